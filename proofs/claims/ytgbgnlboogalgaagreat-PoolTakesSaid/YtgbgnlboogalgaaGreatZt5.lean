/-
  PoolTakes answers true for every input, and leaves its arguments as they were. No conditions.
-/
import Derived.Test.YtgbgnlboogalgaaGreatZt4
namespace Go.Proofs.YtgbgnlboogalgaaGreat
open Go.Proofs
set_option linter.unusedVariables false
/-- All that waits, in the order. -/
noncomputable def ordW (ws : List Wm) : List Wm := ordL wK wN wF ws
theorem ordW_spec (ws : List Wm) : Ord wK wN wF ws (ordW ws) := ordL_spec ws
theorem ordW_perm (ws : List Wm) : (ordW ws).Perm ws := ordL_perm ws
theorem ordW_len (ws : List Wm) : (ordW ws).length = ws.length := ordL_length ws
theorem ordW_en (ws : List Wm) : (ordW ws).map Wm.en = ordE (ws.map Wm.en) := ordW_E (ordW_spec ws)
theorem own_nilB {w : World} {b base : Nat} (hB : Blk w b (.cells (flt wc []).toArray 67)) (hb : base ≤ b) : w.ownsRow base 67 14 (.slice (some ⟨b, 0, none⟩) 0 0) ([] : List Wm).length (flt wc []) := own_made wc_length hB hb rfl (by simp [maxLen])
attribute [local irreducible] CG NG SG Vals Der Row Blk MapIs IterAt DerX DerR wrongT nameT
set_option maxHeartbeats 32000000 in
theorem rorder_spec {w : World} {n : Nat} {a : Option Addr} {c : Nat} {ws : List Wm} {room : Int} (hP : PD w n a c ws) (hl : ws.length ≤ 1024) : RetO Tryz.prog 67 wc 14 27 #[.agg (pdc room a ws.length c).toArray] w (ordW ws) := by
  refine enter1 Tryz.func27 rfl Tryz.ntmps27 rfl ?_
  repeat (first|apply cA|apply cB)
  refine SG.box rfl rfl rfl (by exact rho_of rfl) (fun b1 w1 hk1 hb1 hB1 => ?_)
  have hB1 : Blk w1 b1 (.cells (pdc room a ws.length c).toArray 29) := hB1
  obtain ⟨-, -, q⟩ := pdc_rows hB1
  have s1 := hk1.size
  clear hB1
  repeat (first|apply cA|apply cB|apply cD|apply cE|refine cV rfl rfl rfl rfl (by first|(apply qas<;>(exact rfl))|fail) ?_)
  refine SG.buildSlice rfl rfl rfl rfl bsw0 (fun b9 w2 hk2 hb9 hB9 => ?_)
  have q := q.kp0 hk2
  have k2 := hk1.trans hk2
  have s2 := k2.size
  repeat (first|refine cV rfl rfl rfl rfl (by first|((first|apply qlc|apply qfa)<;>(first|exact rfl|assumption|exact List.not_mem_nil))|fail) ?_)
  refine SG.appO (enc := wc) (xs := []) (ys := ws) (base := w.heap.size) rfl rfl rfl (by exact rho_of rfl) (by exact rho_of rfl) rfl rfl rfl rfl wc_length wc_one (own_nilB hB9 (by omega)) (hP.sl.kp0 k2) (by simp only [maxLen, List.length_nil]; omega) (by simp only [List.length_nil]; show (_ + _) * 88 ≤ _; omega) s2 (fun v3 w3 hk3 ho3 _ => ?_)
  have ho3 : w3.ownsRow w.heap.size 67 14 v3 ws.length (flt wc ws) := ho3
  have k3 : Kp [] w w3 := k2.trans_new hk3 (own_new (own_nilB hB9 (base := w.heap.size) (by omega)) (Nat.le_refl _))
  clear q hB9
  repeat (first|apply cA|apply cB|apply cD|apply cE|apply cG|refine cV rfl rfl rfl rfl (by first|(apply qas<;>(exact rfl))|fail) ?_)
  refine CG.loop (X := (Value × List Wm) × (Value × List Wm)) (fun x => [(3, x.2.1), (4, x.1.1)])
    (fun x w' => Kp [] w w' ∧ w'.ownsRow w.heap.size 67 14 x.1.1 x.1.2.length (flt wc x.1.2) ∧ w'.ownsRow w.heap.size 67 14 x.2.1 x.2.2.length (flt wc x.2.2) ∧ Apart x.1.1 x.2.1 ∧ (∀ e ∈ x.2.2, e ∈ ws) ∧ x.1.2.length + x.2.2.length = ws.length ∧ ∀ r, Ord wK wN wF x.2.2 r → Ord wK wN wF ws (x.1.2 ++ r))
    (fun x => x.2.2.length) ((.slice none 0 0, []), (v3, ws)) ⟨k3, own_nil, ho3, fun b hb => (by cases hb), fun e h => h, by simp, fun r h => h⟩ (by (repeat' (first | exact True.intro | exact rfl | refine And.intro ?_ ?_))) ?_
  clear ho3 k3 hk3
  rintro ⟨⟨vo, out⟩, ⟨vl, left⟩⟩ w4 ⟨hk4, ho4, hl4, hap, hmem, hlen, hord⟩
  simp only at ho4 hl4 hap hmem hlen hord
  refine CG.to [(3, vl), (4, vo)] (by (repeat' (first | exact True.intro | exact rfl | refine And.intro ?_ ?_))) ?_
  obtain ⟨al, cl, rfl, hcl, hSl⟩ := Sl.own wc_length hl4 rfl
  have s4 := hk4.size
  by_cases h0 : left.length = 0
  · have g1 : ¬ (0 : Int) < (left.length : Int) := by omega
    have e0 : left = [] := List.eq_nil_of_length_eq_zero h0
    have e1 : ordW ws = out := by
      have := hord [] (by rw [e0]; exact .nil)
      rw [List.append_nil] at this
      exact this.eq
    repeat (first|apply cA|apply cB|apply cD|apply cE|refine cV rfl rfl rfl rfl (by first|((first|apply qmv|apply qln|apply qgt)<;>(first|exact rfl|exact dcf (by first|assumption|omega)|fail))|fail) ?_)
    refine dA rfl (by exact rho_of rfl) rfl ?_
    repeat (first|apply cA|apply cB|apply cD|apply cE|apply cH|apply cJ|apply cM|refine cQ rfl ?_|refine cV rfl rfl rfl rfl (by first|((first|apply qmv|apply qas)<;>(exact rfl))|fail) ?_)
    refine ret1 (Or.inl rfl) Tryz.results27 (by first | exact ResV.tmp rfl | exact ResV.agg rfl rfl (by assumption) (by first | exact dc_length _ | exact nc_length _ | exact rc_length _ _ _ | exact ec_length _ | exact dl_length _ _ _ _ | rfl) | exact ResV.cell rfl rfl (by assumption)) ?_
    exact ⟨vo, rfl, by rw [e1]; exact ho4, hk4⟩
  have g1 : (0 : Int) < (left.length : Int) := by omega
  repeat (first|apply cA|apply cB|apply cD|apply cE|refine cV rfl rfl rfl rfl (by first|((first|apply qmv|apply qln|apply qgt)<;>(first|exact rfl|exact dct (by first|assumption|omega)|fail))|fail) ?_)
  refine cZ rfl (by exact rho_of rfl) rfl ?_
  repeat (first|apply cA|apply cB|apply cD|apply cE|apply cF|apply cG|refine cV rfl rfl rfl rfl (by first|(apply qas<;>(exact rfl))|fail) ?_)
  refine CG.loop (X := Nat × Int) (fun x => [(3, .slice al left.length cl), (4, vo), (5, .int .i64 x.2), (6, .int .i64 (x.1 : Int))]) (fun x w' => x.1 ≤ left.length ∧ Kp [] w4 w' ∧ InW left x.1 x.2) (fun x => left.length - x.1) (0, -1) ⟨Nat.zero_le _, Kp.refl _ _, InW.init _⟩ (by (repeat' (first | exact True.intro | exact rfl | refine And.intro ?_ ?_))) ?_
  rintro ⟨i, z⟩ w5 ⟨hi, hk5, hIn⟩
  simp only at hi hIn
  refine CG.to [(3, .slice al left.length cl), (4, vo), (5, .int .i64 z), (6, .int .i64 (i : Int))] (by (repeat' (first | exact True.intro | exact rfl | refine And.intro ?_ ?_))) ?_
  by_cases hlt : i < left.length
  rotate_left
  · have g2 : ¬ (i : Int) < (left.length : Int) := by omega
    have ei : i = left.length := by omega
    subst ei
    obtain ⟨b, hb, rfl, hB⟩ := hIn.best (by omega)
    obtain ⟨bl, ol, rfl, rb⟩ := (hSl.kp0 hk5).at hb
    have gb : (b : Int) < (left.length : Int) := by omega
    repeat (first|apply cA|apply cB|apply cD|apply cE|refine cV rfl rfl rfl rfl (by first|((first|apply qmv|apply qls|apply qln)<;>(first|exact rfl|exact dcf (by first|assumption|omega)|fail))|fail) ?_)
    refine dA rfl (by exact rho_of rfl) rfl ?_
    repeat (first|apply cA|apply cB|apply cE|apply cJ|apply cM|refine cQ rfl ?_|refine cV rfl rfl rfl rfl (by first|((first|apply qmv|apply qla|apply qix)<;>(first|exact rfl|exact Ar.mk (by omega)|assumption|exact List.not_mem_nil|apply wc_length|fail))|fail) ?_)
    refine SG.buildSlice rfl rfl rfl rfl (bsw left[b]) (fun b6 w6 hk6 hb6 hB6 => ?_)
    have hS6 : Sl wc 14 w6 (some ⟨b6, 0, none⟩) [left[b]] := sl_one wc_length hB6
    have k46 := hk5.trans hk6
    have ho6 := own_kp0 ho4 k46
    have hl6 := own_kp0 hl4 k46
    have k6 := hk4.trans k46
    clear rb
    skip
    refine SG.appO (enc := wc) (xs := out) (ys := [left[b]]) (base := w.heap.size) rfl rfl rfl (by exact rho_of rfl) (by exact rho_of rfl) rfl rfl rfl rfl wc_length wc_one ho6 hS6 (by simp only [maxLen, List.length_cons, List.length_nil]; omega) (by simp only [List.length_cons, List.length_nil]; show (_ + _) * 88 ≤ _; omega) k6.size (fun v' w7 hk7 ho7 hv7 => ?_)
    have hl7 := own_apart hap hl6 hk7
    have k7 : Kp [] w w7 := k6.trans_new hk7 (own_new ho6 (Nat.le_refl _))
    obtain ⟨a', c', e', hD7⟩ := PD.own hl7 (fun e he => (hP.ins e (hmem e he)).kp0 k7)
    cases e'
    repeat (first|apply cB|apply cD|apply cE|refine cV rfl rfl rfl rfl (by first|((first|apply qmv|apply qas)<;>(exact rfl))|fail) ?_)
    refine SG.call rfl rfl rfl (vs := [.slice (some ⟨bl, ol, none⟩) left.length cl, .int .i64 (b : Int)]) (by repeat' (first | exact True.intro | exact rho_of rfl | refine And.intro ?_ ?_)) ((without_spec hD7 (by omega) hb).mono (fun e w8 hh => ?_))
    obtain ⟨v8, he, ho8, hk8⟩ := hh
    refine ⟨_, he, ?_⟩
    clear he
    have hel : (left.eraseIdx b).length = left.length - 1 := by rw [List.length_eraseIdx, if_pos hb]
    repeat (first|apply cD|apply cU|refine cV rfl rfl rfl rfl (by first|(apply qas<;>(exact rfl))|fail) ?_)
    refine NG.round ((v', out ++ [left[b]]), (v8, left.eraseIdx b)) (by (repeat' (first | exact True.intro | exact rfl | refine And.intro ?_ ?_))) ⟨k7.trans hk8, own_kp0 ho7 hk8, own_mono ho8 k7.size, fun b h1 h2 => ?_, fun e he => hmem e (List.mem_of_mem_eraseIdx he), ?_, ord_step hord hb hB⟩ (by simp only; omega)
    · have h3 := own_lt ho7 b h1
      have h4 := own_geB ho8 b h2
      omega
    · simp only [List.length_append, List.length_cons, List.length_nil]
      omega
  have g2 : (i : Int) < (left.length : Int) := by omega
  repeat (first|apply cA|apply cB|apply cD|apply cE|refine cV rfl rfl rfl rfl (by first|((first|apply qmv|apply qls|apply qln)<;>(first|exact rfl|exact dct (by first|assumption|omega)|fail))|fail) ?_)
  refine cZ rfl (by exact rho_of rfl) rfl ?_
  repeat (first|apply cA|apply cB|apply cD|apply cE|apply cF|apply cG|refine cV rfl rfl rfl rfl (by first|(apply qas<;>(exact rfl))|fail) ?_)
  refine CG.loop (X := Nat × Bool) (fun x => [(3, .slice al left.length cl), (4, vo), (5, .int .i64 z), (6, .int .i64 (i : Int)), (7, .bool x.2), (8, .int .i64 (x.1 : Int))]) (fun x w' => x.1 ≤ left.length ∧ Kp [] w4 w' ∧ (x.2 = true ↔ FstK left left[i] x.1)) (fun x => left.length - x.1) (0, true) ⟨Nat.zero_le _, hk5, iff_of_true rfl (FstK.zero _ _)⟩ (by (repeat' (first | exact True.intro | exact rfl | refine And.intro ?_ ?_))) ?_
  clear hk5
  rintro ⟨k, fb⟩ w5 ⟨hk, hk5, hF⟩
  simp only at hk hF
  refine CG.to [(3, .slice al left.length cl), (4, vo), (5, .int .i64 z), (6, .int .i64 (i : Int)), (7, .bool fb), (8, .int .i64 (k : Int))] (by (repeat' (first | exact True.intro | exact rfl | refine And.intro ?_ ?_))) ?_
  have hS5 := hSl.kp0 hk5
  obtain ⟨bl, ol, rfl, ri⟩ := hS5.at hlt
  obtain ⟨-, i0, i1, i2, -⟩ := wc_rows ri
  clear ri
  by_cases hkl : k < left.length
  · have g3 : (k : Int) < (left.length : Int) := by omega
    have rk : Row w5 bl (ol + k * 14) (wc left[k]) := hS5.row (List.getElem?_eq_getElem hkl)
    obtain ⟨-, k0, k1, -, -⟩ := wc_rows rk
    clear rk i2
    have hsu := FstK.succ (e := left[i]) hkl
    repeat (first|apply cA|apply cB|apply cD|apply cE|refine cV rfl rfl rfl rfl (by first|((first|apply qmv|apply qls|apply qln)<;>(first|exact rfl|exact dct (by first|assumption|omega)|fail))|fail) ?_)
    refine cZ rfl (by exact rho_of rfl) rfl ?_
    cases fb with
    | false =>
      have hno : ¬ FstK left left[i] k := fun h => Bool.noConfusion (hF.2 h)
      repeat (first|apply cA|apply cE|apply cF|apply cG)
      refine CG.tail mixed 32 [0, 1, 2, 3, 4, 5, 6, 7, 8, 9, 10, 11, 12, 13, 14, 15, 16, 17, 18, 19, 20, 21, 22, 23, 24, 25, 26, 27, 28, 29, 30, 31] (by kernel_rfl) ?_
      repeat (first | refine cY rfl rfl rfl (by first|((first|apply qmv|apply qpk)<;>(exact rfl))|fail) ?_ | refine Der.skip rfl rfl ?_)
      refine Der.tl (fun w6 hk6 _ _ => ?_)
      repeat (first|apply cB|apply cD|apply cE|apply cU|refine cV rfl rfl rfl rfl (by first|((first|apply qmv|apply qas|apply qad)<;>(first|exact rfl|exact Ar.mk (by omega)|fail))|fail) ?_)
      refine NG.round (k + 1, false) (by (repeat' (first | exact True.intro | exact rfl | refine And.intro ?_ ?_))) ⟨by simp only; omega, hk5.trans hk6, by simp only; rw [hsu]; exact iff_of_false (by decide) (fun h => hno h.1)⟩ (by simp only; omega)
    | true =>
      have hyes := hF.1 rfl
      by_cases he : left[k].x.t.frm = left[i].x.t.frm
      · by_cases hn : left[k].x.t.non < left[i].x.t.non
        · repeat (first|apply cA|apply cE|apply cF|apply cG)
          refine CG.tail mixed 32 [0, 1, 2, 3, 4, 5, 6, 7, 8, 9, 10, 11, 12, 13, 14, 15, 16, 17, 18, 19, 20, 21, 22, 23, 24, 25, 26, 27, 28, 29, 30, 31] (by kernel_rfl) ?_
          repeat (refine cY rfl rfl rfl (by first|((first|apply qmv|apply qlc|apply qla|apply qfa|apply qix|apply qpk|apply qls|apply qed|apply qnt)<;>(first|exact rfl|exact Ar.mk (by omega)|assumption|exact dct (by first|assumption|omega)|exact List.not_mem_nil|apply dc_length|fail))|fail) ?_)
          refine Der.tl (fun w6 hk6 _ _ => ?_)
          repeat (first|apply cB|apply cD|apply cE|apply cU|refine cV rfl rfl rfl rfl (by first|((first|apply qmv|apply qas|apply qad)<;>(first|exact rfl|exact Ar.mk (by omega)|fail))|fail) ?_)
          refine NG.round (k + 1, false) (by (repeat' (first | exact True.intro | exact rfl | refine And.intro ?_ ?_))) ⟨by simp only; omega, hk5.trans hk6, by simp only; rw [hsu]; exact iff_of_false (by decide) (fun h => h.2 ⟨he, hn⟩)⟩ (by simp only; omega)
        · repeat (first|apply cA|apply cE|apply cF|apply cG)
          refine CG.tail mixed 32 [0, 1, 2, 3, 4, 5, 6, 7, 8, 9, 10, 11, 12, 13, 14, 15, 16, 17, 18, 19, 20, 21, 22, 23, 24, 25, 26, 27, 28, 29, 30, 31] (by kernel_rfl) ?_
          repeat (refine cY rfl rfl rfl (by first|((first|apply qmv|apply qlc|apply qla|apply qfa|apply qix|apply qpk|apply qls|apply qed|apply qnt)<;>(first|exact rfl|exact Ar.mk (by omega)|assumption|exact dct (by first|assumption|omega)|exact dcf (by first|assumption|omega)|exact List.not_mem_nil|apply dc_length|fail))|fail) ?_)
          refine Der.tl (fun w6 hk6 _ _ => ?_)
          repeat (first|apply cB|apply cD|apply cE|apply cU|refine cV rfl rfl rfl rfl (by first|((first|apply qmv|apply qas|apply qad)<;>(first|exact rfl|exact Ar.mk (by omega)|fail))|fail) ?_)
          refine NG.round (k + 1, true) (by (repeat' (first | exact True.intro | exact rfl | refine And.intro ?_ ?_))) ⟨by simp only; omega, hk5.trans hk6, iff_of_true rfl (hsu.2 ⟨hyes, fun h => hn h.2⟩)⟩ (by simp only; omega)
      · repeat (first|apply cA|apply cE|apply cF|apply cG)
        refine CG.tail mixed 32 [0, 1, 2, 3, 4, 5, 6, 7, 8, 9, 10, 11, 12, 13, 14, 15, 16, 17, 18, 19, 20, 21, 22, 23, 24, 25, 26, 27, 28, 29, 30, 31] (by kernel_rfl) ?_
        repeat (first | refine cY rfl rfl rfl (by first|((first|apply qmv|apply qla|apply qfa|apply qix|apply qpk|apply qed|apply qnt)<;>(first|exact rfl|exact Ar.mk (by omega)|assumption|exact dcf (by first|assumption|omega)|exact List.not_mem_nil|apply dc_length|fail))|fail) ?_ | refine Der.skip rfl rfl ?_)
        refine Der.tl (fun w6 hk6 _ _ => ?_)
        repeat (first|apply cB|apply cD|apply cE|apply cU|refine cV rfl rfl rfl rfl (by first|((first|apply qmv|apply qas|apply qad)<;>(first|exact rfl|exact Ar.mk (by omega)|fail))|fail) ?_)
        refine NG.round (k + 1, true) (by (repeat' (first | exact True.intro | exact rfl | refine And.intro ?_ ?_))) ⟨by simp only; omega, hk5.trans hk6, iff_of_true rfl (hsu.2 ⟨hyes, fun h => he h.1⟩)⟩ (by simp only; omega)
  have g3 : ¬ (k : Int) < (left.length : Int) := by omega
  have ek : k = left.length := by omega
  subst ek
  rw [FstK.full] at hF
  clear i0 i1
  repeat (first|apply cA|apply cB|apply cD|apply cE|refine cV rfl rfl rfl rfl (by first|((first|apply qmv|apply qls|apply qln)<;>(first|exact rfl|exact dcf (by first|assumption|omega)|fail))|fail) ?_)
  refine dA rfl (by exact rho_of rfl) rfl ?_
  cases fb with
  | false =>
    have hno : ¬ Frst wK wN left left[i] := fun h => Bool.noConfusion (hF.2 h)
    repeat (first|apply cA|apply cE|apply cJ|apply cM|refine cQ rfl ?_)
    refine CG.tail mixed 19 [0, 1, 2, 3, 4, 5, 6, 7, 8, 9, 10, 11, 12, 13, 14, 15, 16, 17, 18] (by kernel_rfl) ?_
    repeat (first | refine cY rfl rfl rfl (by first|(apply qmv<;>(exact rfl))|fail) ?_ | refine Der.skip rfl rfl ?_)
    refine Der.tl (fun w6 hk6 _ _ => ?_)
    repeat (first|apply cD|apply cE|refine cV rfl rfl rfl rfl (by first|(apply qpk<;>(exact rfl))|fail) ?_)
    refine dA rfl (by exact rho_of rfl) rfl ?_
    repeat (first|apply cB|apply cD|apply cE|apply cF|apply cU|refine cV rfl rfl rfl rfl (by first|((first|apply qmv|apply qas|apply qad)<;>(first|exact rfl|exact Ar.mk (by omega)|fail))|fail) ?_)
    refine NG.round (i + 1, z) (by (repeat' (first | exact True.intro | exact rfl | refine And.intro ?_ ?_))) ⟨by simp only; omega, hk5.trans hk6, hIn.skip hlt hno⟩ (by simp only; omega)
  | true =>
    have hyes := hF.1 rfl
    rcases hIn.cases with rfl | ⟨b, hb, rfl⟩
    · have g4 : (-1 : Int) < 0 := by omega
      repeat (first|apply cA|apply cE|apply cJ|apply cM|refine cQ rfl ?_)
      refine CG.tail mixed 19 [0, 1, 2, 3, 4, 5, 6, 7, 8, 9, 10, 11, 12, 13, 14, 15, 16, 17, 18] (by kernel_rfl) ?_
      repeat (first | refine cY rfl rfl rfl (by first|((first|apply qmv|apply qpk|apply qls)<;>(first|exact rfl|exact dct (by first|assumption|omega)|fail))|fail) ?_ | refine Der.skip rfl rfl ?_)
      refine Der.tl (fun w6 hk6 _ _ => ?_)
      repeat (first|apply cD|apply cE|refine cV rfl rfl rfl rfl (by first|(apply qpk<;>(exact rfl))|fail) ?_)
      refine cZ rfl (by exact rho_of rfl) rfl ?_
      repeat (first|apply cB|apply cD|apply cE|apply cU|refine cV rfl rfl rfl rfl (by first|((first|apply qmv|apply qas|apply qad)<;>(first|exact rfl|exact Ar.mk (by omega)|fail))|fail) ?_)
      refine NG.round (i + 1, (i : Int)) (by (repeat' (first | exact True.intro | exact rfl | refine And.intro ?_ ?_))) ⟨by simp only; omega, hk5.trans hk6, hIn.first hlt hyes⟩ (by simp only; omega)
    · have g4 : ¬ (b : Int) < 0 := by omega
      have g5 : (b : Int) < (left.length : Int) := by omega
      have rb : Row w5 bl (ol + b * 14) (wc left[b]) := hS5.row (List.getElem?_eq_getElem hb)
      obtain ⟨-, -, -, b2, -⟩ := wc_rows rb
      clear rb
      by_cases hg : left[b].x.t.fee < left[i].x.t.fee
      · repeat (first|apply cA|apply cE|apply cJ|apply cM|refine cQ rfl ?_)
        refine CG.tail mixed 19 [0, 1, 2, 3, 4, 5, 6, 7, 8, 9, 10, 11, 12, 13, 14, 15, 16, 17, 18] (by kernel_rfl) ?_
        repeat (refine cY rfl rfl rfl (by first|((first|apply qmv|apply qlc|apply qfa|apply qix|apply qpk|apply qls|apply qgt)<;>(first|exact rfl|exact Ar.mk (by omega)|assumption|exact dct (by first|assumption|omega)|exact dcf (by first|assumption|omega)|exact List.not_mem_nil|fail))|fail) ?_)
        refine Der.tl (fun w6 hk6 _ _ => ?_)
        repeat (first|apply cD|apply cE|refine cV rfl rfl rfl rfl (by first|(apply qpk<;>(exact rfl))|fail) ?_)
        refine cZ rfl (by exact rho_of rfl) rfl ?_
        repeat (first|apply cB|apply cD|apply cE|apply cU|refine cV rfl rfl rfl rfl (by first|((first|apply qmv|apply qas|apply qad)<;>(first|exact rfl|exact Ar.mk (by omega)|fail))|fail) ?_)
        refine NG.round (i + 1, (i : Int)) (by (repeat' (first | exact True.intro | exact rfl | refine And.intro ?_ ?_))) ⟨by simp only; omega, hk5.trans hk6, hIn.turn hb hlt hyes hg⟩ (by simp only; omega)
      · repeat (first|apply cA|apply cE|apply cJ|apply cM|refine cQ rfl ?_)
        refine CG.tail mixed 19 [0, 1, 2, 3, 4, 5, 6, 7, 8, 9, 10, 11, 12, 13, 14, 15, 16, 17, 18] (by kernel_rfl) ?_
        repeat (refine cY rfl rfl rfl (by first|((first|apply qmv|apply qlc|apply qfa|apply qix|apply qpk|apply qls|apply qgt)<;>(first|exact rfl|exact Ar.mk (by omega)|assumption|exact dcf (by first|assumption|omega)|exact List.not_mem_nil|fail))|fail) ?_)
        refine Der.tl (fun w6 hk6 _ _ => ?_)
        repeat (first|apply cD|apply cE|refine cV rfl rfl rfl rfl (by first|(apply qpk<;>(exact rfl))|fail) ?_)
        refine dA rfl (by exact rho_of rfl) rfl ?_
        repeat (first|apply cB|apply cD|apply cE|apply cF|apply cU|refine cV rfl rfl rfl rfl (by first|((first|apply qmv|apply qas|apply qad)<;>(first|exact rfl|exact Ar.mk (by omega)|fail))|fail) ?_)
        refine NG.round (i + 1, (b : Int)) (by (repeat' (first | exact True.intro | exact rfl | refine And.intro ?_ ?_))) ⟨by simp only; omega, hk5.trans hk6, hIn.keep hb hlt hg⟩ (by simp only; omega)
end Go.Proofs.YtgbgnlboogalgaaGreat
namespace Go.Proofs.YtgbgnlboogalgaaGreat
set_option linter.unusedVariables false
theorem ex_perm {L L' : List (Dg × Int)} (h : L.Perm L') (e : En) : exB L e = exB L' e := by
  unfold exB
  cases hb : L'.any (fun p => decide (p.1 = e.key ∧ p.2 ≤ e.non)) with
  | true =>
    obtain ⟨p, h1, h2⟩ := List.any_eq_true.1 hb
    exact List.any_eq_true.2 ⟨p, h.mem_iff.2 h1, h2⟩
  | false =>
    rw [List.any_eq_false] at hb ⊢
    exact fun p hp => hb p (h.mem_iff.1 hp)
theorem out_perm {l l' : List En} (h : l.Perm l') (ns : List Dg) : (outL l ns).Perm (outL l' ns) := (h.filter _).map _
theorem out_ord (l : List En) (ns : List Dg) : (ordE l).filter (fun e => !exB (outL (ordE l) ns) e) = (ordE l).filter (fun e => !exB (outL l ns) e) := List.filter_congr (fun e _ => by rw [ex_perm (out_perm (ordE_perm l) ns) e])
/-- Left out, one behind the other. -/
def badE (ns : List Dg) (e : Wm) : Prop := nameT e.x.t ∈ ns
def GoneK (r : List Wm) (ns : List Dg) (i : Nat) (k : Dg) : Prop := ∃ o ∈ r.take i, badE ns o ∧ wK o = k
theorem gone_succ {r : List Wm} {ns : List Dg} {i : Nat} (hi : i < r.length) (k : Dg) : GoneK r ns (i + 1) k ↔ GoneK r ns i k ∨ (badE ns r[i] ∧ wK r[i] = k) := by
  unfold GoneK
  rw [List.take_succ_eq_append_getElem hi]
  constructor
  · rintro ⟨o, h1, h2⟩
    rcases List.mem_append.1 h1 with h1 | h1
    · exact Or.inl ⟨o, h1, h2⟩
    · rw [List.mem_singleton] at h1
      subst h1
      exact Or.inr h2
  · rintro (⟨o, h1, h2⟩ | h2)
    · exact ⟨o, List.mem_append_left _ h1, h2⟩
    · exact ⟨r[i], List.mem_append_right _ (List.mem_singleton.2 rfl), h2⟩
theorem gone_ex {r : List Wm} {ns : List Dg} (hr : r.Pairwise (fun a b => wK a = wK b → wN a < wN b)) {i : Nat} (hi : i < r.length) : exB (outL (r.map Wm.en) ns) r[i].en = true ↔ badE ns r[i] ∨ GoneK r ns i (wK r[i]) := by
  unfold exB outL
  rw [List.any_eq_true]
  constructor
  · rintro ⟨p, h1, h2⟩
    have h2 := of_decide_eq_true h2
    obtain ⟨e, h3, rfl⟩ := List.mem_map.1 h1
    obtain ⟨h3, h4⟩ := List.mem_filter.1 h3
    obtain ⟨o, h5, rfl⟩ := List.mem_map.1 h3
    have h4 : nameT o.x.t ∈ ns := of_decide_eq_true h4
    obtain ⟨j, hj, rfl⟩ := List.getElem_of_mem h5
    have hk : wK r[j] = wK r[i] := h2.1
    have hn : wN r[j] ≤ wN r[i] := h2.2
    by_cases e : j = i
    · subst e; exact Or.inl h4
    · by_cases hlt : j < i
      · refine Or.inr ⟨r[j], ?_, h4, hk⟩
        rw [List.mem_take_iff_getElem]
        exact ⟨j, by omega, rfl⟩
      · have := List.pairwise_iff_getElem.1 hr i j hi hj (by omega) hk.symm
        omega
  · rintro (h | ⟨o, h1, h2, h3⟩)
    · exact ⟨pairE r[i].en, List.mem_map.2 ⟨_, List.mem_filter.2 ⟨List.mem_map.2 ⟨r[i], List.getElem_mem hi, rfl⟩, decide_eq_true h⟩, rfl⟩, decide_eq_true ⟨rfl, Int.le_refl _⟩⟩
    · obtain ⟨j, hj, rfl⟩ := List.mem_take_iff_getElem.1 h1
      have hj2 : j < i := by omega
      have := List.pairwise_iff_getElem.1 hr j i (by omega) hi hj2 h3
      refine ⟨pairE r[j].en, List.mem_map.2 ⟨_, List.mem_filter.2 ⟨List.mem_map.2 ⟨r[j], List.getElem_mem _, rfl⟩, decide_eq_true h2⟩, rfl⟩, decide_eq_true ⟨h3, ?_⟩⟩
      show wN r[j] ≤ wN r[i]
      omega
/-- What is taken. -/
def keepB (r : List Wm) (ns : List Dg) (e : Wm) : Bool := !exB (outL (r.map Wm.en) ns) e.en
theorem take_filt {α : Type} (p : α → Bool) (m : Nat) {l : List α} {i : Nat} (hi : i < l.length) : ((l.take (i + 1)).filter p).take m = if p l[i] = true ∧ ((l.take i).filter p).length < m then ((l.take i).filter p).take m ++ [l[i]] else ((l.take i).filter p).take m := by
  rw [List.take_succ_eq_append_getElem hi, List.filter_append]
  by_cases h : p l[i] = true
  · rw [List.filter_cons_of_pos h, List.filter_nil]
    by_cases h2 : ((l.take i).filter p).length < m
    · rw [if_pos ⟨h, h2⟩, List.take_of_length_le (l := (l.take i).filter p) (by omega), List.take_of_length_le]
      rw [List.length_append, List.length_singleton]; omega
    · rw [if_neg (fun hh => h2 hh.2), List.take_append_of_le_length (by omega)]
  · rw [if_neg (fun hh => h hh.1), List.filter_cons_of_neg h, List.filter_nil, List.append_nil]
end Go.Proofs.YtgbgnlboogalgaaGreat
namespace Go.Proofs.YtgbgnlboogalgaaGreat
open Go.Proofs
set_option linter.unusedVariables false
theorem row_at {w : World} {b off i : Nat} {l : List Value} {v : Value} (h : Row w b off l) (hv : l[i]? = some v) : Row w b (off + i * 1) [v] := by
  obtain ⟨cs, T, f, h1, h2⟩ := h
  refine ⟨cs, T, f, h1, fun j u hj => ?_⟩
  cases j with
  | zero =>
    simp at hj
    subst hj
    rw [show off + i * 1 + 0 = off + i from by omega]
    exact h2 i v hv
  | succ j => simp at hj
attribute [local irreducible] CG NG SG Vals Der Row Blk MapIs IterAt addI xorI orI andI shlI shrI mulI
set_option maxHeartbeats 8000000 in
theorem rnum_spec (d : Dg) (w : World) : Ret Tryz.prog 77 #[dv d] w (.int .u64 (num d : Int)) := by
  refine enter1 Tryz.func77 rfl Tryz.ntmps77 rfl ?_
  repeat (first|apply cA|apply cB|apply cD|apply cE|apply cF|apply cG|apply cH|apply cJ|apply cM|refine cQ rfl ?_|apply cU|refine cV rfl rfl rfl rfl (by first|(apply qb64<;>(first|exact rfl|assumption|exact Ar.mk (by omega)|exact dct (by first|assumption|omega)|exact dcf (by first|assumption|omega)|exact List.not_mem_nil|apply dc_length|fail))|((first|apply quad|apply quml|apply quxo|apply qia0|apply qia|apply qmv|apply qas|apply qlc|apply qge|apply qsb)<;>(first|exact rfl|assumption|exact Ar.mk (by omega)|exact dct (by first|assumption|omega)|exact dcf (by first|assumption|omega)|exact List.not_mem_nil|apply dc_length|fail))|fail) ?_)
  refine SG.box rfl rfl rfl (by exact rho_of rfl) (fun b1 w1 hk1 hb1 hB1 => ?_)
  have hB1 : Blk w1 b1 (.cells (dc d).toArray 24) := hB1
  have hr := Row.all hB1 (l := dc d) rfl
  repeat (first|apply cA|apply cB|apply cD|apply cE|apply cF|apply cG|apply cH|apply cJ|apply cM|refine cQ rfl ?_|apply cU|refine cV rfl rfl rfl rfl (by first|(apply qb64<;>(first|exact rfl|assumption|exact Ar.mk (by omega)|exact dct (by first|assumption|omega)|exact dcf (by first|assumption|omega)|exact List.not_mem_nil|apply dc_length|fail))|((first|apply quad|apply quml|apply quxo|apply qia0|apply qia|apply qmv|apply qas|apply qlc|apply qge|apply qsb)<;>(first|exact rfl|assumption|exact Ar.mk (by omega)|exact dct (by first|assumption|omega)|exact dcf (by first|assumption|omega)|exact List.not_mem_nil|apply dc_length|fail))|fail) ?_)
  have h8 : val (d.1.drop 8) = 0 := by rw [List.drop_of_length_le (by rw [d.2]; omega)]; rfl
  refine CG.loop (X := Nat) (fun j => [(1, .pointer (some ⟨b1, 0, none⟩)), (3, .int .u64 (val (d.1.drop j) : Int)), (4, .int .i64 ((j : Int) - 1))])
    (fun j w' => j ≤ 8 ∧ w' = w1) (fun j => j) 8 ⟨by omega, rfl⟩ (by rw [h8]; (repeat' (first | exact True.intro | exact rfl | refine And.intro ?_ ?_))) ?_
  rintro j w2 ⟨hj, rfl⟩
  cases j with
  | zero =>
    have g1 : ¬ (0 : Int) ≤ ((0 : Nat) : Int) - 1 := by omega
    have e0 : val (d.1.drop 0) = num d := rfl
    rw [e0]
    generalize ((0 : Nat) : Int) - 1 = m at g1 ⊢
    repeat (first|apply cA|apply cB|apply cD|apply cE|apply cF|apply cG|apply cH|apply cJ|apply cM|refine cQ rfl ?_|apply cU|refine cV rfl rfl rfl rfl (by first|(apply qb64<;>(first|exact rfl|assumption|exact Ar.mk (by omega)|exact dct (by first|assumption|omega)|exact dcf (by first|assumption|omega)|exact List.not_mem_nil|apply dc_length|fail))|((first|apply quad|apply quml|apply quxo|apply qia0|apply qia|apply qmv|apply qas|apply qlc|apply qge|apply qsb)<;>(first|exact rfl|assumption|exact Ar.mk (by omega)|exact dct (by first|assumption|omega)|exact dcf (by first|assumption|omega)|exact List.not_mem_nil|apply dc_length|fail))|fail) ?_)
    refine dA rfl (by exact rho_of rfl) rfl ?_
    repeat (first|apply cA|apply cB|apply cD|apply cE|apply cF|apply cG|apply cH|apply cJ|apply cM|refine cQ rfl ?_|apply cU|refine cV rfl rfl rfl rfl (by first|(apply qb64<;>(first|exact rfl|assumption|exact Ar.mk (by omega)|exact dct (by first|assumption|omega)|exact dcf (by first|assumption|omega)|exact List.not_mem_nil|apply dc_length|fail))|((first|apply quad|apply quml|apply quxo|apply qia0|apply qia|apply qmv|apply qas|apply qlc|apply qge|apply qsb)<;>(first|exact rfl|assumption|exact Ar.mk (by omega)|exact dct (by first|assumption|omega)|exact dcf (by first|assumption|omega)|exact List.not_mem_nil|apply dc_length|fail))|fail) ?_)
    refine ret1 (Or.inl rfl) Tryz.results77 (by first | exact ResV.tmp rfl | exact ResV.agg rfl rfl (by assumption) (by first | exact dc_length _ | exact nc_length _ | exact rc_length _ _ _ | exact ec_length _ | exact dl_length _ _ _ _ | rfl) | exact ResV.cell rfl rfl (by assumption)) ?_
    exact ⟨rfl, hk1⟩
  | succ k =>
    have hk8 : k < d.1.length := by rw [d.2]; omega
    have ek : ((k + 1 : Nat) : Int) - 1 = (k : Int) := by omega
    have g1 : (0 : Int) ≤ (k : Int) := by omega
    have hv := val_drop (l := d.1) (i := k) hk8
    have hlt : val (d.1.drop (k + 1)) * 256 + d.1[k].toNat < 18446744073709551616 := by
      rw [← hv]
      have h1 := val_lt (d.1.drop k)
      have h2 : (256 : Nat) ^ (d.1.drop k).length ≤ 256 ^ 8 := Nat.pow_le_pow_right (by omega) (by rw [List.length_drop, d.2]; omega)
      have h3 : (256 : Nat) ^ 8 = 18446744073709551616 := rfl
      rw [← h3]
      exact Nat.lt_of_lt_of_le h1 h2
    have e1 := addmul_nat hlt
    rw [← hv] at e1
    clear hlt
    have hrk := row_at hr (i := k) (v := bv d.1[k]) (by simp [dc, hk8])
    rw [ek]
    repeat (first|apply cA|apply cB|apply cD|apply cE|apply cF|apply cG|apply cH|apply cJ|apply cM|refine cQ rfl ?_|apply cU|refine cV rfl rfl rfl rfl (by first|(apply qb64<;>(first|exact rfl|assumption|exact Ar.mk (by omega)|exact dct (by first|assumption|omega)|exact dcf (by first|assumption|omega)|exact List.not_mem_nil|apply dc_length|fail))|((first|apply quad|apply quml|apply quxo|apply qia0|apply qia|apply qmv|apply qas|apply qlc|apply qge|apply qsb)<;>(first|exact rfl|assumption|exact Ar.mk (by omega)|exact dct (by first|assumption|omega)|exact dcf (by first|assumption|omega)|exact List.not_mem_nil|apply dc_length|fail))|fail) ?_)
    refine cZ rfl (by exact rho_of rfl) rfl ?_
    repeat (first|apply cA|apply cB|apply cD|apply cE|apply cF|apply cG|apply cH|apply cJ|apply cM|refine cQ rfl ?_|apply cU|refine cV rfl rfl rfl rfl (by first|(apply qb64<;>(first|exact rfl|assumption|exact Ar.mk (by omega)|exact dct (by first|assumption|omega)|exact dcf (by first|assumption|omega)|exact List.not_mem_nil|apply dc_length|fail))|((first|apply quad|apply quml|apply quxo|apply qia0|apply qia|apply qmv|apply qas|apply qlc|apply qge|apply qsb)<;>(first|exact rfl|assumption|exact Ar.mk (by omega)|exact dct (by first|assumption|omega)|exact dcf (by first|assumption|omega)|exact List.not_mem_nil|apply dc_length|fail))|fail) ?_)
    rw [e1]
    refine NG.round k (by (repeat' (first | exact True.intro | exact rfl | refine And.intro ?_ ?_))) ⟨by omega, rfl⟩ (by omega)
set_option maxHeartbeats 8000000 in
theorem rout_spec (s : Hs) (w : World) : Ret Tryz.prog 53 #[.agg (hsl s).toArray] w (dv (givesI s)) := by
  refine enter1 Tryz.func53 rfl Tryz.ntmps53 rfl ?_
  obtain ⟨n, hn, hn2⟩ := xorI_nat s.a s.c
  have hg : givesI s = frm n := by unfold givesI; rw [hn]; rfl
  rw [hg]
  have hspec := fun w => rfrom_spec n hn2 w
  clear hn2 hg
  repeat (first|apply cA|apply cB|apply cD|apply cE|apply cF|apply cG|apply cH|apply cJ|apply cM|refine cQ rfl ?_|apply cU|refine cV rfl rfl rfl rfl (by first|(apply qb64<;>(first|exact rfl|assumption|exact Ar.mk (by omega)|exact dct (by first|assumption|omega)|exact dcf (by first|assumption|omega)|exact List.not_mem_nil|apply dc_length|fail))|((first|apply quad|apply quml|apply quxo|apply qia0|apply qia|apply qmv|apply qas|apply qlc|apply qge|apply qsb)<;>(first|exact rfl|assumption|exact Ar.mk (by omega)|exact dct (by first|assumption|omega)|exact dcf (by first|assumption|omega)|exact List.not_mem_nil|apply dc_length|fail))|fail) ?_)
  refine SG.box rfl rfl rfl (by exact rho_of rfl) (fun b1 w1 hk1 hb1 hB1 => ?_)
  have hB1 : Blk w1 b1 (.cells (hsl s).toArray 109) := hB1
  refine SG.alloc rfl rfl rfl (fun b2 w2 hk2 hb2 hB2 => ?_)
  have hB2 : Blk w2 b2 (.cells (dc zd).toArray 24) := hB2
  obtain ⟨r0, r1, r2, r3, _⟩ := hs_rows (hB1.kp0 hk2)
  repeat (first|apply cA|apply cB|apply cD|apply cE|apply cF|apply cG|apply cH|apply cJ|apply cM|refine cQ rfl ?_|apply cU|refine cV rfl rfl rfl rfl (by first|(apply qb64<;>(first|exact rfl|assumption|exact Ar.mk (by omega)|exact dct (by first|assumption|omega)|exact dcf (by first|assumption|omega)|exact List.not_mem_nil|apply dc_length|fail))|((first|apply quad|apply quml|apply quxo|apply qia0|apply qia|apply qmv|apply qas|apply qlc|apply qge|apply qsb)<;>(first|exact rfl|assumption|exact Ar.mk (by omega)|exact dct (by first|assumption|omega)|exact dcf (by first|assumption|omega)|exact List.not_mem_nil|apply dc_length|fail))|fail) ?_)
  rw [hn]
  refine SG.ret rfl rfl rfl (by repeat' (first | exact True.intro | exact rho_of rfl | refine And.intro ?_ ?_)) (hspec w2) (fun w3 hk3 => ?_)
  refine SG.setAll (old := dc zd) (l := dc (frm n)) rfl rfl (by exact rho_of rfl) (by exact rho_of rfl) (hB2.kp0 hk3) (dc_length _) (dc_length _) (dc_one _) (fun w4 hk4 hB4 => ?_)
  have hr4 : Row w4 b2 0 (dc (frm n)) := Row.all hB4 rfl
  have s1 := hk1.size
  repeat (first|apply cA|apply cB|apply cD|apply cE|apply cF|apply cG|apply cH|apply cJ|apply cM|refine cQ rfl ?_|apply cU|refine cV rfl rfl rfl rfl (by first|(apply qb64<;>(first|exact rfl|assumption|exact Ar.mk (by omega)|exact dct (by first|assumption|omega)|exact dcf (by first|assumption|omega)|exact List.not_mem_nil|apply dc_length|fail))|((first|apply quad|apply quml|apply quxo|apply qia0|apply qia|apply qmv|apply qas|apply qlc|apply qge|apply qsb)<;>(first|exact rfl|assumption|exact Ar.mk (by omega)|exact dct (by first|assumption|omega)|exact dcf (by first|assumption|omega)|exact List.not_mem_nil|apply dc_length|fail))|fail) ?_)
  refine ret1 (Or.inl rfl) Tryz.results53 (by first | exact ResV.tmp rfl | exact ResV.agg rfl rfl (by assumption) (by first | exact dc_length _ | exact nc_length _ | exact rc_length _ _ _ | exact ec_length _ | exact dl_length _ _ _ _ | rfl) | exact ResV.cell rfl rfl (by assumption)) ?_
  exact ⟨rfl, ((hk1.trans hk2).trans hk3).trans_new hk4 (new1 (by omega))⟩
def padAll (l : List UInt8) : List UInt8 := l ++ 1 :: List.replicate (7 - l.length % 8) 0
theorem padAll_length (l : List UInt8) : (padAll l).length = (l.length / 8 + 1) * 8 := by simp [padAll]; omega
theorem eights_prefix (r : List UInt8) : ∀ (k : Nat) (s : Hs) (l : List UInt8), k * 8 ≤ l.length → eightsI s (l ++ r) k = eightsI s l k
  | 0, _, _, _ => rfl
  | k + 1, s, l, h => by
    have h8 : 8 ≤ l.length := by omega
    rw [eightsI, eightsI, List.take_append_of_le_length h8, List.drop_append_of_le_length h8]
    exact eights_prefix r k _ _ (by rw [List.length_drop]; omega)
theorem eights_pad (s : Hs) (l : List UInt8) : eightsI s (padAll l) (l.length / 8 + 1) = takeI (eightsI s l (l.length / 8)) (val (l.drop (l.length / 8 * 8) ++ [1]) : Int) := by
  rw [eights_step]
  have e1 : eightsI s (padAll l) (l.length / 8) = eightsI s l (l.length / 8) := eights_prefix _ _ _ _ (by omega)
  have e2 : (padAll l).drop (l.length / 8 * 8) = padL (l.drop (l.length / 8 * 8)) := by
    unfold padAll padL
    rw [List.drop_append_of_le_length (by omega), List.length_drop, show l.length - l.length / 8 * 8 = l.length % 8 from by omega]
  have e3 : (l.drop (l.length / 8 * 8)).length < 8 := by rw [List.length_drop]; omega
  rw [e1, e2, List.take_of_length_le (by rw [pad_length e3]; omega), pad_val]
def fillp (r : List UInt8) (k : Nat) : List Value := (r.take k).map bv ++ List.replicate (8 - k) (bv 0)
theorem fillp_length {r : List UInt8} {k : Nat} (h : r.length = 8) (hk : k ≤ 8) : (fillp r k).length = 8 := by simp [fillp]; omega
theorem fillp_zero (r : List UInt8) : fillp r 0 = dc zd := rfl
theorem fillp_all {r : List UInt8} (h : r.length = 8) : fillp r 8 = dc (⟨r, h⟩ : Dg) := by simp [fillp, dc, List.take_of_length_le (Nat.le_of_eq h)]
theorem fillp_step {r : List UInt8} {k : Nat} (hr : r.length = 8) (h : k < 8) : spl (fillp r k) k [bv (r[k]'(by omega))] = fillp r (k + 1) := by
  have hrp : List.replicate (8 - k) (bv 0) = [bv 0] ++ List.replicate (8 - (k + 1)) (bv 0) := by
    rw [show 8 - k = (8 - (k + 1)) + 1 from by omega, List.replicate_succ]
    rfl
  have := spl_mid (pre := (r.take k).map bv) (old := [bv 0]) (post := List.replicate (8 - (k + 1)) (bv 0)) (l := [bv (r[k]'(by omega))]) rfl
  rw [← hrp] at this
  simp only [List.length_map, List.length_take, Nat.min_eq_left (show k ≤ r.length by omega)] at this
  unfold fillp
  rw [this, show r.take (k + 1) = r.take k ++ [r[k]'(by omega)] from List.take_succ_eq_append_getElem (by omega), List.map_append, List.append_assoc]
  rfl
theorem bs0 (w : World) : (Instr.buildSlice 23 0 #[]).run Tryz.prog w = .ok (.slice (some ⟨w.heap.size, 0, none⟩) 0 0) { w with heap := w.heap.push (.cells #[] 5) } := by kernel_rfl
end Go.Proofs.YtgbgnlboogalgaaGreat
namespace Go.Proofs.YtgbgnlboogalgaaGreat
open Go.Proofs
set_option linter.unusedVariables false
/-- What stands behind the bytes after k zeros. -/
def padK (l : List UInt8) (k : Nat) : List UInt8 := l ++ 1 :: List.replicate k 0
theorem padK_length (l : List UInt8) (k : Nat) : (padK l k).length = l.length + 1 + k := by simp [padK]; omega
theorem padK_step (l : List UInt8) (k : Nat) : padK l k ++ [0] = padK l (k + 1) := by
  unfold padK
  rw [List.append_assoc, List.cons_append, ← List.replicate_succ']
attribute [local irreducible] CG NG SG Vals Der Row Blk MapIs IterAt addI xorI orI andI shlI shrI mulI
set_option maxHeartbeats 16000000 in
theorem rbytes_spec {w : World} {s : Hs} {a : Option Addr} {c : Nat} {l : List UInt8} (hS : Sl by1 1 w a l) (hl : l.length ≤ 100000000) :
    Ret Tryz.prog 54 #[.agg (hsl s).toArray, .slice a l.length c] w (.agg (hsl (bytesI s l)).toArray) := by
  refine enter2 Tryz.func54 rfl Tryz.ntmps54 rfl ?_
  repeat (first|apply cA|apply cB|apply cD|apply cE|apply cF|apply cG|apply cH|apply cJ|apply cM|refine cQ rfl ?_|apply cU|refine cV rfl rfl rfl rfl (by first|(apply qi64<;>(first|exact rfl|assumption|exact Ar.mk (by omega)|exact dct (by first|assumption|omega)|exact dcf (by first|assumption|omega)|exact List.not_mem_nil|apply dc_length|exact nm1 (by omega)|fail))|((first|apply qri|apply qia|apply qmv|apply qas|apply qlc|apply qla|apply qix|apply qls|apply qni|apply qad|apply qln)<;>(first|exact rfl|assumption|exact Ar.mk (by omega)|exact dct (by first|assumption|omega)|exact dcf (by first|assumption|omega)|exact List.not_mem_nil|apply dc_length|exact nm1 (by omega)|fail))|fail) ?_)
  refine SG.box rfl rfl rfl (by exact rho_of rfl) (fun b1 w1 hk1 hb1 hB1 => ?_)
  have hB1 : Blk w1 b1 (.cells (hsl s).toArray 109) := hB1
  refine SG.alloc rfl rfl rfl (fun b2 w2 hk2 hb2 hB2 => ?_)
  have hB2 : Blk w2 b2 (.cells (hsl ⟨0, 0, 0, 0⟩).toArray 109) := hB2
  have l1 := hB1.lt
  have l2 := hB2.lt
  have s1 := hk1.size
  have s2 := hk2.size
  have hB1 := hB1.kp0 hk2
  have k2 := hk1.trans hk2
  repeat (first|apply cA|apply cB|apply cD|apply cE|apply cF|apply cG|apply cH|apply cJ|apply cM|refine cQ rfl ?_|apply cU|refine cV rfl rfl rfl rfl (by first|(apply qi64<;>(first|exact rfl|assumption|exact Ar.mk (by omega)|exact dct (by first|assumption|omega)|exact dcf (by first|assumption|omega)|exact List.not_mem_nil|apply dc_length|exact nm1 (by omega)|fail))|((first|apply qri|apply qia|apply qmv|apply qas|apply qlc|apply qla|apply qix|apply qls|apply qni|apply qad|apply qln)<;>(first|exact rfl|assumption|exact Ar.mk (by omega)|exact dct (by first|assumption|omega)|exact dcf (by first|assumption|omega)|exact List.not_mem_nil|apply dc_length|exact nm1 (by omega)|fail))|fail) ?_)
  refine SG.buildSlice rfl rfl rfl rfl bs0 (fun b9 w3 hk3 hb9 hB9 => ?_)
  have ho0 : w3.ownsRow w2.heap.size 5 1 (.slice (some ⟨b9, 0, none⟩) 0 0) ([] : List UInt8).length (flt by1 []) := own_made by1_len hB9 hb9 rfl (by simp [maxLen])
  repeat (first|apply cA|apply cB|apply cD|apply cE|apply cF|apply cG|apply cH|apply cJ|apply cM|refine cQ rfl ?_|apply cU|refine cV rfl rfl rfl rfl (by first|(apply qi64<;>(first|exact rfl|assumption|exact Ar.mk (by omega)|exact dct (by first|assumption|omega)|exact dcf (by first|assumption|omega)|exact List.not_mem_nil|apply dc_length|exact nm1 (by omega)|fail))|((first|apply qri|apply qia|apply qmv|apply qas|apply qlc|apply qla|apply qix|apply qls|apply qni|apply qad|apply qln)<;>(first|exact rfl|assumption|exact Ar.mk (by omega)|exact dct (by first|assumption|omega)|exact dcf (by first|assumption|omega)|exact List.not_mem_nil|apply dc_length|exact nm1 (by omega)|fail))|fail) ?_)
  refine SG.appO (enc := by1) (xs := []) (ys := l) (base := w2.heap.size) rfl rfl rfl (by exact rho_of rfl) (by exact rho_of rfl) rfl rfl rfl rfl by1_len by1_one ho0 ((hS.kp0 k2).kp0 hk3) (by simp only [maxLen, List.length_nil]; omega) (by show (0 + l.length) * 1 ≤ _; omega) hk3.size (fun v4 w4 hk4 ho4 _ => ?_)
  have k4 : Kp [] w2 w4 := hk3.trans_new hk4 (own_new ho0 (Nat.le_refl _))
  rw [List.nil_append] at ho4
  refine SG.buildSlice rfl rfl rfl rfl (bs1 1) (fun b5 w5 hk5 hb5 hB5 => ?_)
  have hS5 : Sl by1 1 w5 (some ⟨b5, 0, none⟩) [(1 : UInt8)] := Sl.of_blk (pre := []) (post := []) by1_len (l := [1]) (T := 5) hB5
  refine SG.appO (enc := by1) (xs := l) (ys := [1]) (base := w2.heap.size) rfl rfl rfl (by exact rho_of rfl) (by exact rho_of rfl) rfl rfl rfl rfl by1_len by1_one (own_kp0 ho4 hk5) hS5 (by simp only [maxLen, List.length_cons, List.length_nil]; omega) (by show (l.length + 1) * 1 ≤ _; omega) (Nat.le_trans k4.size hk5.size) (fun v6 w6 hk6 ho6 _ => ?_)
  have k6 : Kp [] w2 w6 := (k4.trans hk5).trans_new hk6 (own_new (own_kp0 ho4 hk5) (Nat.le_refl _))
  have ho6 : w6.ownsRow w2.heap.size 5 1 v6 (padK l 0).length (flt by1 (padK l 0)) := ho6
  clear ho0 ho4 hS5 hB5 hB9
  repeat (first|apply cA|apply cB|apply cD|apply cE|apply cF|apply cG|apply cH|apply cJ|apply cM|refine cQ rfl ?_|apply cU|refine cV rfl rfl rfl rfl (by first|(apply qi64<;>(first|exact rfl|assumption|exact Ar.mk (by omega)|exact dct (by first|assumption|omega)|exact dcf (by first|assumption|omega)|exact List.not_mem_nil|apply dc_length|exact nm1 (by omega)|fail))|((first|apply qri|apply qia|apply qmv|apply qas|apply qlc|apply qla|apply qix|apply qls|apply qni|apply qad|apply qln)<;>(first|exact rfl|assumption|exact Ar.mk (by omega)|exact dct (by first|assumption|omega)|exact dcf (by first|assumption|omega)|exact List.not_mem_nil|apply dc_length|exact nm1 (by omega)|fail))|fail) ?_)
  refine CG.loop (X := Value × Nat) (fun x => [(1, .slice a l.length c), (2, .pointer (some ⟨b1, 0, none⟩)), (4, .pointer (some ⟨b2, 0, none⟩)), (5, x.1)])
    (fun x w' => x.2 ≤ 7 - l.length % 8 ∧ Kp [] w2 w' ∧ w'.ownsRow w2.heap.size 5 1 x.1 (padK l x.2).length (flt by1 (padK l x.2))) (fun x => 7 - l.length % 8 - x.2) (v6, 0) ⟨by simp only; omega, k6, ho6⟩ (by (repeat' (first | exact True.intro | exact rfl | refine And.intro ?_ ?_))) ?_
  rintro ⟨v7, k⟩ w7 ⟨hk, k7, ho7⟩
  simp only at hk ho7
  refine CG.to [(1, .slice a l.length c), (2, .pointer (some ⟨b1, 0, none⟩)), (4, .pointer (some ⟨b2, 0, none⟩)), (5, v7)] (by (repeat' (first | exact True.intro | exact rfl | refine And.intro ?_ ?_))) ?_
  clear ho6 k6
  have hpl := padK_length l k
  obtain ⟨a7, c7, rfl, hc7, hS7⟩ := Sl.own by1_len ho7 rfl
  by_cases hlt : k < 7 - l.length % 8
  · have g1 : ¬ ((padK l k).length : Int) % 8 = 0 := by omega
    repeat (first|apply cA|apply cB|apply cD|apply cE|apply cF|apply cG|apply cH|apply cJ|apply cM|refine cQ rfl ?_|apply cU|refine cV rfl rfl rfl rfl (by first|(apply qi64<;>(first|exact rfl|assumption|exact Ar.mk (by omega)|exact dct (by first|assumption|omega)|exact dcf (by first|assumption|omega)|exact List.not_mem_nil|apply dc_length|exact nm1 (by omega)|fail))|((first|apply qri|apply qia|apply qmv|apply qas|apply qlc|apply qla|apply qix|apply qls|apply qni|apply qad|apply qln)<;>(first|exact rfl|assumption|exact Ar.mk (by omega)|exact dct (by first|assumption|omega)|exact dcf (by first|assumption|omega)|exact List.not_mem_nil|apply dc_length|exact nm1 (by omega)|fail))|fail) ?_)
    refine cZ rfl (by exact rho_of rfl) rfl ?_
    repeat (first|apply cA|apply cB|apply cD|apply cE|apply cF|apply cG|apply cH|apply cJ|apply cM|refine cQ rfl ?_|apply cU|refine cV rfl rfl rfl rfl (by first|(apply qi64<;>(first|exact rfl|assumption|exact Ar.mk (by omega)|exact dct (by first|assumption|omega)|exact dcf (by first|assumption|omega)|exact List.not_mem_nil|apply dc_length|exact nm1 (by omega)|fail))|((first|apply qri|apply qia|apply qmv|apply qas|apply qlc|apply qla|apply qix|apply qls|apply qni|apply qad|apply qln)<;>(first|exact rfl|assumption|exact Ar.mk (by omega)|exact dct (by first|assumption|omega)|exact dcf (by first|assumption|omega)|exact List.not_mem_nil|apply dc_length|exact nm1 (by omega)|fail))|fail) ?_)
    refine SG.buildSlice rfl rfl rfl rfl (bs1 0) (fun b8 w8 hk8 hb8 hB8 => ?_)
    have hS8 : Sl by1 1 w8 (some ⟨b8, 0, none⟩) [(0 : UInt8)] := Sl.of_blk (pre := []) (post := []) by1_len (l := [0]) (T := 5) hB8
    refine SG.appO (enc := by1) (xs := padK l k) (ys := [0]) (base := w2.heap.size) rfl rfl rfl (by exact rho_of rfl) (by exact rho_of rfl) rfl rfl rfl rfl by1_len by1_one (own_kp0 ho7 hk8) hS8 (by simp only [maxLen, List.length_cons, List.length_nil]; omega) (by show ((padK l k).length + 1) * 1 ≤ _; omega) (Nat.le_trans k7.size hk8.size) (fun v9 w9 hk9 ho9 _ => ?_)
    rw [padK_step] at ho9
    repeat (first|apply cA|apply cB|apply cD|apply cE|apply cF|apply cG|apply cH|apply cJ|apply cM|refine cQ rfl ?_|apply cU|refine cV rfl rfl rfl rfl (by first|(apply qi64<;>(first|exact rfl|assumption|exact Ar.mk (by omega)|exact dct (by first|assumption|omega)|exact dcf (by first|assumption|omega)|exact List.not_mem_nil|apply dc_length|exact nm1 (by omega)|fail))|((first|apply qri|apply qia|apply qmv|apply qas|apply qlc|apply qla|apply qix|apply qls|apply qni|apply qad|apply qln)<;>(first|exact rfl|assumption|exact Ar.mk (by omega)|exact dct (by first|assumption|omega)|exact dcf (by first|assumption|omega)|exact List.not_mem_nil|apply dc_length|exact nm1 (by omega)|fail))|fail) ?_)
    refine NG.round (v9, k + 1) (by (repeat' (first | exact True.intro | exact rfl | refine And.intro ?_ ?_))) ⟨by simp only; omega, (k7.trans hk8).trans_new hk9 (own_new (own_kp0 ho7 hk8) (Nat.le_refl _)), ho9⟩ (by simp only; omega)
  · have ek : k = 7 - l.length % 8 := by omega
    have epad : padK l k = padAll l := by rw [ek]; rfl
    have g1 : ((padK l k).length : Int) % 8 = 0 := by omega
    rw [epad] at hS7 hpl g1 ho7 ⊢
    have hB17 := hB1.kp0 k7
    have hB27 := hB2.kp0 k7
    have hlen := padAll_length l
    generalize hM : l.length / 8 + 1 = M at hlen
    have hnew : ∀ b off, a7 = some ⟨b, off, none⟩ → w2.heap.size ≤ b := fun b off e => by
      rcases ho7.2 with ⟨h1, _⟩ | ⟨g, cap, cur, h1, h2, _⟩
      · simp only [Value.slice.injEq] at h1
        rw [h1.1] at e
        cases e
      · simp only [Value.slice.injEq] at h1
        rw [h1.1] at e
        cases e
        exact h2
    clear ho7
    repeat (first|apply cA|apply cB|apply cD|apply cE|apply cF|apply cG|apply cH|apply cJ|apply cM|refine cQ rfl ?_|apply cU|refine cV rfl rfl rfl rfl (by first|(apply qi64<;>(first|exact rfl|assumption|exact Ar.mk (by omega)|exact dct (by first|assumption|omega)|exact dcf (by first|assumption|omega)|exact List.not_mem_nil|apply dc_length|exact nm1 (by omega)|fail))|((first|apply qri|apply qia|apply qmv|apply qas|apply qlc|apply qla|apply qix|apply qls|apply qni|apply qad|apply qln)<;>(first|exact rfl|assumption|exact Ar.mk (by omega)|exact dct (by first|assumption|omega)|exact dcf (by first|assumption|omega)|exact List.not_mem_nil|apply dc_length|exact nm1 (by omega)|fail))|fail) ?_)
    refine dA rfl (by exact rho_of rfl) rfl ?_
    repeat (first|apply cA|apply cB|apply cD|apply cE|apply cF|apply cG|apply cH|apply cJ|apply cM|refine cQ rfl ?_|apply cU|refine cV rfl rfl rfl rfl (by first|(apply qi64<;>(first|exact rfl|assumption|exact Ar.mk (by omega)|exact dct (by first|assumption|omega)|exact dcf (by first|assumption|omega)|exact List.not_mem_nil|apply dc_length|exact nm1 (by omega)|fail))|((first|apply qri|apply qia|apply qmv|apply qas|apply qlc|apply qla|apply qix|apply qls|apply qni|apply qad|apply qln)<;>(first|exact rfl|assumption|exact Ar.mk (by omega)|exact dct (by first|assumption|omega)|exact dcf (by first|assumption|omega)|exact List.not_mem_nil|apply dc_length|exact nm1 (by omega)|fail))|fail) ?_)
    refine CG.loop (X := Nat) (fun q => [(1, .slice a l.length c), (2, .pointer (some ⟨b1, 0, none⟩)), (4, .pointer (some ⟨b2, 0, none⟩)), (5, .slice a7 (padAll l).length c7), (6, .int .i64 ((q * 8 : Nat) : Int))])
      (fun q w' => q ≤ M ∧ Kp [b1] w7 w' ∧ Blk w' b1 (.cells (hsl (eightsI s (padAll l) q)).toArray 109)) (fun q => M - q) 0 ⟨by omega, Kp.refl _ _, hB17⟩ (by rw [Nat.zero_mul]; (repeat' (first | exact True.intro | exact rfl | refine And.intro ?_ ?_))) ?_
    rintro q w8 ⟨hq, k8, hB8⟩
    by_cases hqM : q < M
    · have g2 : ((q * 8 : Nat) : Int) < ((padAll l).length : Int) := by omega
      have h8 : (((padAll l).drop (q * 8)).take 8).length = 8 := by simp; omega
      obtain ⟨b7, off, rfl, _⟩ := hS7.at (i := q * 8) (by omega)
      have hb7 := hnew b7 off rfl
      have hS8 := hS7.kp k8 (fun b3 off3 e => by cases e; exact nm1 (by omega))
      generalize hr : ((padAll l).drop (q * 8)).take 8 = r at h8
      have l7 : b7 < w7.heap.size := by
        obtain ⟨_, _, e, hrow⟩ := hS7.at (i := q * 8) (by omega)
        cases e
        exact hrow.lt
      have s8 := k8.size
      repeat (first|apply cA|apply cB|apply cD|apply cE|apply cF|apply cG|apply cH|apply cJ|apply cM|refine cQ rfl ?_|apply cU|refine cV rfl rfl rfl rfl (by first|(apply qi64<;>(first|exact rfl|assumption|exact Ar.mk (by omega)|exact dct (by first|assumption|omega)|exact dcf (by first|assumption|omega)|exact List.not_mem_nil|apply dc_length|exact nm1 (by omega)|fail))|((first|apply qri|apply qia|apply qmv|apply qas|apply qlc|apply qla|apply qix|apply qls|apply qni|apply qad|apply qln)<;>(first|exact rfl|assumption|exact Ar.mk (by omega)|exact dct (by first|assumption|omega)|exact dcf (by first|assumption|omega)|exact List.not_mem_nil|apply dc_length|exact nm1 (by omega)|fail))|fail) ?_)
      refine cZ rfl (by exact rho_of rfl) rfl ?_
      repeat (first|apply cA|apply cB|apply cD|apply cE|apply cF|apply cG|apply cH|apply cJ|apply cM|refine cQ rfl ?_|apply cU|refine cV rfl rfl rfl rfl (by first|(apply qi64<;>(first|exact rfl|assumption|exact Ar.mk (by omega)|exact dct (by first|assumption|omega)|exact dcf (by first|assumption|omega)|exact List.not_mem_nil|apply dc_length|exact nm1 (by omega)|fail))|((first|apply qri|apply qia|apply qmv|apply qas|apply qlc|apply qla|apply qix|apply qls|apply qni|apply qad|apply qln)<;>(first|exact rfl|assumption|exact Ar.mk (by omega)|exact dct (by first|assumption|omega)|exact dcf (by first|assumption|omega)|exact List.not_mem_nil|apply dc_length|exact nm1 (by omega)|fail))|fail) ?_)
      refine cV rfl rfl rfl rfl (vals_build rfl bz8) ?_
      refine SG.alloc rfl rfl rfl (fun b3 w9 hk9 hb3 hB3 => ?_)
      have hB3 : Blk w9 b3 (.cells (dc zd).toArray 24) := hB3
      refine SG.setAll (old := dc zd) (l := dc zd) rfl rfl (by exact rho_of rfl) (by exact rho_of rfl) hB3 (dc_length _) (dc_length _) (dc_one _) (fun w10 hk10 hB3 => ?_)
      have l3 := hB3.lt
      have s9 := hk9.size
      have hS10 := (hS8.kp0 hk9).kp hk10 (fun b4 off4 e => by cases e; exact nm1 (by omega))
      repeat (first|apply cA|apply cB|apply cD|apply cE|apply cF|apply cG|apply cH|apply cJ|apply cM|refine cQ rfl ?_|apply cU|refine cV rfl rfl rfl rfl (by first|(apply qi64<;>(first|exact rfl|assumption|exact Ar.mk (by omega)|exact dct (by first|assumption|omega)|exact dcf (by first|assumption|omega)|exact List.not_mem_nil|apply dc_length|exact nm1 (by omega)|fail))|((first|apply qri|apply qia|apply qmv|apply qas|apply qlc|apply qla|apply qix|apply qls|apply qni|apply qad|apply qln)<;>(first|exact rfl|assumption|exact Ar.mk (by omega)|exact dct (by first|assumption|omega)|exact dcf (by first|assumption|omega)|exact List.not_mem_nil|apply dc_length|exact nm1 (by omega)|fail))|fail) ?_)
      refine CG.loop (X := Nat) (fun k => [(1, .slice a l.length c), (2, .pointer (some ⟨b1, 0, none⟩)), (4, .pointer (some ⟨b2, 0, none⟩)), (5, .slice (some ⟨b7, off, none⟩) (padAll l).length c7), (6, .int .i64 ((q * 8 : Nat) : Int)), (7, .pointer (some ⟨b3, 0, none⟩)), (8, .int .i64 (k : Int))])
        (fun k w' => k ≤ 8 ∧ Kp [b3] w10 w' ∧ Blk w' b3 (.cells (fillp r k).toArray 24)) (fun k => 8 - k) 0 ⟨by omega, Kp.refl _ _, by rw [fillp_zero]; exact hB3⟩ (by (repeat' (first | exact True.intro | exact rfl | refine And.intro ?_ ?_))) ?_
      rintro k w11 ⟨hk8, k11, hB11⟩
      by_cases hk : k < 8
      · have g3 : (k : Int) < 8 := by omega
        have hS11 := hS10.kp k11 (fun b4 off4 e => by cases e; exact nm1 (by omega))
        have hg : (padAll l)[q * 8 + k]? = some (r[k]'(by omega)) := by
          rw [← List.getElem?_eq_getElem, ← hr, List.getElem?_take_of_lt hk, List.getElem?_drop]
        have hrow := hS11.row hg
        have hrow : Row w11 b7 (off + (q * 8 + k) * 1) [bv (r[k]'(by omega))] := hrow
        have ez : ((q * 8 : Nat) : Int) + (k : Int) = ((q * 8 + k : Nat) : Int) := by omega
        repeat (first|apply cA|apply cB|apply cD|apply cE|apply cF|apply cG|apply cH|apply cJ|apply cM|refine cQ rfl ?_|apply cU|refine cV rfl rfl rfl rfl (by first|(apply qi64<;>(first|exact rfl|assumption|exact Ar.mk (by omega)|exact dct (by first|assumption|omega)|exact dcf (by first|assumption|omega)|exact List.not_mem_nil|apply dc_length|exact nm1 (by omega)|fail))|((first|apply qri|apply qia|apply qmv|apply qas|apply qlc|apply qla|apply qix|apply qls|apply qni|apply qad|apply qln)<;>(first|exact rfl|assumption|exact Ar.mk (by omega)|exact dct (by first|assumption|omega)|exact dcf (by first|assumption|omega)|exact List.not_mem_nil|apply dc_length|exact nm1 (by omega)|fail))|fail) ?_)
        refine cZ rfl (by exact rho_of rfl) rfl ?_
        repeat (first|apply cA|apply cB|apply cD|apply cE|apply cF|apply cG|apply cH|apply cJ|apply cM|refine cQ rfl ?_|apply cU|refine cV rfl rfl rfl rfl (by first|(apply qi64<;>(first|exact rfl|assumption|exact Ar.mk (by omega)|exact dct (by first|assumption|omega)|exact dcf (by first|assumption|omega)|exact List.not_mem_nil|apply dc_length|exact nm1 (by omega)|fail))|((first|apply qri|apply qia|apply qmv|apply qas|apply qlc|apply qla|apply qix|apply qls|apply qni|apply qad|apply qln)<;>(first|exact rfl|assumption|exact Ar.mk (by omega)|exact dct (by first|assumption|omega)|exact dcf (by first|assumption|omega)|exact List.not_mem_nil|apply dc_length|exact nm1 (by omega)|fail))|fail) ?_)
        rw [ez]
        repeat (first|apply cA|apply cB|apply cD|apply cE|apply cF|apply cG|apply cH|apply cJ|apply cM|refine cQ rfl ?_|apply cU|refine cV rfl rfl rfl rfl (by first|(apply qi64<;>(first|exact rfl|assumption|exact Ar.mk (by omega)|exact dct (by first|assumption|omega)|exact dcf (by first|assumption|omega)|exact List.not_mem_nil|apply dc_length|exact nm1 (by omega)|fail))|((first|apply qri|apply qia|apply qmv|apply qas|apply qlc|apply qla|apply qix|apply qls|apply qni|apply qad|apply qln)<;>(first|exact rfl|assumption|exact Ar.mk (by omega)|exact dct (by first|assumption|omega)|exact dcf (by first|assumption|omega)|exact List.not_mem_nil|apply dc_length|exact nm1 (by omega)|fail))|fail) ?_)
        refine SG.store rfl rfl (by exact rho_of rfl) (by exact rho_of rfl) hB11 rfl (by show 0 + k * 1 + 1 ≤ (fillp r k).toArray.size; simp [fillp_length h8 hk8]; omega) rfl (fun w12 hk12 hB12 => ?_)
        have hB12 : Blk w12 b3 (.cells (spl (fillp r k) (0 + k * 1) [bv (r[k]'(by omega))]).toArray 24) := hB12
        rw [show 0 + k * 1 = k from by omega, fillp_step h8 hk] at hB12
        repeat (first|apply cA|apply cB|apply cD|apply cE|apply cF|apply cG|apply cH|apply cJ|apply cM|refine cQ rfl ?_|apply cU|refine cV rfl rfl rfl rfl (by first|(apply qi64<;>(first|exact rfl|assumption|exact Ar.mk (by omega)|exact dct (by first|assumption|omega)|exact dcf (by first|assumption|omega)|exact List.not_mem_nil|apply dc_length|exact nm1 (by omega)|fail))|((first|apply qri|apply qia|apply qmv|apply qas|apply qlc|apply qla|apply qix|apply qls|apply qni|apply qad|apply qln)<;>(first|exact rfl|assumption|exact Ar.mk (by omega)|exact dct (by first|assumption|omega)|exact dcf (by first|assumption|omega)|exact List.not_mem_nil|apply dc_length|exact nm1 (by omega)|fail))|fail) ?_)
        refine NG.round (k + 1) (by (repeat' (first | exact True.intro | exact rfl | refine And.intro ?_ ?_))) ⟨by omega, k11.trans hk12, hB12⟩ (by omega)
      · have g3 : ¬ (k : Int) < 8 := by omega
        have e8 : k = 8 := by omega
        subst e8
        rw [fillp_all h8] at hB11
        have hrd : Row w11 b3 0 (dc (⟨r, h8⟩ : Dg)) := Row.all hB11 rfl
        have hBs := ((hB8.kp0 hk9).kp hk10 (nm1 (by omega))).kp k11 (nm1 (by omega))
        have hrs := Row.all (l := hsl (eightsI s (padAll l) q)) hBs rfl
        repeat (first|apply cA|apply cB|apply cD|apply cE|apply cF|apply cG|apply cH|apply cJ|apply cM|refine cQ rfl ?_|apply cU|refine cV rfl rfl rfl rfl (by first|(apply qi64<;>(first|exact rfl|assumption|exact Ar.mk (by omega)|exact dct (by first|assumption|omega)|exact dcf (by first|assumption|omega)|exact List.not_mem_nil|apply dc_length|exact nm1 (by omega)|fail))|((first|apply qri|apply qia|apply qmv|apply qas|apply qlc|apply qla|apply qix|apply qls|apply qni|apply qad|apply qln)<;>(first|exact rfl|assumption|exact Ar.mk (by omega)|exact dct (by first|assumption|omega)|exact dcf (by first|assumption|omega)|exact List.not_mem_nil|apply dc_length|exact nm1 (by omega)|fail))|fail) ?_)
        refine dA rfl (by exact rho_of rfl) rfl ?_
        repeat (first|apply cA|apply cB|apply cD|apply cE|apply cF|apply cG|apply cH|apply cJ|apply cM|refine cQ rfl ?_|apply cU|refine cV rfl rfl rfl rfl (by first|(apply qi64<;>(first|exact rfl|assumption|exact Ar.mk (by omega)|exact dct (by first|assumption|omega)|exact dcf (by first|assumption|omega)|exact List.not_mem_nil|apply dc_length|exact nm1 (by omega)|fail))|((first|apply qri|apply qia|apply qmv|apply qas|apply qlc|apply qla|apply qix|apply qls|apply qni|apply qad|apply qln)<;>(first|exact rfl|assumption|exact Ar.mk (by omega)|exact dct (by first|assumption|omega)|exact dcf (by first|assumption|omega)|exact List.not_mem_nil|apply dc_length|exact nm1 (by omega)|fail))|fail) ?_)
        refine CG.tail mixed 3 [0, 1, 2] (by kernel_rfl) ?_
        repeat (refine cY rfl rfl rfl (by first|(apply qi64<;>(first|exact rfl|assumption|exact Ar.mk (by omega)|exact dct (by first|assumption|omega)|exact dcf (by first|assumption|omega)|exact List.not_mem_nil|apply dc_length|exact nm1 (by omega)|fail))|((first|apply qri|apply qia|apply qmv|apply qas|apply qlc|apply qla|apply qix|apply qls|apply qni|apply qad|apply qln)<;>(first|exact rfl|assumption|exact Ar.mk (by omega)|exact dct (by first|assumption|omega)|exact dcf (by first|assumption|omega)|exact List.not_mem_nil|apply dc_length|exact nm1 (by omega)|fail))|fail) ?_)
        refine Der.call rfl rfl rfl (vs := [dv (⟨r, h8⟩ : Dg)]) (by repeat' (first | exact True.intro | exact rho_of rfl | refine And.intro ?_ ?_)) (fun w _ _ => rnum_spec ⟨r, h8⟩ w) ?_
        refine Der.tl (fun w12 hk12 _ _ => ?_)
        refine SG.ret rfl rfl rfl (by repeat' (first | exact True.intro | exact rho_of rfl | refine And.intro ?_ ?_)) (rin_spec (eightsI s (padAll l) q) (num (⟨r, h8⟩ : Dg) : Int) w12) (fun w13 hk13 => ?_)
        refine SG.setAll (old := hsl (eightsI s (padAll l) q)) (l := hsl (takeI (eightsI s (padAll l) q) (num (⟨r, h8⟩ : Dg) : Int))) rfl rfl (by exact rho_of rfl) (by exact rho_of rfl) ((hBs.kp0 hk12).kp0 hk13) rfl rfl rfl (fun w14 hk14 hB14 => ?_)
        have ez : ((q * 8 : Nat) : Int) + 8 = (((q + 1) * 8 : Nat) : Int) := by omega
        repeat (first|apply cA|apply cB|apply cD|apply cE|apply cF|apply cG|apply cH|apply cJ|apply cM|refine cQ rfl ?_|apply cU|refine cV rfl rfl rfl rfl (by first|(apply qi64<;>(first|exact rfl|assumption|exact Ar.mk (by omega)|exact dct (by first|assumption|omega)|exact dcf (by first|assumption|omega)|exact List.not_mem_nil|apply dc_length|exact nm1 (by omega)|fail))|((first|apply qri|apply qia|apply qmv|apply qas|apply qlc|apply qla|apply qix|apply qls|apply qni|apply qad|apply qln)<;>(first|exact rfl|assumption|exact Ar.mk (by omega)|exact dct (by first|assumption|omega)|exact dcf (by first|assumption|omega)|exact List.not_mem_nil|apply dc_length|exact nm1 (by omega)|fail))|fail) ?_)
        rw [ez]
        have kk : Kp [b1] w8 w14 := ((((hk9.trans_new hk10 (new1 (by omega))).trans_new k11 (new1 (by omega))).trans hk12).trans hk13).any.trans hk14
        refine NG.round (q + 1) (by (repeat' (first | exact True.intro | exact rfl | refine And.intro ?_ ?_))) ⟨by omega, k8.trans kk, ?_⟩ (by omega)
        rw [eights_step, hr]
        exact hB14
    · have g2 : ¬ ((q * 8 : Nat) : Int) < ((padAll l).length : Int) := by omega
      have eq : q = M := by omega
      subst eq
      have hrs := Row.all (l := hsl (eightsI s (padAll l) q)) hB8 rfl
      repeat (first|apply cA|apply cB|apply cD|apply cE|apply cF|apply cG|apply cH|apply cJ|apply cM|refine cQ rfl ?_|apply cU|refine cV rfl rfl rfl rfl (by first|(apply qi64<;>(first|exact rfl|assumption|exact Ar.mk (by omega)|exact dct (by first|assumption|omega)|exact dcf (by first|assumption|omega)|exact List.not_mem_nil|apply dc_length|exact nm1 (by omega)|fail))|((first|apply qri|apply qia|apply qmv|apply qas|apply qlc|apply qla|apply qix|apply qls|apply qni|apply qad|apply qln)<;>(first|exact rfl|assumption|exact Ar.mk (by omega)|exact dct (by first|assumption|omega)|exact dcf (by first|assumption|omega)|exact List.not_mem_nil|apply dc_length|exact nm1 (by omega)|fail))|fail) ?_)
      refine dA rfl (by exact rho_of rfl) rfl ?_
      repeat (first|apply cA|apply cB|apply cD|apply cE|apply cF|apply cG|apply cH|apply cJ|apply cM|refine cQ rfl ?_|apply cU|refine cV rfl rfl rfl rfl (by first|(apply qi64<;>(first|exact rfl|assumption|exact Ar.mk (by omega)|exact dct (by first|assumption|omega)|exact dcf (by first|assumption|omega)|exact List.not_mem_nil|apply dc_length|exact nm1 (by omega)|fail))|((first|apply qri|apply qia|apply qmv|apply qas|apply qlc|apply qla|apply qix|apply qls|apply qni|apply qad|apply qln)<;>(first|exact rfl|assumption|exact Ar.mk (by omega)|exact dct (by first|assumption|omega)|exact dcf (by first|assumption|omega)|exact List.not_mem_nil|apply dc_length|exact nm1 (by omega)|fail))|fail) ?_)
      refine SG.ret rfl rfl rfl (by repeat' (first | exact True.intro | exact rho_of rfl | refine And.intro ?_ ?_)) (rin_spec (eightsI s (padAll l) q) (l.length : Int) w8) (fun w9 hk9 => ?_)
      refine SG.setAll (old := hsl ⟨0, 0, 0, 0⟩) (l := hsl (bytesI s l)) rfl rfl (by exact rho_of rfl) ?_ (((hB27.kp k8 (nm1 (by omega))).kp0 hk9)) rfl rfl rfl (fun w10 hk10 hB10 => ?_)
      · rw [← hM, eights_pad]
        exact rho_of rfl
      · have hr10 : Row w10 b2 0 (hsl (bytesI s l)) := Row.all hB10 rfl
        repeat (first|apply cA|apply cB|apply cD|apply cE|apply cF|apply cG|apply cH|apply cJ|apply cM|refine cQ rfl ?_|apply cU|refine cV rfl rfl rfl rfl (by first|(apply qi64<;>(first|exact rfl|assumption|exact Ar.mk (by omega)|exact dct (by first|assumption|omega)|exact dcf (by first|assumption|omega)|exact List.not_mem_nil|apply dc_length|exact nm1 (by omega)|fail))|((first|apply qri|apply qia|apply qmv|apply qas|apply qlc|apply qla|apply qix|apply qls|apply qni|apply qad|apply qln)<;>(first|exact rfl|assumption|exact Ar.mk (by omega)|exact dct (by first|assumption|omega)|exact dcf (by first|assumption|omega)|exact List.not_mem_nil|apply dc_length|exact nm1 (by omega)|fail))|fail) ?_)
        refine ret1 (Or.inl rfl) Tryz.results54 (by first | exact ResV.tmp rfl | exact ResV.agg rfl rfl (by assumption) (by first | exact dc_length _ | exact nc_length _ | exact rc_length _ _ _ | exact ec_length _ | exact dl_length _ _ _ _ | rfl) | exact ResV.cell rfl rfl (by assumption)) ?_
        exact ⟨rfl, (((k2.trans k7).trans_new k8 (new1 (by omega))).trans hk9).trans_new hk10 (new1 (by omega))⟩
end Go.Proofs.YtgbgnlboogalgaaGreat
namespace Go.Proofs.YtgbgnlboogalgaaGreat
open Go.Proofs
set_option linter.unusedVariables false
theorem putS_nat (n : Nat) : toB (addI 128 ((n : Int) % 128)) = UInt8.ofNat (128 + n % 128) := by
  have e : (128 : Int) + (n : Int) % 128 = ((128 + n % 128 : Nat) : Int) := by omega
  have e2 : addI 128 ((n : Int) % 128) = ((128 + n % 128 : Nat) : Int) := by
    unfold addI
    rw [e]
    exact wrap64_nat (by omega)
  rw [e2, toB_nat]
attribute [local irreducible] CG NG SG Vals Der Row Blk MapIs IterAt addI xorI orI andI shlI shrI mulI
set_option maxHeartbeats 8000000 in
theorem rof_spec {w : World} {a : Option Addr} {c : Nat} {l : List UInt8} (hS : Sl by1 1 w a l) (hl : l.length ≤ 100000000) : Ret Tryz.prog 22 #[.slice a l.length c] w (dv (ofI l)) := by
  refine enter1 Tryz.func22 rfl Tryz.ntmps22 rfl ?_
  repeat (first|apply cA|apply cB|apply cD|apply cE|apply cF|apply cG|apply cH|apply cJ|apply cM|refine cQ rfl ?_|apply cU|refine cV rfl rfl rfl rfl (by first|(apply q64b<;>(first|exact rfl|assumption|exact Ar.mk (by omega)|exact dct (by first|assumption|omega)|exact dcf (by first|assumption|omega)|exact List.not_mem_nil|apply dc_length|exact nm1 (by omega)|fail))|(apply qi64<;>(first|exact rfl|assumption|exact Ar.mk (by omega)|exact dct (by first|assumption|omega)|exact dcf (by first|assumption|omega)|exact List.not_mem_nil|apply dc_length|exact nm1 (by omega)|fail))|((first|apply quad|apply qqu|apply qru|apply qmv|apply qas|apply qla|apply qix|apply qls|apply qad|apply qln|apply qge)<;>(first|exact rfl|assumption|exact Ar.mk (by omega)|exact dct (by first|assumption|omega)|exact dcf (by first|assumption|omega)|exact List.not_mem_nil|apply dc_length|exact nm1 (by omega)|fail))|fail) ?_)
  refine SG.alloc rfl rfl rfl (fun b2 w1 hk1 hb2 hB2 => ?_)
  have hB2 : Blk w1 b2 (.cells (dc zd).toArray 24) := hB2
  repeat (first|apply cA|apply cB|apply cD|apply cE|apply cF|apply cG|apply cH|apply cJ|apply cM|refine cQ rfl ?_|apply cU|refine cV rfl rfl rfl rfl (by first|(apply q64b<;>(first|exact rfl|assumption|exact Ar.mk (by omega)|exact dct (by first|assumption|omega)|exact dcf (by first|assumption|omega)|exact List.not_mem_nil|apply dc_length|exact nm1 (by omega)|fail))|(apply qi64<;>(first|exact rfl|assumption|exact Ar.mk (by omega)|exact dct (by first|assumption|omega)|exact dcf (by first|assumption|omega)|exact List.not_mem_nil|apply dc_length|exact nm1 (by omega)|fail))|((first|apply quad|apply qqu|apply qru|apply qmv|apply qas|apply qla|apply qix|apply qls|apply qad|apply qln|apply qge)<;>(first|exact rfl|assumption|exact Ar.mk (by omega)|exact dct (by first|assumption|omega)|exact dcf (by first|assumption|omega)|exact List.not_mem_nil|apply dc_length|exact nm1 (by omega)|fail))|fail) ?_)
  refine SG.ret rfl rfl rfl (by repeat' (first | exact True.intro | exact rho_of rfl | refine And.intro ?_ ?_)) (rbegin_spec 1 w1) (fun w2 hk2 => ?_)
  repeat (first|apply cA|apply cB|apply cD|apply cE|apply cF|apply cG|apply cH|apply cJ|apply cM|refine cQ rfl ?_|apply cU|refine cV rfl rfl rfl rfl (by first|(apply q64b<;>(first|exact rfl|assumption|exact Ar.mk (by omega)|exact dct (by first|assumption|omega)|exact dcf (by first|assumption|omega)|exact List.not_mem_nil|apply dc_length|exact nm1 (by omega)|fail))|(apply qi64<;>(first|exact rfl|assumption|exact Ar.mk (by omega)|exact dct (by first|assumption|omega)|exact dcf (by first|assumption|omega)|exact List.not_mem_nil|apply dc_length|exact nm1 (by omega)|fail))|((first|apply quad|apply qqu|apply qru|apply qmv|apply qas|apply qla|apply qix|apply qls|apply qad|apply qln|apply qge)<;>(first|exact rfl|assumption|exact Ar.mk (by omega)|exact dct (by first|assumption|omega)|exact dcf (by first|assumption|omega)|exact List.not_mem_nil|apply dc_length|exact nm1 (by omega)|fail))|fail) ?_)
  refine SG.ret rfl rfl rfl (by repeat' (first | exact True.intro | exact rho_of rfl | refine And.intro ?_ ?_)) (rbytes_spec (s := beginI 1) (c := c) ((hS.kp0 hk1).kp0 hk2) hl) (fun w3 hk3 => ?_)
  refine SG.ret rfl rfl rfl (by repeat' (first | exact True.intro | exact rho_of rfl | refine And.intro ?_ ?_)) (rout_spec _ w3) (fun w4 hk4 => ?_)
  refine SG.setAll (old := dc zd) (l := dc (ofI l)) rfl rfl (by exact rho_of rfl) (by exact rho_of rfl) (((hB2.kp0 hk2).kp0 hk3).kp0 hk4) (dc_length _) (dc_length _) (dc_one _) (fun w5 hk5 hB5 => ?_)
  have hr4 : Row w5 b2 0 (dc (ofI l)) := Row.all hB5 rfl
  repeat (first|apply cA|apply cB|apply cD|apply cE|apply cF|apply cG|apply cH|apply cJ|apply cM|refine cQ rfl ?_|apply cU|refine cV rfl rfl rfl rfl (by first|(apply q64b<;>(first|exact rfl|assumption|exact Ar.mk (by omega)|exact dct (by first|assumption|omega)|exact dcf (by first|assumption|omega)|exact List.not_mem_nil|apply dc_length|exact nm1 (by omega)|fail))|(apply qi64<;>(first|exact rfl|assumption|exact Ar.mk (by omega)|exact dct (by first|assumption|omega)|exact dcf (by first|assumption|omega)|exact List.not_mem_nil|apply dc_length|exact nm1 (by omega)|fail))|((first|apply quad|apply qqu|apply qru|apply qmv|apply qas|apply qla|apply qix|apply qls|apply qad|apply qln|apply qge)<;>(first|exact rfl|assumption|exact Ar.mk (by omega)|exact dct (by first|assumption|omega)|exact dcf (by first|assumption|omega)|exact List.not_mem_nil|apply dc_length|exact nm1 (by omega)|fail))|fail) ?_)
  refine ret1 (Or.inl rfl) Tryz.results22 (by first | exact ResV.tmp rfl | exact ResV.agg rfl rfl (by assumption) (by first | exact dc_length _ | exact nc_length _ | exact rc_length _ _ _ | exact ec_length _ | exact dl_length _ _ _ _ | rfl) | exact ResV.cell rfl rfl (by assumption)) ?_
  exact ⟨rfl, (((hk1.trans hk2).trans hk3).trans hk4).trans_new hk5 (new1 (by omega))⟩
set_option maxHeartbeats 8000000 in
theorem rput_spec (n : Nat) (hn : n < 18446744073709551616) (w : World) : RetO Tryz.prog 5 by1 1 78 #[.int .u64 (n : Int)] w (putU n) := by
  refine enter1 Tryz.func78 rfl Tryz.ntmps78 rfl ?_
  repeat (first|apply cA|apply cB|apply cD|apply cE|apply cF|apply cG|apply cH|apply cJ|apply cM|refine cQ rfl ?_|apply cU|refine cV rfl rfl rfl rfl (by first|(apply q64b<;>(first|exact rfl|assumption|exact Ar.mk (by omega)|exact dct (by first|assumption|omega)|exact dcf (by first|assumption|omega)|exact List.not_mem_nil|apply dc_length|exact nm1 (by omega)|fail))|(apply qi64<;>(first|exact rfl|assumption|exact Ar.mk (by omega)|exact dct (by first|assumption|omega)|exact dcf (by first|assumption|omega)|exact List.not_mem_nil|apply dc_length|exact nm1 (by omega)|fail))|((first|apply quad|apply qqu|apply qru|apply qmv|apply qas|apply qla|apply qix|apply qls|apply qad|apply qln|apply qge)<;>(first|exact rfl|assumption|exact Ar.mk (by omega)|exact dct (by first|assumption|omega)|exact dcf (by first|assumption|omega)|exact List.not_mem_nil|apply dc_length|exact nm1 (by omega)|fail))|fail) ?_)
  refine CG.loop (X := Value × Nat × List UInt8 × Nat) (fun x => [(0, .int .u64 (x.2.2.2 : Int)), (3, x.1)])
    (fun x w' => w'.ownsRow w.heap.size 5 1 x.1 x.2.2.1.length (flt by1 x.2.2.1) ∧ x.2.1 ≤ 10 ∧ x.2.2.1.length = 10 - x.2.1 ∧ x.2.2.2 < 128 ^ (x.2.1 + 1) ∧ x.2.2.1 ++ putN x.2.1 x.2.2.2 = putU n ∧ Kp [] w w' ∧ Ar (0 ≤ (x.2.2.2 : Int) ∧ (x.2.2.2 : Int) < 18446744073709551616 ∧ (0 : Int) < 128)) (fun x => x.2.1) (.slice none 0 0, 10, [], n) ⟨own_nil, Nat.le_refl _, rfl, Nat.lt_of_lt_of_le hn (show 18446744073709551616 ≤ 128 ^ 11 by decide), rfl, Kp.refl _ _, ⟨by simp only; omega⟩⟩ (by (repeat' (first | exact True.intro | exact rfl | refine And.intro ?_ ?_))) ?_
  clear hn
  rintro ⟨v1, f, done, m⟩ w1 ⟨ho1, hf, hd, hm, hp, hk1, hm64⟩
  simp only at ho1 hf hd hm hp hm64
  refine CG.to [(0, .int .u64 (m : Int)), (3, v1)] (by (repeat' (first | exact True.intro | exact rfl | refine And.intro ?_ ?_))) ?_
  have hs1 := hk1.size
  by_cases hlt : m < 128
  · have g1 : ¬ (128 : Int) ≤ (m : Int) := by omega
    have hput : putN f m = [UInt8.ofNat m] := by
      cases f with
      | zero => rfl
      | succ f => simp [putN, hlt]
    rw [hput] at hp
    repeat (first|apply cA|apply cB|apply cD|apply cE|apply cF|apply cG|apply cH|apply cJ|apply cM|refine cQ rfl ?_|apply cU|refine cV rfl rfl rfl rfl (by first|(apply q64b<;>(first|exact rfl|assumption|exact Ar.mk (by omega)|exact dct (by first|assumption|omega)|exact dcf (by first|assumption|omega)|exact List.not_mem_nil|apply dc_length|exact nm1 (by omega)|fail))|(apply qi64<;>(first|exact rfl|assumption|exact Ar.mk (by omega)|exact dct (by first|assumption|omega)|exact dcf (by first|assumption|omega)|exact List.not_mem_nil|apply dc_length|exact nm1 (by omega)|fail))|((first|apply quad|apply qqu|apply qru|apply qmv|apply qas|apply qla|apply qix|apply qls|apply qad|apply qln|apply qge)<;>(first|exact rfl|assumption|exact Ar.mk (by omega)|exact dct (by first|assumption|omega)|exact dcf (by first|assumption|omega)|exact List.not_mem_nil|apply dc_length|exact nm1 (by omega)|fail))|fail) ?_)
    refine dA rfl (by exact rho_of rfl) rfl ?_
    repeat (first|apply cA|apply cB|apply cD|apply cE|apply cF|apply cG|apply cH|apply cJ|apply cM|refine cQ rfl ?_|apply cU|refine cV rfl rfl rfl rfl (by first|(apply q64b<;>(first|exact rfl|assumption|exact Ar.mk (by omega)|exact dct (by first|assumption|omega)|exact dcf (by first|assumption|omega)|exact List.not_mem_nil|apply dc_length|exact nm1 (by omega)|fail))|(apply qi64<;>(first|exact rfl|assumption|exact Ar.mk (by omega)|exact dct (by first|assumption|omega)|exact dcf (by first|assumption|omega)|exact List.not_mem_nil|apply dc_length|exact nm1 (by omega)|fail))|((first|apply quad|apply qqu|apply qru|apply qmv|apply qas|apply qla|apply qix|apply qls|apply qad|apply qln|apply qge)<;>(first|exact rfl|assumption|exact Ar.mk (by omega)|exact dct (by first|assumption|omega)|exact dcf (by first|assumption|omega)|exact List.not_mem_nil|apply dc_length|exact nm1 (by omega)|fail))|fail) ?_)
    rw [toB_nat]
    refine SG.buildSlice rfl rfl rfl rfl (bs1 (UInt8.ofNat m)) (fun b2 w2 hk2 hb2 hB2 => ?_)
    have hS2 : Sl by1 1 w2 (some ⟨b2, 0, none⟩) [UInt8.ofNat m] := Sl.of_blk (pre := []) (post := []) by1_len (l := [UInt8.ofNat m]) (T := 5) hB2
    refine SG.appO (enc := by1) (xs := done) (ys := [UInt8.ofNat m]) (base := w.heap.size) rfl rfl rfl (by exact rho_of rfl) (by exact rho_of rfl) rfl rfl rfl rfl by1_len by1_one (own_kp0 ho1 hk2) hS2 (by simp only [maxLen, List.length_cons, List.length_nil]; omega) (by show (done.length + 1) * 1 ≤ _; omega) (Nat.le_trans hs1 hk2.size) (fun v3 w3 hk3 ho3 hw3 => ?_)
    rw [hp] at ho3
    repeat (first|apply cA|apply cB|apply cD|apply cE|apply cF|apply cG|apply cH|apply cJ|apply cM|refine cQ rfl ?_|apply cU|refine cV rfl rfl rfl rfl (by first|(apply q64b<;>(first|exact rfl|assumption|exact Ar.mk (by omega)|exact dct (by first|assumption|omega)|exact dcf (by first|assumption|omega)|exact List.not_mem_nil|apply dc_length|exact nm1 (by omega)|fail))|(apply qi64<;>(first|exact rfl|assumption|exact Ar.mk (by omega)|exact dct (by first|assumption|omega)|exact dcf (by first|assumption|omega)|exact List.not_mem_nil|apply dc_length|exact nm1 (by omega)|fail))|((first|apply quad|apply qqu|apply qru|apply qmv|apply qas|apply qla|apply qix|apply qls|apply qad|apply qln|apply qge)<;>(first|exact rfl|assumption|exact Ar.mk (by omega)|exact dct (by first|assumption|omega)|exact dcf (by first|assumption|omega)|exact List.not_mem_nil|apply dc_length|exact nm1 (by omega)|fail))|fail) ?_)
    refine ret1 (Or.inl rfl) Tryz.results78 (by first | exact ResV.tmp rfl | exact ResV.agg rfl rfl (by assumption) (by first | exact dc_length _ | exact nc_length _ | exact rc_length _ _ _ | exact ec_length _ | exact dl_length _ _ _ _ | rfl) | exact ResV.cell rfl rfl (by assumption)) ?_
    exact ⟨_, rfl, ho3, (hk1.trans hk2).trans_new hk3 (own_new (own_kp0 ho1 hk2) (Nat.le_refl _))⟩
  · have g1 : (128 : Int) ≤ (m : Int) := by omega
    cases f with
    | zero => simp at hm; omega
    | succ f =>
      have hput : putN (f + 1) m = UInt8.ofNat (128 + m % 128) :: putN f (m / 128) := by simp [putN, hlt]
      rw [hput] at hp
      have e8 := putS_nat m
      have e9 : (m : Int) / 128 = ((m / 128 : Nat) : Int) := by omega
      repeat (first|apply cA|apply cB|apply cD|apply cE|apply cF|apply cG|apply cH|apply cJ|apply cM|refine cQ rfl ?_|apply cU|refine cV rfl rfl rfl rfl (by first|(apply q64b<;>(first|exact rfl|assumption|exact Ar.mk (by omega)|exact dct (by first|assumption|omega)|exact dcf (by first|assumption|omega)|exact List.not_mem_nil|apply dc_length|exact nm1 (by omega)|fail))|(apply qi64<;>(first|exact rfl|assumption|exact Ar.mk (by omega)|exact dct (by first|assumption|omega)|exact dcf (by first|assumption|omega)|exact List.not_mem_nil|apply dc_length|exact nm1 (by omega)|fail))|((first|apply quad|apply qqu|apply qru|apply qmv|apply qas|apply qla|apply qix|apply qls|apply qad|apply qln|apply qge)<;>(first|exact rfl|assumption|exact Ar.mk (by omega)|exact dct (by first|assumption|omega)|exact dcf (by first|assumption|omega)|exact List.not_mem_nil|apply dc_length|exact nm1 (by omega)|fail))|fail) ?_)
      refine cZ rfl (by exact rho_of rfl) rfl ?_
      repeat (first|apply cA|apply cB|apply cD|apply cE|apply cF|apply cG|apply cH|apply cJ|apply cM|refine cQ rfl ?_|apply cU|refine cV rfl rfl rfl rfl (by first|(apply q64b<;>(first|exact rfl|assumption|exact Ar.mk (by omega)|exact dct (by first|assumption|omega)|exact dcf (by first|assumption|omega)|exact List.not_mem_nil|apply dc_length|exact nm1 (by omega)|fail))|(apply qi64<;>(first|exact rfl|assumption|exact Ar.mk (by omega)|exact dct (by first|assumption|omega)|exact dcf (by first|assumption|omega)|exact List.not_mem_nil|apply dc_length|exact nm1 (by omega)|fail))|((first|apply quad|apply qqu|apply qru|apply qmv|apply qas|apply qla|apply qix|apply qls|apply qad|apply qln|apply qge)<;>(first|exact rfl|assumption|exact Ar.mk (by omega)|exact dct (by first|assumption|omega)|exact dcf (by first|assumption|omega)|exact List.not_mem_nil|apply dc_length|exact nm1 (by omega)|fail))|fail) ?_)
      rw [e8]
      refine SG.buildSlice rfl rfl rfl rfl (bs1 (UInt8.ofNat (128 + m % 128))) (fun b2 w2 hk2 hb2 hB2 => ?_)
      have hS2 : Sl by1 1 w2 (some ⟨b2, 0, none⟩) [UInt8.ofNat (128 + m % 128)] := Sl.of_blk (pre := []) (post := []) by1_len (l := [UInt8.ofNat (128 + m % 128)]) (T := 5) hB2
      refine SG.appO (enc := by1) (xs := done) (ys := [UInt8.ofNat (128 + m % 128)]) (base := w.heap.size) rfl rfl rfl (by exact rho_of rfl) (by exact rho_of rfl) rfl rfl rfl rfl by1_len by1_one (own_kp0 ho1 hk2) hS2 (by simp only [maxLen, List.length_cons, List.length_nil]; omega) (by show (done.length + 1) * 1 ≤ _; omega) (Nat.le_trans hs1 hk2.size) (fun v3 w3 hk3 ho3 hw3 => ?_)
      repeat (first|apply cA|apply cB|apply cD|apply cE|apply cF|apply cG|apply cH|apply cJ|apply cM|refine cQ rfl ?_|apply cU|refine cV rfl rfl rfl rfl (by first|(apply q64b<;>(first|exact rfl|assumption|exact Ar.mk (by omega)|exact dct (by first|assumption|omega)|exact dcf (by first|assumption|omega)|exact List.not_mem_nil|apply dc_length|exact nm1 (by omega)|fail))|(apply qi64<;>(first|exact rfl|assumption|exact Ar.mk (by omega)|exact dct (by first|assumption|omega)|exact dcf (by first|assumption|omega)|exact List.not_mem_nil|apply dc_length|exact nm1 (by omega)|fail))|((first|apply quad|apply qqu|apply qru|apply qmv|apply qas|apply qla|apply qix|apply qls|apply qad|apply qln|apply qge)<;>(first|exact rfl|assumption|exact Ar.mk (by omega)|exact dct (by first|assumption|omega)|exact dcf (by first|assumption|omega)|exact List.not_mem_nil|apply dc_length|exact nm1 (by omega)|fail))|fail) ?_)
      rw [e9]
      have hm' := hm64.h
      refine NG.round (v3, f, done ++ [UInt8.ofNat (128 + m % 128)], m / 128) (by (repeat' (first | exact True.intro | exact rfl | refine And.intro ?_ ?_))) ⟨ho3, by simp only; omega, by simp; omega, ?_, by simp only [List.append_assoc, List.singleton_append]; exact hp, (hk1.trans hk2).trans_new hk3 (own_new (own_kp0 ho1 hk2) (Nat.le_refl _)), ⟨by simp only; omega⟩⟩ (by simp only; omega)
      simp only
      rw [Nat.pow_succ] at hm
      exact Nat.div_lt_of_lt_mul (by rw [Nat.mul_comm]; exact hm)
set_option maxHeartbeats 8000000 in
theorem rpb_spec {w : World} {a : Option Addr} {c : Nat} {l : List UInt8} (hS : Sl by1 1 w a l) (hl : l.length ≤ 100000000) : RetO Tryz.prog 5 by1 1 57 #[.slice a l.length c] w (putU l.length ++ l) := by
  refine enter1 Tryz.func57 rfl Tryz.ntmps57 rfl ?_
  have hp := putN_len 10 l.length
  have hsp := fun w => rput_spec l.length (by omega) w
  repeat (first|apply cA|apply cB|apply cD|apply cE|apply cF|apply cG|apply cH|apply cJ|apply cM|refine cQ rfl ?_|apply cU|refine cV rfl rfl rfl rfl (by first|(apply q64b<;>(first|exact rfl|assumption|exact Ar.mk (by omega)|exact dct (by first|assumption|omega)|exact dcf (by first|assumption|omega)|exact List.not_mem_nil|apply dc_length|exact nm1 (by omega)|fail))|(apply qi64<;>(first|exact rfl|assumption|exact Ar.mk (by omega)|exact dct (by first|assumption|omega)|exact dcf (by first|assumption|omega)|exact List.not_mem_nil|apply dc_length|exact nm1 (by omega)|fail))|((first|apply quad|apply qqu|apply qru|apply qmv|apply qas|apply qla|apply qix|apply qls|apply qad|apply qln|apply qge)<;>(first|exact rfl|assumption|exact Ar.mk (by omega)|exact dct (by first|assumption|omega)|exact dcf (by first|assumption|omega)|exact List.not_mem_nil|apply dc_length|exact nm1 (by omega)|fail))|fail) ?_)
  refine SG.call rfl rfl rfl (by repeat' (first | exact True.intro | exact rho_of rfl | refine And.intro ?_ ?_)) ((hsp w).mono (fun e w1 hh => ?_))
  obtain ⟨v1, he, ho1, hk1⟩ := hh
  refine ⟨_, he, ?_⟩
  repeat (first|apply cA|apply cB|apply cD|apply cE|apply cF|apply cG|apply cH|apply cJ|apply cM|refine cQ rfl ?_|apply cU|refine cV rfl rfl rfl rfl (by first|(apply q64b<;>(first|exact rfl|assumption|exact Ar.mk (by omega)|exact dct (by first|assumption|omega)|exact dcf (by first|assumption|omega)|exact List.not_mem_nil|apply dc_length|exact nm1 (by omega)|fail))|(apply qi64<;>(first|exact rfl|assumption|exact Ar.mk (by omega)|exact dct (by first|assumption|omega)|exact dcf (by first|assumption|omega)|exact List.not_mem_nil|apply dc_length|exact nm1 (by omega)|fail))|((first|apply quad|apply qqu|apply qru|apply qmv|apply qas|apply qla|apply qix|apply qls|apply qad|apply qln|apply qge)<;>(first|exact rfl|assumption|exact Ar.mk (by omega)|exact dct (by first|assumption|omega)|exact dcf (by first|assumption|omega)|exact List.not_mem_nil|apply dc_length|exact nm1 (by omega)|fail))|fail) ?_)
  refine SG.appO (enc := by1) (xs := putU l.length) (ys := l) (base := w.heap.size) rfl rfl rfl (by exact rho_of rfl) (by exact rho_of rfl) rfl rfl rfl rfl by1_len by1_one ho1 (hS.kp0 hk1) (by simp only [maxLen]; show (putN 10 l.length).length + _ ≤ _; omega) (by show ((putN 10 l.length).length + _) * 1 ≤ _; omega) hk1.size (fun v3 w3 hk3 ho3 hw3 => ?_)
  repeat (first|apply cA|apply cB|apply cD|apply cE|apply cF|apply cG|apply cH|apply cJ|apply cM|refine cQ rfl ?_|apply cU|refine cV rfl rfl rfl rfl (by first|(apply q64b<;>(first|exact rfl|assumption|exact Ar.mk (by omega)|exact dct (by first|assumption|omega)|exact dcf (by first|assumption|omega)|exact List.not_mem_nil|apply dc_length|exact nm1 (by omega)|fail))|(apply qi64<;>(first|exact rfl|assumption|exact Ar.mk (by omega)|exact dct (by first|assumption|omega)|exact dcf (by first|assumption|omega)|exact List.not_mem_nil|apply dc_length|exact nm1 (by omega)|fail))|((first|apply quad|apply qqu|apply qru|apply qmv|apply qas|apply qla|apply qix|apply qls|apply qad|apply qln|apply qge)<;>(first|exact rfl|assumption|exact Ar.mk (by omega)|exact dct (by first|assumption|omega)|exact dcf (by first|assumption|omega)|exact List.not_mem_nil|apply dc_length|exact nm1 (by omega)|fail))|fail) ?_)
  refine ret1 (Or.inl rfl) Tryz.results57 (by first | exact ResV.tmp rfl | exact ResV.agg rfl rfl (by assumption) (by first | exact dc_length _ | exact nc_length _ | exact rc_length _ _ _ | exact ec_length _ | exact dl_length _ _ _ _ | rfl) | exact ResV.cell rfl rfl (by assumption)) ?_
  exact ⟨_, rfl, ho3, hk1.trans_new hk3 (own_new ho1 (Nat.le_refl _))⟩
end Go.Proofs.YtgbgnlboogalgaaGreat
namespace Go.Proofs.YtgbgnlboogalgaaGreat
open Go.Proofs
set_option linter.unusedVariables false
theorem bytesT_len (t : Tx) : (bytesT t).length ≤ 66 + t.body.length + t.sig.length := by
  have p1 := headT_len t
  have p2 := putU_len' t.sig.length
  simp only [bytesT, putB, List.length_append]
  omega
attribute [local irreducible] CG NG SG Vals Der Row Blk MapIs IterAt addI xorI orI andI shlI shrI mulI DerX DerR
set_option maxHeartbeats 16000000 in
theorem rhead_spec {w : World} {x : Tm} (hx : Bs w x.a1 x.c1 x.t.body) (hl : x.t.body.length ≤ 10000000) : RetO Tryz.prog 5 by1 1 56 #[txv x] w (headT x.t) := by
  refine enter1 Tryz.func56 rfl Tryz.ntmps56 rfl ?_
  have p1 := putU_len' (u64N x.t.kind)
  have p2 := putU_len' (num x.t.frm)
  have p3 := putU_len' (u64N x.t.non)
  have p4 := putU_len' (u64N x.t.fee)
  have p5 := putU_len' x.t.body.length
  have c1 := fun w => rput_spec (u64N x.t.kind) (u64N_lt _) w
  have c2 := fun w => rput_spec (num x.t.frm) (num_lt _) w
  have c3 := fun w => rput_spec (u64N x.t.non) (u64N_lt _) w
  have c4 := fun w => rput_spec (u64N x.t.fee) (u64N_lt _) w
  generalize hk : putU (u64N x.t.kind) = k at p1 c1
  generalize hf : putU (num x.t.frm) = f at p2 c2
  generalize hn : putU (u64N x.t.non) = m at p3 c3
  generalize he : putU (u64N x.t.fee) = g at p4 c4
  repeat (first|apply cA|apply cB)
  refine SG.box rfl rfl rfl (by exact rho_of rfl) (fun b1 w1 hk1 hb1 hB1 => ?_)
  have hB1 : Blk w1 b1 (.cells (txc x).toArray 36) := hB1
  have l1 := hB1.lt
  obtain ⟨-, r0, r1, r2, r3, r4, -⟩ := txc_rows hB1
  have s1 := hk1.size
  repeat (first|apply cA|apply cD|apply cE|refine cV rfl rfl rfl rfl (by first|(apply qas<;>(exact rfl))|fail) ?_)
  refine CG.rows mixed 7 [0, 1, 2, 4, 5, 6, 3] [⟨3, 0, oB w1.heap.size k⟩] (by kernel_rfl) (by kernel_rfl) (by kernel_rfl) (OkL.all (by repeat' (first | exact OkL.nil | refine OkL.cons ?_ ?_ | exact oP_ok | exact bP_ok))) ?_
  repeat (refine DerR.val rfl rfl rfl rfl (by first|((first|apply qlc|apply qla|apply qfa|apply qcv)<;>(first|exact rfl|assumption|exact List.not_mem_nil|apply dc_length))|fail) ?_)
  rw [u64N_eq]
  refine DerR.call rfl rfl rfl rfl (vs := [dv x.t.frm]) (by repeat' (first | exact True.intro | exact rho_of rfl | refine And.intro ?_ ?_)) (fun W hk hF => rnum_spec x.t.frm W) ?_
  refine DerR.callO k rfl rfl rfl rfl (by repeat' (first | exact OkL.nil | refine OkL.cons ?_ ?_ | exact oP_ok | exact bP_ok)) (vs := [.int .u64 (u64N x.t.kind : Int)]) (by repeat' (first | exact True.intro | exact rho_of rfl | refine And.intro ?_ ?_)) (Nat.le_refl _) (fun W hk hF => c1 W) (fun v3 => ?_)
  refine DerR.tl (fun w2 V hok hV => ?_)
  have ho2 : w2.ownsRow w1.heap.size 5 1 v3 k.length (flt by1 k) := hok.get hV (.head _) rfl
  have hk2 := hok.kp
  clear hok hV
  refine SG.call rfl rfl rfl (vs := [.int .u64 (num x.t.frm : Int)]) (by repeat' (first | exact True.intro | exact rho_of rfl | refine And.intro ?_ ?_)) ((c2 w2).mono (fun e w3 hh => ?_))
  obtain ⟨v4, he', ho3, hk3⟩ := hh
  refine ⟨_, he', ?_⟩
  clear he'
  obtain ⟨a3, c3', rfl, -, hS3⟩ := Sl.own by1_len ho3 rfl
  have k13 := hk2.trans hk3
  have ho2 := own_kp0 ho2 hk3
  refine SG.appO (enc := by1) (xs := k) (ys := f) (base := w1.heap.size) rfl rfl rfl (by exact rho_of rfl) (by exact rho_of rfl) rfl rfl rfl rfl by1_len by1_one ho2 hS3 (by simp only [maxLen]; omega) (by show (_ + _) * 1 ≤ _; omega) k13.size (fun v5 w4 hk4 ho4 _ => ?_)
  have k14 : Kp [] w1 w4 := k13.trans_new hk4 (own_new ho2 (Nat.le_refl _))
  have hXl : (k ++ f).length ≤ 22 := by rw [List.length_append]; omega
  have hXe : k ++ f = putU (u64N x.t.kind) ++ putU (num x.t.frm) := by rw [hk, hf]
  generalize k ++ f = X at ho4 hXl hXe
  have r1 := r1.kp0 k14
  have r2 := r2.kp0 k14
  have r4 := r4.kp0 k14
  have hx4 := (hx.kp0 hk1).kp0 k14
  have s4 := k14.size
  clear r0 r3 ho2 ho3 hS3
  have nb1 := own_nb ho4 b1 (by omega)
  repeat (first|apply cA|apply cD|apply cE|refine cV rfl rfl rfl rfl (by first|(apply qas<;>(exact rfl))|fail) ?_)
  refine CG.rows1 (base := w1.heap.size) (enc := by1) (E := 5) (sz := 1) (v := v5) (l := X) mixed 9 [0, 1, 2, 3, 6, 7, 8, 4, 5] [⟨1000, 0, oB w1.heap.size X⟩, ⟨4, 1, oB w1.heap.size m⟩, ⟨5, 0, oB w1.heap.size (X ++ m)⟩] rfl ho4 (by kernel_rfl) (by kernel_rfl) (by repeat' (first | exact OkL.nil | refine OkL.cons ?_ ?_ | exact oP_ok | exact bP_ok)) ?_
  repeat (refine DerR.val rfl rfl rfl rfl (by first|((first|apply qmv|apply qlc|apply qfa|apply qcv)<;>(first|exact rfl|assumption))|fail) ?_)
  rw [u64N_eq]
  skip
  rw [u64N_eq]
  refine DerR.callO m rfl rfl rfl rfl (by repeat' (first | exact OkL.nil | refine OkL.cons ?_ ?_ | exact oP_ok | exact bP_ok)) (vs := [.int .u64 (u64N x.t.non : Int)]) (by repeat' (first | exact True.intro | exact rho_of rfl | refine And.intro ?_ ?_)) s4 (fun W hk hF => c3 W) (fun v6 => ?_)
  refine DerR.append (src := 1000) X m [(1000, X)] by1_len by1_one rfl rfl (by kernel_rfl) ⟨Nat.le_refl _, trivial⟩ rfl rfl rfl (by repeat' (first | exact OkL.nil | refine OkL.cons ?_ ?_ | exact oP_ok | exact bP_ok)) (by exact rho_of rfl) (by exact rho_of rfl) rfl rfl rfl (by simp only [maxLen]; omega) (by show (_ + _) * 1 ≤ _; omega) s4 (.tail _ (.head _)) (by kernel_rfl) (fun W hk hF => oP.sl by1_len (hF.get (.head _) (by kernel_rfl) rfl)) (fun v7 => ?_)
  refine DerR.tl (fun w5 V hok hV => ?_)
  have ho5 : w5.ownsRow w1.heap.size 5 1 v7 (X ++ m).length (flt by1 (X ++ m)) := hok.get hV (.head _) rfl
  have hk5 := hok.kp
  have hx5 := hx4.sl.kpN hk5 (fun hne b off e => own_nb ho4 b (by have := hx.lt hne b off e; omega))
  have r4 := r4.kp hk5 nb1
  have k15 : Kp [] w1 w5 := k14.trans_new hk5 (own_new ho4 (Nat.le_refl _))
  clear hok hV
  refine SG.call rfl rfl rfl (vs := [.int .u64 (u64N x.t.fee : Int)]) (by repeat' (first | exact True.intro | exact rho_of rfl | refine And.intro ?_ ?_)) ((c4 w5).mono (fun e w6 hh => ?_))
  obtain ⟨v8, he', ho6, hk6⟩ := hh
  refine ⟨_, he', ?_⟩
  clear he'
  obtain ⟨a6, c6, rfl, -, hS6⟩ := Sl.own by1_len ho6 rfl
  have k16 := k15.trans hk6
  have ho5 := own_kp0 ho5 hk6
  refine SG.appO (enc := by1) (xs := X ++ m) (ys := g) (base := w1.heap.size) rfl rfl rfl (by exact rho_of rfl) (by exact rho_of rfl) rfl rfl rfl rfl by1_len by1_one ho5 hS6 (by simp only [maxLen, List.length_append]; omega) (by simp only [List.length_append]; show (_ + _) * 1 ≤ _; omega) k16.size (fun v9 w7 hk7 ho7 _ => ?_)
  have nb1 := own_nb ho5 b1 (by omega)
  have k17 : Kp [] w1 w7 := k16.trans_new hk7 (own_new ho5 (Nat.le_refl _))
  have r4 := (r4.kp0 hk6).kp hk7 nb1
  have hx7 := (hx5.kp0 hk6).kpN hk7 (fun hne b off e => own_nb ho5 b (by have := hx.lt hne b off e; omega))
  repeat (first|apply cA|apply cB|apply cD|apply cE|refine cV rfl rfl rfl rfl (by first|((first|apply qmv|apply qas|apply qlc|apply qfa)<;>(first|exact rfl|assumption|exact List.not_mem_nil))|fail) ?_)
  refine SG.call rfl rfl rfl (vs := [x.b]) (by repeat' (first | exact True.intro | exact rho_of rfl | refine And.intro ?_ ?_)) ((rpb_spec (c := x.c1) hx7 (by omega)).mono (fun e w8 hh => ?_))
  obtain ⟨v10, he', ho8, hk8⟩ := hh
  refine ⟨_, he', ?_⟩
  clear he'
  obtain ⟨a8, c8, rfl, -, hS8⟩ := Sl.own by1_len ho8 rfl
  have k18 := k17.trans hk8
  have ho7 := own_kp0 ho7 hk8
  refine SG.appO (enc := by1) (xs := X ++ m ++ g) (ys := putU x.t.body.length ++ x.t.body) (base := w1.heap.size) rfl rfl rfl (by exact rho_of rfl) (by exact rho_of rfl) rfl rfl rfl rfl by1_len by1_one ho7 hS8 (by simp only [maxLen, List.length_append]; omega) (by simp only [List.length_append]; show (_ + _) * 1 ≤ _; omega) k18.size (fun v11 w9 hk9 ho9 _ => ?_)
  repeat (first|apply cD|apply cE|apply cH|refine cV rfl rfl rfl rfl (by first|(apply qas<;>(exact rfl))|fail) ?_)
  refine ret1 (Or.inl rfl) Tryz.results56 (by first | exact ResV.tmp rfl | exact ResV.agg rfl rfl (by assumption) (by first | exact dc_length _ | exact nc_length _ | exact rc_length _ _ _ | exact ec_length _ | exact dl_length _ _ _ _ | rfl) | exact ResV.cell rfl rfl (by assumption)) ?_
  refine ⟨_, rfl, ?_, hk1.trans (k18.trans_new hk9 (own_new ho7 (Nat.le_refl _)))⟩
  have e : headT x.t = X ++ m ++ g ++ (putU x.t.body.length ++ x.t.body) := by rw [hXe, ← hn, ← he]; rfl
  rw [e]
  exact own_mono ho9 s1
set_option maxHeartbeats 16000000 in
theorem rtbytes_spec {w : World} {n0 : Nat} {x : Tm} (hx : x.In n0 w) : RetO Tryz.prog 5 by1 1 23 #[txv x] w (bytesT x.t) := by
  refine enter1 Tryz.func23 rfl Tryz.ntmps23 rfl ?_
  have hl1 := hx.l1
  have hl2 := hx.l2
  have hh1 := headT_len x.t
  have p2 := putU_len' x.t.sig.length
  repeat (first|apply cA|apply cB)
  refine SG.box rfl rfl rfl (by exact rho_of rfl) (fun b1 w1 hk1 hb1 hB1 => ?_)
  have hB1 : Blk w1 b1 (.cells (txc x).toArray 36) := hB1
  have hx1 := hx.kp0 hk1
  obtain ⟨r, -, -, -, -, -, r5⟩ := txc_rows hB1
  repeat (first|apply cA|apply cD|apply cE|refine cV rfl rfl rfl rfl (by first|(apply qas<;>(exact rfl))|fail) ?_)
  refine CG.rows mixed 4 [0, 2, 3, 1] [⟨1, 0, oB w1.heap.size (headT x.t)⟩] (by kernel_rfl) (by kernel_rfl) (by kernel_rfl) (OkL.all (by repeat' (first | exact OkL.nil | refine OkL.cons ?_ ?_ | exact oP_ok | exact bP_ok))) ?_
  repeat (refine DerR.val rfl rfl rfl rfl (by first|((first|apply qlc|apply qla|apply qfa)<;>(first|exact rfl|assumption|exact List.not_mem_nil|apply txc_length))|fail) ?_)
  refine DerR.callO (headT x.t) rfl rfl rfl rfl (by repeat' (first | exact OkL.nil | refine OkL.cons ?_ ?_ | exact oP_ok | exact bP_ok)) (vs := [txv x]) (by repeat' (first | exact True.intro | exact rho_of rfl | refine And.intro ?_ ?_)) (Nat.le_refl _) (fun w hk hF => rhead_spec (hx1.b.kp0 hk) (by omega)) (fun v4 => ?_)
  refine DerR.tl (fun w3 V hok hV => ?_)
  have ho3 : w3.ownsRow w1.heap.size 5 1 v4 (headT x.t).length (flt by1 (headT x.t)) := hok.get hV (.head _) rfl
  have hk3 := hok.kp
  clear hV hok
  refine SG.call rfl rfl rfl (vs := [x.s]) (by repeat' (first | exact True.intro | exact rho_of rfl | refine And.intro ?_ ?_)) ((rpb_spec (c := x.c2) (hx1.s.kp0 hk3).sl (by omega)).mono (fun e w4 hh => ?_))
  obtain ⟨v5, he, ho4, hk4⟩ := hh
  refine ⟨_, he, ?_⟩
  clear he
  obtain ⟨a4, c4, rfl, -, hS4⟩ := Sl.own by1_len ho4 rfl
  have k4 := hk3.trans hk4
  have ho3 := own_kp0 ho3 hk4
  refine SG.appO (enc := by1) (xs := headT x.t) (ys := putU x.t.sig.length ++ x.t.sig) (base := w1.heap.size) rfl rfl rfl (by exact rho_of rfl) (by exact rho_of rfl) rfl rfl rfl rfl by1_len by1_one ho3 hS4 (by simp only [maxLen, List.length_append]; omega) (by simp only [List.length_append]; show (_ + _) * 1 ≤ _; omega) k4.size (fun v6 w5 hk5 ho5 _ => ?_)
  repeat (first|apply cD|apply cE|apply cH|refine cV rfl rfl rfl rfl (by first|(apply qas<;>(exact rfl))|fail) ?_)
  refine ret1 (Or.inl rfl) Tryz.results23 (by first | exact ResV.tmp rfl | exact ResV.agg rfl rfl (by assumption) (by first | exact dc_length _ | exact nc_length _ | exact rc_length _ _ _ | exact ec_length _ | exact dl_length _ _ _ _ | rfl) | exact ResV.cell rfl rfl (by assumption)) ?_
  exact ⟨_, rfl, own_mono ho5 hk1.size, hk1.trans (k4.trans_new hk5 (own_new ho3 (Nat.le_refl _)))⟩
set_option maxHeartbeats 16000000 in
theorem rname_spec {w : World} {n0 : Nat} {x : Tm} (hx : x.In n0 w) : Ret Tryz.prog 7 #[txv x] w (dv (nameT x.t)) := by
  refine enter1 Tryz.func7 rfl Tryz.ntmps7 rfl ?_
  have hl1 := hx.l1
  have hl2 := hx.l2
  have hh1 := bytesT_len x.t
  repeat (first|apply cA|apply cB)
  refine SG.box rfl rfl rfl (by exact rho_of rfl) (fun b1 w1 hk1 hb1 hB1 => ?_)
  have hB1 : Blk w1 b1 (.cells (txc x).toArray 36) := hB1
  refine SG.alloc rfl rfl rfl (fun b2 w2 hk2 hb2 hB2 => ?_)
  have hB2 : Blk w2 b2 (.cells (dc zd).toArray 24) := hB2
  have k2 := hk1.trans hk2
  obtain ⟨r, -⟩ := txc_rows (hB1.kp0 hk2)
  repeat (first|apply cA|apply cB|apply cD|apply cE|refine cV rfl rfl rfl rfl (by first|(apply qla<;>(first|exact rfl|assumption|exact List.not_mem_nil|apply txc_length))|fail) ?_)
  refine SG.call rfl rfl rfl (vs := [txv x]) (by repeat' (first | exact True.intro | exact rho_of rfl | refine And.intro ?_ ?_)) ((rtbytes_spec (hx.kp0 k2)).mono (fun e w3 hh => ?_))
  obtain ⟨v3, he, ho3, hk3⟩ := hh
  refine ⟨_, he, ?_⟩
  clear he
  obtain ⟨a3, c3, rfl, -, hS3⟩ := Sl.own by1_len ho3 rfl
  have k3 := k2.trans hk3
  refine SG.ret rfl rfl rfl (vs := [.slice a3 (bytesT x.t).length c3]) (by repeat' (first | exact True.intro | exact rho_of rfl | refine And.intro ?_ ?_)) (rof_spec (c := c3) hS3 (by omega)) (fun w4 hk4 => ?_)
  have e : ofI (bytesT x.t) = nameT x.t := rfl
  rw [e]
  have s1 := hk1.size
  refine SG.setAll (old := dc zd) (l := dc (nameT x.t)) rfl rfl (by exact rho_of rfl) (by exact rho_of rfl) ((hB2.kp0 hk3).kp0 hk4) (dc_length _) (dc_length _) (dc_one _) (fun w5 hk5 hB5 => ?_)
  have hr5 : Row w5 b2 0 (dc (nameT x.t)) := Row.all hB5 rfl
  repeat (first|apply cD|apply cE|apply cH)
  refine ret1 (Or.inl rfl) Tryz.results7 (by first | exact ResV.tmp rfl | exact ResV.agg rfl rfl (by assumption) (by first | exact dc_length _ | exact nc_length _ | exact rc_length _ _ _ | exact ec_length _ | exact dl_length _ _ _ _ | rfl) | exact ResV.cell rfl rfl (by assumption)) ?_
  exact ⟨rfl, (k3.trans hk4).trans_new hk5 (new1 (by omega))⟩
end Go.Proofs.YtgbgnlboogalgaaGreat
namespace Go.Proofs.YtgbgnlboogalgaaGreat
open Go.Proofs
set_option linter.unusedVariables false
theorem mem_succ {α : Type} {l : List α} {x : α} {i : Nat} (hi : i < l.length) : x ∈ l.take (i + 1) ↔ x ∈ l.take i ∨ l[i] = x := by
  rw [List.take_succ_eq_append_getElem hi, List.mem_append, List.mem_singleton]
  exact ⟨fun h => h.elim Or.inl (fun h => Or.inr h.symm), fun h => h.elim Or.inl (fun h => Or.inr h.symm)⟩
attribute [local irreducible] CG NG SG Vals Der Row Blk MapIs IterAt DerX DerR wrongT nameT
set_option maxHeartbeats 64000000 in
theorem rtake_spec {w : World} {n : Nat} {a an : Option Addr} {c cn : Nat} {ws : List Wm} {ns : List Dg} {room most : Int} (hP : PD w n a c ws) (hl : ws.length ≤ 1024) (hd : Dst wK wN ws) (hN : Sl dc 8 w an ns) (hnl : ns.length ≤ 1000000) : RetO Tryz.prog 67 wc 14 11 #[.agg (pdc room a ws.length c).toArray, .int .i64 most, .slice an ns.length cn] w (((ordW ws).filter (keepB (ordW ws) ns)).take most.toNat) := by
  refine enter3 Tryz.func11 rfl Tryz.ntmps11 rfl ?_
  repeat (first|apply cA|apply cB)
  refine SG.box rfl rfl rfl (by exact rho_of rfl) (fun b1 w1 hk1 hb1 hB1 => ?_)
  have hB1 : Blk w1 b1 (.cells (pdc room a ws.length c).toArray 29) := hB1
  obtain ⟨q, -, -⟩ := pdc_rows hB1
  have hln := ordW_len ws
  have hris := (ordW_spec ws).rise hd
  have hin : ∀ e ∈ ordW ws, e.x.In n w := fun e he => hP.ins e ((ordW_perm ws).mem_iff.1 he)
  clear hB1
  repeat (first|apply cA|apply cB|apply cD|apply cE|refine cV rfl rfl rfl rfl (by first|((first|apply qas|apply qla)<;>(first|exact rfl|assumption|exact List.not_mem_nil))|fail) ?_)
  refine SG.call rfl rfl rfl (vs := [.agg (pdc room a ws.length c).toArray]) (by repeat' (first | exact True.intro | exact rho_of rfl | refine And.intro ?_ ?_)) ((rorder_spec (hP.kp0 hk1) hl).mono (fun e w2 hh => ?_))
  obtain ⟨v2, he, ho2, hk2⟩ := hh
  refine ⟨_, he, ?_⟩
  clear he q
  generalize ordW ws = r at hln hris ho2 hin
  have k2 := hk1.trans hk2
  have s1 := hk1.size
  obtain ⟨ar, cr, rfl, hcr, -⟩ := Sl.own wc_length ho2 rfl
  have ho2 := own_mono ho2 s1
  repeat (first|apply cA|apply cB|apply cD|apply cE|apply cG|refine cV rfl rfl rfl rfl (by first|(apply qas<;>(exact rfl))|fail) ?_)
  refine CG.loop (X := Nat × Value × (Value × List Wm)) (fun x => [(1, .int .i64 most), (2, .slice an ns.length cn), (7, .slice ar r.length cr), (8, x.2.1), (9, x.2.2.1), (10, .int .i64 (x.1 : Int))])
    (fun x w' => x.1 ≤ r.length ∧ Kp [] w w' ∧ w'.ownsRow w.heap.size 67 14 (.slice ar r.length cr) r.length (flt wc r) ∧ w'.ownsRow w.heap.size 67 14 x.2.1 (((r.take x.1).filter (keepB r ns)).take most.toNat).length (flt wc (((r.take x.1).filter (keepB r ns)).take most.toNat)) ∧ w'.ownsRow w.heap.size 67 14 x.2.2.1 x.2.2.2.length (flt wc x.2.2.2) ∧ Apart x.2.1 (.slice ar r.length cr) ∧ Apart x.2.2.1 (.slice ar r.length cr) ∧ Apart x.2.1 x.2.2.1 ∧ x.2.2.2.length ≤ x.1 ∧ ∀ k, (∃ o ∈ x.2.2.2, wK o = k) ↔ GoneK r ns x.1 k)
    (fun x => r.length - x.1) (0, .slice none 0 0, (.slice none 0 0, [])) ⟨Nat.zero_le _, k2, ho2, by rw [List.take_zero, List.filter_nil, List.take_nil]; exact own_nil, own_nil, fun b hb => (by cases hb), fun b hb => (by cases hb), fun b hb => (by cases hb), Nat.le_refl _, fun k => ⟨fun ⟨o, h, _⟩ => (by cases h), fun ⟨o, h, _⟩ => (by simp at h)⟩⟩ (by (repeat' (first | exact True.intro | exact rfl | refine And.intro ?_ ?_))) ?_
  clear k2 hk2 ho2
  rintro ⟨i, vo, vg, g⟩ w3 ⟨hi, hk3, hr3, ho3, hg3, ha1, ha2, ha3, hgl, hgk⟩
  simp only at hi ho3 hg3 ha1 ha2 ha3 hgl hgk
  refine CG.to [(1, .int .i64 most), (2, .slice an ns.length cn), (7, .slice ar r.length cr), (8, vo), (9, vg), (10, .int .i64 (i : Int))] (by (repeat' (first | exact True.intro | exact rfl | refine And.intro ?_ ?_))) ?_
  have s3 := hk3.size
  by_cases hlt : i < r.length
  rotate_left
  · have g1 : ¬ (i : Int) < (r.length : Int) := by omega
    rw [List.take_of_length_le (l := r) (by omega)] at ho3
    repeat (first|apply cA|apply cB|apply cD|apply cE|refine cV rfl rfl rfl rfl (by first|((first|apply qmv|apply qls|apply qln)<;>(first|exact rfl|exact dcf (by first|assumption|omega)|fail))|fail) ?_)
    refine dA rfl (by exact rho_of rfl) rfl ?_
    repeat (first|apply cA|apply cB|apply cD|apply cE|apply cH|apply cJ|apply cM|refine cQ rfl ?_|refine cV rfl rfl rfl rfl (by first|((first|apply qmv|apply qas)<;>(exact rfl))|fail) ?_)
    refine ret1 (Or.inl rfl) Tryz.results11 (by first | exact ResV.tmp rfl | exact ResV.agg rfl rfl (by assumption) (by first | exact dc_length _ | exact nc_length _ | exact rc_length _ _ _ | exact ec_length _ | exact dl_length _ _ _ _ | rfl) | exact ResV.cell rfl rfl (by assumption)) ?_
    exact ⟨vo, rfl, ho3, hk3⟩
  have g1 : (i : Int) < (r.length : Int) := by omega
  repeat (first|apply cA|apply cB|apply cD|apply cE|refine cV rfl rfl rfl rfl (by first|((first|apply qmv|apply qls|apply qln)<;>(first|exact rfl|exact dct (by first|assumption|omega)|fail))|fail) ?_)
  refine cZ rfl (by exact rho_of rfl) rfl ?_
  repeat (first|apply cA|apply cB|apply cD|apply cE|apply cF|apply cG|refine cV rfl rfl rfl rfl (by first|(apply qas<;>(exact rfl))|fail) ?_)
  refine CG.loop (X := Nat × Bool) (fun x => [(1, .int .i64 most), (2, .slice an ns.length cn), (7, .slice ar r.length cr), (8, vo), (9, vg), (10, .int .i64 (i : Int)), (11, .bool x.2), (12, .int .i64 (x.1 : Int))]) (fun x w' => x.1 ≤ ns.length ∧ Kp [] w3 w' ∧ (x.2 = true ↔ nameT r[i].x.t ∈ ns.take x.1)) (fun x => ns.length - x.1) (0, false) ⟨Nat.zero_le _, Kp.refl _ _, by simp⟩ (by (repeat' (first | exact True.intro | exact rfl | refine And.intro ?_ ?_))) ?_
  rintro ⟨k, fb⟩ w4 ⟨hk, hk4, hM⟩
  simp only at hk hM
  refine CG.to [(1, .int .i64 most), (2, .slice an ns.length cn), (7, .slice ar r.length cr), (8, vo), (9, vg), (10, .int .i64 (i : Int)), (11, .bool fb), (12, .int .i64 (k : Int))] (by (repeat' (first | exact True.intro | exact rfl | refine And.intro ?_ ?_))) ?_
  have k4 := hk3.trans hk4
  have hr4 := own_kp0 hr3 hk4
  obtain ⟨ar', cr', e', -, hS4⟩ := Sl.own wc_length hr4 rfl
  cases e'
  obtain ⟨bl, ol, rfl, ri⟩ := hS4.at hlt
  obtain ⟨i5, i0, -, -, -⟩ := wc_rows ri
  by_cases hkl : k < ns.length
  · have g3 : (k : Int) < (ns.length : Int) := by omega
    have hsu := mem_succ (x := nameT r[i].x.t) hkl
    repeat (first|apply cA|apply cB|apply cD|apply cE|refine cV rfl rfl rfl rfl (by first|((first|apply qmv|apply qls|apply qln)<;>(first|exact rfl|exact dct (by first|assumption|omega)|fail))|fail) ?_)
    refine cZ rfl (by exact rho_of rfl) rfl ?_
    cases fb with
    | true =>
      have hyes := hM.1 rfl
      repeat (first|apply cA|apply cE|apply cF|apply cG)
      refine CG.tail mixed 12 [0, 1, 2, 3, 4, 5, 6, 7, 8, 9, 10, 11] (by kernel_rfl) ?_
      repeat (first | refine cY rfl rfl rfl (by first|(apply qmv<;>(exact rfl))|fail) ?_ | refine Der.skip rfl rfl ?_)
      refine Der.tl (fun w6 hk6 _ _ => ?_)
      repeat (first | first|apply cB|apply cD|apply cE|apply cU|refine cV rfl rfl rfl rfl (by first|((first|apply qmv|apply qas|apply qpk|apply qad)<;>(first|exact rfl|exact Ar.mk (by omega)|fail))|fail) ?_ | refine cX rfl rfl ?_)
      refine NG.round (k + 1, true) (by (repeat' (first | exact True.intro | exact rfl | refine And.intro ?_ ?_))) ⟨by simp only; omega, hk4.trans hk6, iff_of_true rfl (hsu.2 (Or.inl hyes))⟩ (by simp only; omega)
    | false =>
      have hno : ¬ nameT r[i].x.t ∈ ns.take k := fun h => Bool.noConfusion (hM.2 h)
      obtain ⟨bn, on, rfl, rn⟩ := (hN.kp0 k4).at hkl
      clear ri i0
      repeat (first|apply cA|apply cE|apply cF|apply cG)
      refine CG.tail mixed 12 [0, 1, 2, 3, 4, 5, 6, 7, 8, 9, 10, 11] (by kernel_rfl) ?_
      repeat (refine cY rfl rfl rfl (by first|((first|apply qmv|apply qla|apply qfa|apply qix)<;>(first|exact rfl|exact Ar.mk (by omega)|assumption|exact List.not_mem_nil|apply txc_length|fail))|fail) ?_)
      refine Der.call rfl rfl rfl (vs := [txv r[i].x]) (by repeat' (first | exact True.intro | exact rho_of rfl | refine And.intro ?_ ?_)) (fun W hk _ => rname_spec (((hin _ (List.getElem_mem hlt)).kp0 k4).kp0 hk)) ?_
      repeat (refine cY rfl rfl rfl (by first|((first|apply qmv|apply qla|apply qix)<;>(first|exact rfl|exact Ar.mk (by omega)|assumption|exact List.not_mem_nil|apply dc_length|fail))|fail) ?_)
      refine Der.tl (fun w6 hk6 _ _ => ?_)
      by_cases he : nameT r[i].x.t = ns[k]
      · repeat (first|apply cB|apply cD|apply cE|apply cU|refine cV rfl rfl rfl rfl (by first|((first|apply qmv|apply qas|apply qpk|apply qed|apply qad)<;>(first|exact rfl|exact Ar.mk (by omega)|exact dct (by first|assumption|omega)|fail))|fail) ?_)
        refine NG.round (k + 1, true) (by (repeat' (first | exact True.intro | exact rfl | refine And.intro ?_ ?_))) ⟨by simp only; omega, hk4.trans hk6, iff_of_true rfl (hsu.2 (Or.inr he.symm))⟩ (by simp only; omega)
      · repeat (first|apply cB|apply cD|apply cE|apply cU|refine cV rfl rfl rfl rfl (by first|((first|apply qmv|apply qas|apply qpk|apply qed|apply qad)<;>(first|exact rfl|exact Ar.mk (by omega)|exact dcf (by first|assumption|omega)|fail))|fail) ?_)
        refine NG.round (k + 1, false) (by (repeat' (first | exact True.intro | exact rfl | refine And.intro ?_ ?_))) ⟨by simp only; omega, hk4.trans hk6, iff_of_false Bool.false_ne_true (fun h => (hsu.1 h).elim hno (fun h => he h.symm))⟩ (by simp only; omega)
  have g3 : ¬ (k : Int) < (ns.length : Int) := by omega
  rw [List.take_of_length_le (by omega)] at hM
  clear ri i5 i0
  repeat (first|apply cA|apply cB|apply cD|apply cE|refine cV rfl rfl rfl rfl (by first|((first|apply qmv|apply qls|apply qln)<;>(first|exact rfl|exact dcf (by first|assumption|omega)|fail))|fail) ?_)
  refine dA rfl (by exact rho_of rfl) rfl ?_
  repeat (first|apply cA|apply cB|apply cD|apply cE|apply cG|apply cJ|apply cM|refine cQ rfl ?_|refine cV rfl rfl rfl rfl (by first|(apply qas<;>(exact rfl))|fail) ?_)
  refine CG.loop (X := Nat × Bool) (fun x => [(1, .int .i64 most), (2, .slice an ns.length cn), (7, .slice (some ⟨bl, ol, none⟩) r.length cr), (8, vo), (9, vg), (10, .int .i64 (i : Int)), (11, .bool x.2), (13, .int .i64 (x.1 : Int))]) (fun x w' => x.1 ≤ g.length ∧ Kp [] w3 w' ∧ (x.2 = true ↔ badE ns r[i] ∨ ∃ o ∈ g.take x.1, wK o = wK r[i])) (fun x => g.length - x.1) (0, fb) ⟨Nat.zero_le _, hk4, by simpa [badE] using hM⟩ (by (repeat' (first | exact True.intro | exact rfl | refine And.intro ?_ ?_))) ?_
  clear hM hk4 k4 hr4 hS4 g3
  rintro ⟨k, fb⟩ w4 ⟨hk, hk4, hM⟩
  simp only at hk hM
  refine CG.to [(1, .int .i64 most), (2, .slice an ns.length cn), (7, .slice (some ⟨bl, ol, none⟩) r.length cr), (8, vo), (9, vg), (10, .int .i64 (i : Int)), (11, .bool fb), (13, .int .i64 (k : Int))] (by (repeat' (first | exact True.intro | exact rfl | refine And.intro ?_ ?_))) ?_
  have k4 := hk3.trans hk4
  have hr4 := own_kp0 hr3 hk4
  have hg4 := own_kp0 hg3 hk4
  obtain ⟨ar', cr', e', -, hS4⟩ := Sl.own wc_length hr4 rfl
  cases e'
  obtain ⟨ag, cg, rfl, -, hG4⟩ := Sl.own wc_length hg4 rfl
  have ri : Row w4 bl (ol + i * 14) (wc r[i]) := hS4.row (List.getElem?_eq_getElem hlt)
  by_cases hkl : k < g.length
  · have g3 : (k : Int) < (g.length : Int) := by omega
    obtain ⟨-, i0, -, -, -⟩ := wc_rows ri
    obtain ⟨bg, og, rfl, rg⟩ := hG4.at hkl
    obtain ⟨-, q0, -, -, -⟩ := wc_rows rg
    clear ri rg
    have hsu : (∃ o ∈ g.take (k + 1), wK o = wK r[i]) ↔ (∃ o ∈ g.take k, wK o = wK r[i]) ∨ wK g[k] = wK r[i] := by
      constructor
      · rintro ⟨o, h, e⟩
        rcases (mem_succ hkl).1 h with h | h
        · exact Or.inl ⟨o, h, e⟩
        · rw [← h] at e; exact Or.inr e
      · rintro (⟨o, h, e⟩ | e)
        · exact ⟨o, (mem_succ hkl).2 (Or.inl h), e⟩
        · exact ⟨g[k], (mem_succ hkl).2 (Or.inr rfl), e⟩
    repeat (first|apply cA|apply cB|apply cD|apply cE|refine cV rfl rfl rfl rfl (by first|((first|apply qmv|apply qls|apply qln)<;>(first|exact rfl|exact dct (by first|assumption|omega)|fail))|fail) ?_)
    refine cZ rfl (by exact rho_of rfl) rfl ?_
    cases fb with
    | true =>
      have hyes := hM.1 rfl
      repeat (first|apply cA|apply cE|apply cF|apply cG)
      refine CG.tail mixed 14 [0, 1, 2, 3, 4, 5, 6, 7, 8, 9, 10, 11, 12, 13] (by kernel_rfl) ?_
      repeat (first | refine cY rfl rfl rfl (by first|(apply qmv<;>(exact rfl))|fail) ?_ | refine Der.skip rfl rfl ?_)
      refine Der.tl (fun w6 hk6 _ _ => ?_)
      repeat (first | first|apply cB|apply cD|apply cE|apply cU|refine cV rfl rfl rfl rfl (by first|((first|apply qmv|apply qas|apply qpk|apply qad)<;>(first|exact rfl|exact Ar.mk (by omega)|fail))|fail) ?_ | refine cX rfl rfl ?_)
      refine NG.round (k + 1, true) (by (repeat' (first | exact True.intro | exact rfl | refine And.intro ?_ ?_))) ⟨by simp only; omega, hk4.trans hk6, iff_of_true rfl (hyes.elim Or.inl (fun h => Or.inr (hsu.2 (Or.inl h))))⟩ (by simp only; omega)
    | false =>
      have hno : ¬ (badE ns r[i] ∨ ∃ o ∈ g.take k, wK o = wK r[i]) := fun h => Bool.noConfusion (hM.2 h)
      by_cases he : g[k].x.t.frm = r[i].x.t.frm
      · repeat (first|apply cA|apply cE|apply cF|apply cG)
        refine CG.tail mixed 14 [0, 1, 2, 3, 4, 5, 6, 7, 8, 9, 10, 11, 12, 13] (by kernel_rfl) ?_
        repeat (refine cY rfl rfl rfl (by first|((first|apply qmv|apply qla|apply qfa|apply qix)<;>(first|exact rfl|exact Ar.mk (by omega)|assumption|exact List.not_mem_nil|apply dc_length|fail))|fail) ?_)
        refine Der.tl (fun w6 hk6 _ _ => ?_)
        repeat (first|apply cB|apply cD|apply cE|apply cU|refine cV rfl rfl rfl rfl (by first|((first|apply qmv|apply qas|apply qpk|apply qed|apply qad)<;>(first|exact rfl|exact Ar.mk (by omega)|exact dct (by first|assumption|omega)|fail))|fail) ?_)
        refine NG.round (k + 1, true) (by (repeat' (first | exact True.intro | exact rfl | refine And.intro ?_ ?_))) ⟨by simp only; omega, hk4.trans hk6, iff_of_true rfl (Or.inr (hsu.2 (Or.inr he)))⟩ (by simp only; omega)
      · repeat (first|apply cA|apply cE|apply cF|apply cG)
        refine CG.tail mixed 14 [0, 1, 2, 3, 4, 5, 6, 7, 8, 9, 10, 11, 12, 13] (by kernel_rfl) ?_
        repeat (refine cY rfl rfl rfl (by first|((first|apply qmv|apply qla|apply qfa|apply qix)<;>(first|exact rfl|exact Ar.mk (by omega)|assumption|exact List.not_mem_nil|apply dc_length|fail))|fail) ?_)
        refine Der.tl (fun w6 hk6 _ _ => ?_)
        repeat (first|apply cB|apply cD|apply cE|apply cU|refine cV rfl rfl rfl rfl (by first|((first|apply qmv|apply qas|apply qpk|apply qed|apply qad)<;>(first|exact rfl|exact Ar.mk (by omega)|exact dcf (by first|assumption|omega)|fail))|fail) ?_)
        refine NG.round (k + 1, false) (by (repeat' (first | exact True.intro | exact rfl | refine And.intro ?_ ?_))) ⟨by simp only; omega, hk4.trans hk6, iff_of_false Bool.false_ne_true (fun h => h.elim (fun h => hno (Or.inl h)) (fun h => (hsu.1 h).elim (fun h => hno (Or.inr h)) he))⟩ (by simp only; omega)
  have g3 : ¬ (k : Int) < (g.length : Int) := by omega
  rw [List.take_of_length_le (by omega), hgk, ← gone_ex hris hlt] at hM
  have ho4 := own_kp0 ho3 hk4
  have htf := take_filt (keepB r ns) most.toNat hlt
  have hgs := gone_succ (ns := ns) hlt
  repeat (first|apply cA|apply cB|apply cD|apply cE|refine cV rfl rfl rfl rfl (by first|((first|apply qmv|apply qls|apply qln)<;>(first|exact rfl|exact dcf (by first|assumption|omega)|fail))|fail) ?_)
  refine dA rfl (by exact rho_of rfl) rfl ?_
  cases fb with
  | true =>
    have hyes := hM.1 rfl
    have hkb : ¬ keepB r ns r[i] = true := by unfold keepB; rw [hyes]; decide
    rw [if_neg (fun h => hkb h.1)] at htf
    repeat (first|apply cA|apply cB|apply cD|apply cE|apply cJ|apply cM|refine cQ rfl ?_|refine cV rfl rfl rfl rfl (by first|(apply qmv<;>(exact rfl))|fail) ?_)
    refine cZ rfl (by exact rho_of rfl) rfl ?_
    repeat (first|apply cB|refine cV rfl rfl rfl rfl (by first|((first|apply qmv|apply qla|apply qix)<;>(first|exact rfl|exact Ar.mk (by omega)|assumption|exact List.not_mem_nil|apply wc_length|fail))|fail) ?_)
    refine SG.buildSlice rfl rfl rfl rfl (bsw r[i]) (fun b6 w6 hk6 hb6 hB6 => ?_)
    have hS6 : Sl wc 14 w6 (some ⟨b6, 0, none⟩) [r[i]] := sl_one wc_length hB6
    have k6 := k4.trans hk6
    have hr6 := own_kp0 hr4 hk6
    have ho6 := own_kp0 ho4 hk6
    have hg6 := own_kp0 hg4 hk6
    clear ri
    skip
    refine SG.appO (enc := wc) (xs := g) (ys := [r[i]]) (base := w.heap.size) rfl rfl rfl (by exact rho_of rfl) (by exact rho_of rfl) rfl rfl rfl rfl wc_length wc_one hg6 hS6 (by simp only [maxLen, List.length_cons, List.length_nil]; omega) (by simp only [List.length_cons, List.length_nil]; show (_ + _) * 88 ≤ _; omega) k6.size (fun v' w7 hk7 hg7 hv7 => ?_)
    repeat (first|apply cB|apply cD|apply cE|apply cU|refine cV rfl rfl rfl rfl (by first|((first|apply qmv|apply qas|apply qad)<;>(first|exact rfl|exact Ar.mk (by omega)|fail))|fail) ?_)
    refine NG.round (i + 1, vo, (v', g ++ [r[i]])) (by (repeat' (first | exact True.intro | exact rfl | refine And.intro ?_ ?_))) ⟨by simp only; omega, k6.trans_new hk7 (own_new hg6 (Nat.le_refl _)), own_apart ha2 hr6 hk7, ?_, hg7, ha1, ha2.grow hv7 hr6, (ha3.symm.grow hv7 ho6).symm, by simp only [List.length_append, List.length_cons, List.length_nil]; omega, fun k => ?_⟩ (by simp only; omega)
    · simp only
      rw [htf]
      exact own_apart ha3.symm ho6 hk7
    · simp only
      rw [hgs, ← hgk]
      have hh := (gone_ex hris hlt).1 hyes
      constructor
      · rintro ⟨o, h, e⟩
        rcases List.mem_append.1 h with h | h
        · exact Or.inl ⟨o, h, e⟩
        · rw [List.mem_singleton] at h
          subst h
          rcases hh with hh | hh
          · exact Or.inr ⟨hh, e⟩
          · rw [e, ← hgk] at hh
            exact Or.inl hh
      · rintro (⟨o, h, e⟩ | ⟨_, e⟩)
        · exact ⟨o, List.mem_append_left _ h, e⟩
        · exact ⟨r[i], List.mem_append_right _ (List.mem_singleton.2 rfl), e⟩
  | false =>
    have hno : ¬ exB (outL (r.map Wm.en) ns) r[i].en = true := fun h => Bool.noConfusion (hM.2 h)
    have hkb : keepB r ns r[i] = true := by
      unfold keepB
      cases h : exB (outL (r.map Wm.en) ns) r[i].en with
      | true => exact absurd h hno
      | false => rfl
    have hgk' : ∀ k, (∃ o ∈ g, wK o = k) ↔ GoneK r ns (i + 1) k := fun k => by
      rw [hgs, ← hgk]
      exact ⟨Or.inl, fun h => h.elim id (fun h => absurd ((gone_ex hris hlt).2 (Or.inl h.1)) hno)⟩
    obtain ⟨ao, co, rfl, -, -⟩ := Sl.own wc_length ho4 rfl
    have hlen : (((r.take i).filter (keepB r ns)).take most.toNat).length = min most.toNat ((r.take i).filter (keepB r ns)).length := List.length_take
    have hfl : ((r.take i).filter (keepB r ns)).length ≤ 1024 := Nat.le_trans (List.length_filter_le _ _) (by rw [List.length_take]; omega)
    repeat (first|apply cA|apply cB|apply cD|apply cE|apply cJ|apply cM|refine cQ rfl ?_|refine cV rfl rfl rfl rfl (by first|(apply qmv<;>(exact rfl))|fail) ?_)
    refine dA rfl (by exact rho_of rfl) rfl ?_
    by_cases hm : ((r.take i).filter (keepB r ns)).length < most.toNat
    · rw [if_pos ⟨hkb, hm⟩] at htf
      have g4 : ((((r.take i).filter (keepB r ns)).take most.toNat).length : Int) < most := by omega
      repeat (first|apply cA|apply cB|apply cD|apply cE|refine cV rfl rfl rfl rfl (by first|((first|apply qmv|apply qls|apply qln)<;>(first|exact rfl|exact dct (by first|assumption|omega)|fail))|fail) ?_)
      refine cZ rfl (by exact rho_of rfl) rfl ?_
      repeat (first|apply cB|refine cV rfl rfl rfl rfl (by first|((first|apply qmv|apply qla|apply qix)<;>(first|exact rfl|exact Ar.mk (by omega)|assumption|exact List.not_mem_nil|apply wc_length|fail))|fail) ?_)
      refine SG.buildSlice rfl rfl rfl rfl (bsw r[i]) (fun b6 w6 hk6 hb6 hB6 => ?_)
      have hS6 : Sl wc 14 w6 (some ⟨b6, 0, none⟩) [r[i]] := sl_one wc_length hB6
      have k6 := k4.trans hk6
      have hr6 := own_kp0 hr4 hk6
      have ho6 := own_kp0 ho4 hk6
      have hg6 := own_kp0 hg4 hk6
      clear ri
      skip
      refine SG.appO (enc := wc) (xs := ((r.take i).filter (keepB r ns)).take most.toNat) (ys := [r[i]]) (base := w.heap.size) rfl rfl rfl (by exact rho_of rfl) (by exact rho_of rfl) rfl rfl rfl rfl wc_length wc_one ho6 hS6 (by simp only [maxLen, List.length_cons, List.length_nil]; omega) (by simp only [List.length_cons, List.length_nil]; show (_ + _) * 88 ≤ _; omega) k6.size (fun v' w7 hk7 ho7 hv7 => ?_)
      repeat (first|apply cB|apply cD|apply cE|apply cU|refine cV rfl rfl rfl rfl (by first|((first|apply qmv|apply qas|apply qad)<;>(first|exact rfl|exact Ar.mk (by omega)|fail))|fail) ?_)
      refine NG.round (i + 1, v', (.slice ag g.length cg, g)) (by (repeat' (first | exact True.intro | exact rfl | refine And.intro ?_ ?_))) ⟨by simp only; omega, k6.trans_new hk7 (own_new ho6 (Nat.le_refl _)), own_apart ha1 hr6 hk7, ?_, own_apart ha3 hg6 hk7, ha1.grow hv7 hr6, ha2, ha3.grow hv7 hg6, by simp only; omega, hgk'⟩ (by simp only; omega)
      simp only
      rw [htf]
      exact ho7
    · rw [if_neg (fun h => hm h.2)] at htf
      have g4 : ¬ ((((r.take i).filter (keepB r ns)).take most.toNat).length : Int) < most := by omega
      repeat (first|apply cA|apply cB|apply cD|apply cE|refine cV rfl rfl rfl rfl (by first|((first|apply qmv|apply qls|apply qln)<;>(first|exact rfl|exact dcf (by first|assumption|omega)|fail))|fail) ?_)
      refine dA rfl (by exact rho_of rfl) rfl ?_
      repeat (first|apply cB|apply cD|apply cE|apply cF|apply cU|refine cV rfl rfl rfl rfl (by first|((first|apply qmv|apply qas|apply qad)<;>(first|exact rfl|exact Ar.mk (by omega)|fail))|fail) ?_)
      refine NG.round (i + 1, .slice ao (((r.take i).filter (keepB r ns)).take most.toNat).length co, (.slice ag g.length cg, g)) (by (repeat' (first | exact True.intro | exact rfl | refine And.intro ?_ ?_))) ⟨by simp only; omega, k4, hr4, ?_, hg4, ha1, ha2, ha3, by simp only; omega, hgk'⟩ (by simp only; omega)
      simp only
      rw [htf]
      exact ho4
end Go.Proofs.YtgbgnlboogalgaaGreat
namespace Go.Proofs.YtgbgnlboogalgaaGreat
open Go.Proofs
set_option linter.unusedVariables false
/-- Of the first k one that is late, of the same key, with no smaller number. -/
def MustK (r : List Wm) (h lv : Int) (e : Wm) (k : Nat) : Prop := ∃ (j : Nat) (hj : j < r.length), j < k ∧ r[j].since + lv + 1 ≤ h ∧ wK r[j] = wK e ∧ wN e ≤ wN r[j]
def mustB (ws : List Wm) (h lv : Int) (e : Wm) : Bool := upB (dueL (ws.map Wm.en) h lv) e.en
attribute [local irreducible] CG NG SG Vals Der Row Blk MapIs IterAt DerX DerR wrongT nameT
set_option maxHeartbeats 16000000 in
theorem wsame_spec {w : World} {n m : Nat} {a a2 : Option Addr} (c c2 : Nat) {xs : List Tm} {ws : List Wm} (hX : Sl txc 13 w a xs) (hW : Sl wc 14 w a2 ws) (hx : ∀ x ∈ xs, x.In n w) (hw : ∀ e ∈ ws, e.x.In m w) (hl : xs.length ≤ 100000) (h : xs.map (·.t) = ws.map (fun e => e.x.t)) : Ret Tryz.prog 9 #[.slice a xs.length c, .slice a2 ws.length c2] w (.bool true) := by
  refine enter2 Tryz.func9 rfl Tryz.ntmps9 rfl ?_
  have hlen : xs.length = ws.length := by have := congrArg List.length h; rwa [List.length_map, List.length_map] at this
  have g0 : (xs.length : Int) = (ws.length : Int) := by omega
  repeat (first|apply cA|apply cB|apply cD|apply cE|refine cV rfl rfl rfl rfl (by first|((first|apply qmv|apply qas|apply qni|apply qln)<;>(first|exact rfl|exact dct (by first|assumption|omega)|fail))|fail) ?_)
  refine dA rfl (by exact rho_of rfl) rfl ?_
  repeat (first|apply cA|apply cB|apply cD|apply cE|apply cF|apply cG|refine cV rfl rfl rfl rfl (by first|(apply qas<;>(exact rfl))|fail) ?_)
  refine CG.loop (X := Nat) (fun i => [(0, .slice a xs.length c), (1, .slice a2 ws.length c2), (5, .int .i64 (i : Int))]) (fun i w' => i ≤ xs.length ∧ Kp [] w w') (fun i => xs.length - i) 0 ⟨Nat.zero_le _, Kp.refl _ _⟩ (by (repeat' (first | exact True.intro | exact rfl | refine And.intro ?_ ?_))) ?_
  rintro i w1 ⟨hi, hk1⟩
  refine CG.to [(0, .slice a xs.length c), (1, .slice a2 ws.length c2), (5, .int .i64 (i : Int))] (by (repeat' (first | exact True.intro | exact rfl | refine And.intro ?_ ?_))) ?_
  by_cases hlt : i < xs.length
  · have g1 : (i : Int) < (xs.length : Int) := by omega
    have hlt2 : i < ws.length := by omega
    have heq : xs[i].t = ws[i].x.t := by
      have := congrArg (fun l => l[i]?) h
      simp only [List.getElem?_map, List.getElem?_eq_getElem hlt, List.getElem?_eq_getElem hlt2, Option.map_some, Option.some.injEq] at this
      exact this
    obtain ⟨b1, o1, rfl, r1⟩ := (hX.kp0 hk1).at hlt
    obtain ⟨b2, o2, rfl, r2⟩ := (hW.kp0 hk1).at hlt2
    obtain ⟨q2, -, -, -, -⟩ := wc_rows r2
    clear r2
    repeat (first|apply cA|apply cB|apply cD|apply cE|refine cV rfl rfl rfl rfl (by first|((first|apply qmv|apply qls|apply qln)<;>(first|exact rfl|exact dct (by first|assumption|omega)|fail))|fail) ?_)
    refine cZ rfl (by exact rho_of rfl) rfl ?_
    repeat (first|apply cA|apply cE|apply cF|apply cG)
    refine CG.tail mixed 10 [0, 1, 2, 3, 4, 5, 6, 7, 8, 9] (by kernel_rfl) ?_
    repeat (refine cY rfl rfl rfl (by first|((first|apply qmv|apply qla|apply qix)<;>(first|exact rfl|exact Ar.mk (by omega)|assumption|exact List.not_mem_nil|apply txc_length|fail))|fail) ?_)
    refine Der.call rfl rfl rfl (vs := [txv xs[i]]) (by repeat' (first | exact True.intro | exact rho_of rfl | refine And.intro ?_ ?_)) (fun W hk _ => tof_spec xs[i]) ?_
    repeat (refine cY rfl rfl rfl (by first|((first|apply qmv|apply qla|apply qfa|apply qix)<;>(first|exact rfl|exact Ar.mk (by omega)|assumption|exact List.not_mem_nil|apply txc_length|fail))|fail) ?_)
    refine Der.tl (fun w2 hk2 _ _ => ?_)
    have ts := rtsame_spec (((hx _ (List.getElem_mem hlt)).kp0 hk1).kp0 hk2) (((hw _ (List.getElem_mem hlt2)).kp0 hk1).kp0 hk2)
    rw [txEq_t heq] at ts
    refine SG.ret rfl rfl rfl (vs := [txv xs[i], txv ws[i].x]) (by repeat' (first | exact True.intro | exact rho_of rfl | refine And.intro ?_ ?_)) ts (fun w3 hk3 => ?_)
    repeat (first|apply cD|apply cE|refine cV rfl rfl rfl rfl (by first|(apply qnt<;>(exact rfl))|fail) ?_)
    refine dA rfl (by exact rho_of rfl) rfl ?_
    repeat (first|apply cB|apply cD|apply cE|apply cF|apply cU|refine cV rfl rfl rfl rfl (by first|((first|apply qmv|apply qas|apply qad)<;>(first|exact rfl|exact Ar.mk (by omega)|fail))|fail) ?_)
    refine NG.round (i + 1) (by (repeat' (first | exact True.intro | exact rfl | refine And.intro ?_ ?_))) ⟨by omega, (hk1.trans hk2).trans hk3⟩ (by omega)
  have g1 : ¬ (i : Int) < (xs.length : Int) := by omega
  repeat (first|apply cA|apply cB|apply cD|apply cE|refine cV rfl rfl rfl rfl (by first|((first|apply qmv|apply qls|apply qln)<;>(first|exact rfl|exact dcf (by first|assumption|omega)|fail))|fail) ?_)
  refine dA rfl (by exact rho_of rfl) rfl ?_
  repeat (first|apply cA|apply cB|apply cD|apply cE|apply cH|apply cJ|apply cM|refine cQ rfl ?_|refine cV rfl rfl rfl rfl (by first|(apply qas<;>(exact rfl))|fail) ?_)
  refine ret1 (Or.inl rfl) Tryz.results9 (by first | exact ResV.tmp rfl | exact ResV.agg rfl rfl (by assumption) (by first | exact dc_length _ | exact nc_length _ | exact rc_length _ _ _ | exact ec_length _ | exact dl_length _ _ _ _ | rfl) | exact ResV.cell rfl rfl (by assumption)) ?_
  exact ⟨rfl, hk1⟩
end Go.Proofs.YtgbgnlboogalgaaGreat
namespace Go.Proofs.YtgbgnlboogalgaaGreat
open Go.Proofs
set_option linter.unusedVariables false
theorem take_doc {ws : List Wm} {ns : List Dg} {m : Nat} : (((ordW ws).filter (keepB (ordW ws) ns)).take m).map (fun e => e.x.t) = (((ordE (ws.map Wm.en)).filter (fun e => !exB (outL (ws.map Wm.en) ns) e)).take m).map (·.t) := by
  rw [← out_ord, ← ordW_en, List.filter_map, ← List.map_take, List.map_map]
  rfl
theorem dst_w {ws : List Wm} (h : Dst En.key En.non (ws.map Wm.en)) : Dst wK wN ws := by
  unfold Dst at *
  rwa [List.pairwise_map] at h
/-- The name of the one that a byte chooses. -/
def nmU (ys : List Tm) (u : UInt8) : Dg := (ys[u.toNat % ys.length]?).elim zd (fun x => nameT x.t)
theorem nmU_at {ys : List Tm} {u : UInt8} {j : Nat} (hj : u.toNat % ys.length = j) (h : j < ys.length) : nmU ys u = nameT ys[j].t := by
  unfold nmU
  rw [hj, List.getElem?_eq_getElem h]
  rfl
theorem bsdg' (w : World) (a0 a1 a2 a3 a4 a5 a6 a7 : UInt8) : (Instr.buildSlice 32 1 #[(0, .agg #[bv a0, bv a1, bv a2, bv a3, bv a4, bv a5, bv a6, bv a7])]).run Tryz.prog w = .ok (.slice (some ⟨w.heap.size, 0, none⟩) 1 1) { w with heap := w.heap.push (.cells #[bv a0, bv a1, bv a2, bv a3, bv a4, bv a5, bv a6, bv a7] 38) } := by kernel_rfl
theorem bsdg (d : Dg) (w : World) : (Instr.buildSlice 32 1 #[(0, dv d)]).run Tryz.prog w = .ok (.slice (some ⟨w.heap.size, 0, none⟩) 1 1) { w with heap := w.heap.push (.cells (dc d).toArray 38) } := by
  obtain ⟨l, hl⟩ := d
  match l, hl with
  | [x0, x1, x2, x3, x4, x5, x6, x7], _ => exact bsdg' w x0 x1 x2 x3 x4 x5 x6 x7
theorem bsdr' (w : World) (a0 a1 a2 a3 a4 a5 a6 a7 : UInt8) : (Instr.buildSlice 33 1 #[(0, .agg #[bv a0, bv a1, bv a2, bv a3, bv a4, bv a5, bv a6, bv a7])]).run Tryz.prog w = .ok (.slice (some ⟨w.heap.size, 0, none⟩) 1 1) { w with heap := w.heap.push (.cells #[bv a0, bv a1, bv a2, bv a3, bv a4, bv a5, bv a6, bv a7] 24) } := by kernel_rfl
theorem bsdr (d : Dg) (w : World) : (Instr.buildSlice 33 1 #[(0, dv d)]).run Tryz.prog w = .ok (.slice (some ⟨w.heap.size, 0, none⟩) 1 1) { w with heap := w.heap.push (.cells (dc d).toArray 24) } := by
  obtain ⟨l, hl⟩ := d
  match l, hl with
  | [x0, x1, x2, x3, x4, x5, x6, x7], _ => exact bsdr' w x0 x1 x2 x3 x4 x5 x6 x7
theorem mm_eq (most : Int) (n : Nat) : (if (if (n : Int) < most then (n : Int) else most) < 0 then (0 : Int) else (if (n : Int) < most then (n : Int) else most)) = ((min most.toNat n : Nat) : Int) := by
  split <;> split <;> omega
theorem of_at {k : Dg} {zs us : List Tm} (h : us.map (·.t) = (zs.filter (fun y => decide (y.t.frm = k))).map (·.t)) {i : Nat} (hi : i < zs.length) (hk : zs[i].t.frm = k) : ∃ h2 : ((zs.take i).filter (fun y => decide (y.t.frm = k))).length < us.length, us[((zs.take i).filter (fun y => decide (y.t.frm = k))).length].t = zs[i].t := by
  have h1 := filter_nth (fun y : Tm => decide (y.t.frm = k)) zs i hi (decide_eq_true hk)
  have h2 := congrArg (fun x => x[((zs.take i).filter (fun y => decide (y.t.frm = k))).length]?) h
  simp only [List.getElem?_map] at h2
  rw [h1] at h2
  obtain ⟨y, hy, e⟩ := Option.map_eq_some_iff.1 h2
  obtain ⟨h3, h4⟩ := List.getElem?_eq_some_iff.1 hy
  exact ⟨h3, by rw [h4]; exact e⟩
theorem of_us {k : Dg} {l : List En} {zs us : List Tm} (hz : zs.map (·.t) = (ordE l).map (·.t)) (hu : us.map (·.t) = ((ordE l).filter (fun e => decide (e.key = k))).map (·.t)) : us.map (·.t) = (zs.filter (fun y => decide (y.t.frm = k))).map (·.t) := by
  have h1 : (zs.filter (fun y => decide (y.t.frm = k))).map (·.t) = (zs.map (·.t)).filter (fun t => decide (t.frm = k)) := by rw [List.filter_map]; rfl
  have h2 : ((ordE l).filter (fun e => decide (e.key = k))).map (·.t) = ((ordE l).map (·.t)).filter (fun t => decide (t.frm = k)) := by rw [List.filter_map]; rfl
  rw [h1, hz, hu, h2]
theorem of_cnt {k : Dg} {zs : List Tm} {i : Nat} (hi : i < zs.length) : ((zs.take (i + 1)).filter (fun y => decide (y.t.frm = k))).length = ((zs.take i).filter (fun y => decide (y.t.frm = k))).length + if zs[i].t.frm = k then 1 else 0 := by
  rw [List.take_succ_eq_append_getElem hi, List.filter_append, List.length_append]
  by_cases h : zs[i].t.frm = k
  · rw [if_pos h, List.filter_cons_of_pos (p := fun y : Tm => decide (y.t.frm = k)) (decide_eq_true h)]; rfl
  · rw [if_neg h, List.filter_cons_of_neg (p := fun y : Tm => decide (y.t.frm = k)) (by simpa using h)]; rfl
theorem t_at {xs zs : List Tm} {l : List En} {m : Nat} (hx : xs.map (·.t) = (l.take m).map (·.t)) (hz : zs.map (·.t) = l.map (·.t)) {i : Nat} (hi : i < xs.length) : ∃ h : i < zs.length, xs[i].t = zs[i].t := by
  have hl := congrArg List.length hx
  have hl2 := congrArg List.length hz
  simp only [List.length_map, List.length_take] at hl hl2
  have h : i < zs.length := by omega
  refine ⟨h, ?_⟩
  have h1 := congrArg (fun x => x[i]?) hx
  have h2 := congrArg (fun x => x[i]?) hz
  simp only [List.getElem?_map, List.getElem?_eq_getElem hi, List.getElem?_eq_getElem h, List.getElem?_eq_getElem (show i < (l.take m).length by rw [List.length_take]; omega), List.getElem?_eq_getElem (show i < l.length by omega), Option.map_some, Option.some.injEq, List.getElem_take] at h1 h2
  rw [h1, h2]
attribute [local irreducible] CG NG SG Vals Der Row Blk MapIs IterAt DerX DerR wrongT nameT
set_option maxHeartbeats 64000000 in
theorem takes_walk (w : World) (a : Option Addr) (c : Nat) (xs : List Tm) (hX : TxsR w w.heap.size a xs) (most : Int) (hmost : fit64 most) (ao : Option Addr) (co : Nat) (os : List UInt8) (hO : Sl by1 1 w ao os) (k : Dg) : Ret Tryz.prog 3 #[.slice a xs.length c, .int .i64 most, .slice ao os.length co, dv k] w (.bool true) := by
  refine enter4 Tryz.func3 rfl Tryz.ntmps3 rfl ?_
  repeat (first|apply cA|apply cB)
  refine SG.box rfl rfl rfl (by exact rho_of rfl) (fun b7 w0 hk0 hb7 hB7 => ?_)
  have hB7 : Blk w0 b7 (.cells (dc k).toArray 24) := hB7
  have r7 : Row w0 b7 0 (dc k) := Row.all hB7 rfl
  have s0 := hk0.size
  clear hB7
  repeat (first|apply cA|apply cB|apply cD|apply cE|refine cV rfl rfl rfl rfl (by first|((first|apply qmv|apply qas)<;>(exact rfl))|fail) ?_)
  refine SG.call rfl rfl rfl (vs := [.slice a xs.length c, .int .i64 ((20 : Nat) : Int)]) (by repeat' (first | exact True.intro | exact rho_of rfl | refine And.intro ?_ ?_)) ((cuts_spec (c := c) (hX.kp0 hk0) (most := 20) (by omega) s0).mono (fun e w1 hh => ?_))
  obtain ⟨v1, he, hk1, hN⟩ := hh
  refine ⟨_, he, ?_⟩
  clear he
  obtain ⟨a1, c1, rfl, hc1, hXI⟩ := hN.toI
  generalize hys : (xs.take 20).map cutM = ys at hXI hc1
  have hyl : ys.length ≤ 20 := by rw [← hys, List.length_map, List.length_take]; omega
  clear hN hys
  have k1 := hk0.trans hk1
  repeat (first|apply cA|apply cB|apply cD|apply cE|refine cV rfl rfl rfl rfl (by first|((first|apply qmv|apply qas)<;>(exact rfl))|fail) ?_)
  refine SG.call rfl rfl rfl (vs := [.slice a1 ys.length c1]) (by repeat' (first | exact True.intro | exact rho_of rfl | refine And.intro ?_ ?_)) ((filled_spec hXI (by omega) k1.size).mono (fun e w2 hh => ?_))
  obtain ⟨p, v, ms, a', c', ws, he, hk2, hP, hp, hv, hD, hms, hws⟩ := hh
  refine ⟨_, he, ?_⟩
  clear he
  have k2 := k1.trans hk2
  have hI : PInv 30 (ms.map Em.en) := by rw [hms]; exact fillL_inv _ _
  rw [← hms] at hws
  generalize hl : ms.map Em.en = l at hI hws
  have hlen := hI.len
  have hml : ms.length = l.length := by rw [← hl, List.length_map]
  have hwl : ws.length = l.length := by rw [← hws, List.length_map]
  have hdw : Dst wK wN ws := dst_w (by rw [hws]; exact hI.dst)
  repeat (first|refine cV rfl rfl rfl rfl (by first|((first|apply qmv|apply qxt)<;>(exact rfl))|fail) ?_)
  refine SG.alloc rfl rfl rfl (fun b10 w3 hk3 hb10 hB10 => ?_)
  have hB10 : Blk w3 b10 (.cells (pdc 0 none 0 0).toArray 29) := hB10
  repeat (first|refine cV rfl rfl rfl rfl (by first|(apply qas<;>(exact rfl))|fail) ?_)
  refine SG.setAll (l := pdc 30 a' ws.length c') rfl rfl (by exact rho_of rfl) (by exact rho_of rfl) hB10 rfl rfl rfl (fun w4 hk4 hB10 => ?_)
  have k24 : Kp [] w2 w4 := hk3.trans_new hk4 (new1 (by omega))
  have k4 := k2.trans k24
  have hP := hP.kp0 k24
  have hD := hD.kp0 k24
  have hXI := hXI.kp0 (hk2.trans k24)
  have r10 : Row w4 b10 0 (pdc 30 a' ws.length c') := Row.all hB10 rfl
  have r7 := r7.kp0 (hk1.trans (hk2.trans k24))
  have s4 := k4.size
  clear hB10 hk3 hk4
  repeat (first|apply cA|apply cB|apply cD|apply cE|refine cV rfl rfl rfl rfl (by first|((first|apply qep|apply qmv|apply qep)<;>(exact rfl))|fail) ?_)
  refine dA rfl (by exact rho_of rfl) rfl ?_
  repeat (first|apply cA|apply cB|apply cD|apply cE|apply cF|apply cG|refine cV rfl rfl rfl rfl (by first|(apply qas<;>(exact rfl))|fail) ?_)
  refine CG.loop (X := Nat × Value × Value) (fun x => [(0, .slice a1 ys.length c1), (1, .int .i64 most), (2, .slice ao os.length co), (7, .pointer (some ⟨b7, 0, none⟩)), (9, .pointer (some ⟨p, 0, none⟩)), (10, .pointer (some ⟨b10, 0, none⟩)), (11, x.2.1), (12, x.2.2), (13, .int .i64 (x.1 : Int))])
    (fun x w' => x.1 ≤ os.length ∧ x.1 ≤ 6 ∧ Kp [] w4 w' ∧ w'.ownsRow w4.heap.size 38 8 x.2.1 ((os.take x.1).map (nmU ys)).length (flt dc ((os.take x.1).map (nmU ys))) ∧ w'.ownsRow w4.heap.size 24 8 x.2.2 ((os.take x.1).map (nmU ys)).length (flt dc ((os.take x.1).map (nmU ys)))) (fun x => os.length - x.1) (0, .slice none 0 0, .slice none 0 0) ⟨Nat.zero_le _, Nat.zero_le _, Kp.refl _ _, own_nil, own_nil⟩ (by (repeat' (first | exact True.intro | exact rfl | refine And.intro ?_ ?_))) ?_
  rintro ⟨i, vn, vw⟩ w5 ⟨hi, hi6, hk5, hn5, hw5⟩
  simp only at hi hi6 hn5 hw5
  refine CG.to [(0, .slice a1 ys.length c1), (1, .int .i64 most), (2, .slice ao os.length co), (7, .pointer (some ⟨b7, 0, none⟩)), (9, .pointer (some ⟨p, 0, none⟩)), (10, .pointer (some ⟨b10, 0, none⟩)), (11, vn), (12, vw), (13, .int .i64 (i : Int))] (by (repeat' (first | exact True.intro | exact rfl | refine And.intro ?_ ?_))) ?_
  repeat (first | refine CG.scope ?_ | refine cA ?_)
  refine CG.cut_then (fun L w' => SubE [(0, .slice a1 ys.length c1), (1, .int .i64 most), (2, .slice ao os.length co), (7, .pointer (some ⟨b7, 0, none⟩)), (9, .pointer (some ⟨p, 0, none⟩)), (10, .pointer (some ⟨b10, 0, none⟩)), (11, vn), (12, vw), (13, .int .i64 (i : Int)), (43, .bool (decide (i < os.length ∧ i < 6 ∧ 0 < ys.length)))] L ∧ w' = w5) ?_ ?_
  · by_cases h1 : i < os.length
    · have g1 : (i : Int) < (os.length : Int) := by omega
      by_cases h2 : i < 6
      · have g2 : (i : Int) < 6 := by omega
        by_cases h3 : 0 < ys.length
        · have g3 : (0 : Int) < (ys.length : Int) := by omega
          rw [decide_eq_true ⟨h1, h2, h3⟩]
          repeat (first|apply cB|apply cD|refine cV rfl rfl rfl rfl (by first|((first|apply qmv|apply qpk|apply qls|apply qln|apply qgt)<;>(first|exact rfl|exact dct (by first|assumption|omega)|fail))|fail) ?_)
          exact NG.cut ⟨by (repeat' (first | exact True.intro | exact rfl | refine And.intro ?_ ?_)), rfl⟩
        · have g3 : ¬ (0 : Int) < (ys.length : Int) := by omega
          rw [decide_eq_false (fun h => h3 h.2.2)]
          repeat (first|apply cB|apply cD|refine cV rfl rfl rfl rfl (by first|((first|apply qmv|apply qpk|apply qls|apply qln|apply qgt)<;>(first|exact rfl|exact dct (by first|assumption|omega)|exact dcf (by first|assumption|omega)|fail))|fail) ?_)
          exact NG.cut ⟨by (repeat' (first | exact True.intro | exact rfl | refine And.intro ?_ ?_)), rfl⟩
      · have g2 : ¬ (i : Int) < 6 := by omega
        rw [decide_eq_false (fun h => h2 h.2.1)]
        repeat (first | first|apply cB|apply cD|refine cV rfl rfl rfl rfl (by first|((first|apply qmv|apply qpk|apply qls|apply qln)<;>(first|exact rfl|exact dct (by first|assumption|omega)|exact dcf (by first|assumption|omega)|fail))|fail) ?_ | refine cX rfl rfl ?_)
        exact NG.cut ⟨by (repeat' (first | exact True.intro | exact rfl | refine And.intro ?_ ?_)), rfl⟩
    · have g1 : ¬ (i : Int) < (os.length : Int) := by omega
      rw [decide_eq_false (fun h => h1 h.1)]
      repeat (first | first|apply cB|apply cD|refine cV rfl rfl rfl rfl (by first|((first|apply qmv|apply qpk|apply qls|apply qln)<;>(first|exact rfl|exact dcf (by first|assumption|omega)|fail))|fail) ?_ | refine cX rfl rfl ?_)
      exact NG.cut ⟨by (repeat' (first | exact True.intro | exact rfl | refine And.intro ?_ ?_)), rfl⟩
  rintro L w' ⟨hL, rfl⟩
  refine CG.to [(0, .slice a1 ys.length c1), (1, .int .i64 most), (2, .slice ao os.length co), (7, .pointer (some ⟨b7, 0, none⟩)), (9, .pointer (some ⟨p, 0, none⟩)), (10, .pointer (some ⟨b10, 0, none⟩)), (11, vn), (12, vw), (13, .int .i64 (i : Int)), (43, .bool (decide (i < os.length ∧ i < 6 ∧ 0 < ys.length)))] hL ?_
  clear hL L
  have s5 := hk5.size
  by_cases hc : i < os.length ∧ i < 6 ∧ 0 < ys.length
  · obtain ⟨h1, h2, h3⟩ := hc
    rw [decide_eq_true ⟨h1, h2, h3⟩]
    obtain ⟨bo, oo, rfl, ro'⟩ := (hO.kp0 (k4.trans hk5)).at h1
    have hu : os[i].toNat < 256 := os[i].toNat_lt
    obtain ⟨j, hj⟩ : ∃ j, j = os[i].toNat % ys.length := ⟨_, rfl⟩
    have hjl : j < ys.length := by rw [hj]; exact Nat.mod_lt _ h3
    have em : (os[i].toNat : Int) % (ys.length : Int) = (j : Int) := by rw [hj]; rfl
    have hXI5 := hXI.kp0 hk5
    obtain ⟨by', oy, rfl, ry⟩ := hXI5.sl.at hjl
    have hxi := hXI5.ins _ (List.getElem_mem hjl)
    have hsu : (os.take (i + 1)).map (nmU ys) = (os.take i).map (nmU ys) ++ [nameT ys[j].t] := by
      rw [List.take_succ_eq_append_getElem h1, List.map_append, List.map_singleton, nmU_at hj.symm hjl]
    have hnl : ((os.take i).map (nmU ys)).length = i := by rw [List.length_map, List.length_take]; omega
    generalize hns : (os.take i).map (nmU ys) = ns at hn5 hw5 hsu hnl
    have g3 : (0 : Int) ≤ (os[i].toNat : Int) ∧ (0 : Int) < (ys.length : Int) := by omega
    have g4 : (j : Int) < (ys.length : Int) := by omega
    skip
    refine cZ rfl (by exact rho_of rfl) rfl ?_
    repeat (first|apply cA|apply cB|apply cE|apply cF|apply cG|refine cV rfl rfl rfl rfl (by first|((first|apply qb3|apply qri|apply qmv|apply qlc|apply qix|apply qln)<;>(first|exact rfl|exact Ar.mk (by omega)|assumption|exact List.not_mem_nil|fail))|fail) ?_)
    rw [em]
    repeat (first|refine cV rfl rfl rfl rfl (by first|((first|apply qla|apply qix)<;>(first|exact rfl|exact Ar.mk (by omega)|assumption|exact List.not_mem_nil|apply txc_length|fail))|fail) ?_)
    refine SG.ret rfl rfl rfl (vs := [txv ys[j]]) (by repeat' (first | exact True.intro | exact rho_of rfl | refine And.intro ?_ ?_)) (tof_spec ys[j]) (fun w6 hk6 => ?_)
    refine SG.ret rfl rfl rfl (vs := [txv ys[j]]) (by repeat' (first | exact True.intro | exact rho_of rfl | refine And.intro ?_ ?_)) (rname_spec (hxi.kp0 hk6)) (fun w7 hk7 => ?_)
    refine SG.alloc rfl rfl rfl (fun b14 w8 hk8 hb14 hB14 => ?_)
    have hB14 : Blk w8 b14 (.cells (dc zd).toArray 24) := hB14
    refine SG.setAll (old := dc zd) (l := dc (nameT ys[j].t)) rfl rfl (by exact rho_of rfl) (by exact rho_of rfl) hB14 (dc_length _) (dc_length _) (dc_one _) (fun w9 hk9 hB14 => ?_)
    have r14 : Row w9 b14 0 (dc (nameT ys[j].t)) := Row.all hB14 rfl
    have k59 : Kp [] w' w9 := ((hk6.trans hk7).trans hk8).trans_new hk9 (new1 (by have := hk6.size; have := hk7.size; omega))
    have hn9 := own_kp0 hn5 k59
    have hw9 := own_kp0 hw5 k59
    have k49 := hk5.trans k59
    have s9 := k49.size
    have nb14 : b14 ∉ ownB vn := fun hm => own_neb hn9 (by decide) hB14 b14 (ownB_mem hm) List.mem_cons_self
    generalize nameT ys[j].t = d at hsu r14
    clear hB14 hk6 hk7 hk8 hk9 ry ro'
    repeat (first|apply cD|apply cE)
    refine CG.rows1 (base := w4.heap.size) (enc := dc (n := 8)) (E := 38) (sz := 8) (v := vn) (l := ns) mixed 7 [0, 1, 4, 5, 2, 3, 6] [⟨1000, 0, oP w4.heap.size 38 8 (dc (n := 8)) ns⟩, ⟨2, 1, oP w4.heap.size 38 8 (dc (n := 8)) [d]⟩, ⟨3, 0, oP w4.heap.size 38 8 (dc (n := 8)) (ns ++ [d])⟩, ⟨6, 2, oP w4.heap.size 24 8 (dc (n := 8)) [d]⟩] rfl hn9 (by kernel_rfl) (by kernel_rfl) (by repeat' (first | exact OkL.nil | refine OkL.cons ?_ ?_ | exact oP_ok | exact bP_ok)) ?_
    repeat (refine DerR.val rfl rfl rfl rfl (by first|((first|apply qmv|apply qla)<;>(first|exact rfl|assumption|apply dc_length))|fail) ?_)
    refine DerR.buildO [d] (vs := [(0, dv d)]) dc_length rfl rfl rfl rfl rfl (by repeat' (first | exact OkL.nil | refine OkL.cons ?_ ?_ | exact oP_ok | exact bP_ok)) rfl s9 (by simp [maxLen]) (fun W => by rw [flt_one]; exact bsdg d W) (fun v2 => ?_)
    refine DerR.append (src := 1000) ns [d] [(1000, ns)] dc_length dc_one rfl rfl (by kernel_rfl) ⟨Nat.le_refl _, trivial⟩ rfl rfl rfl (by repeat' (first | exact OkL.nil | refine OkL.cons ?_ ?_ | exact oP_ok | exact bP_ok)) (by exact rho_of rfl) (by exact rho_of rfl) rfl rfl rfl (by simp only [maxLen, List.length_cons, List.length_nil]; omega) (by simp only [List.length_cons, List.length_nil]; show (_ + _) * 8 ≤ _; omega) s9 (.tail _ (.head _)) (by kernel_rfl) (fun W hk hF => oP.sl dc_length (hF.get (.head _) (by kernel_rfl) rfl)) (fun v3 => ?_)
    refine DerR.buildO [d] (vs := [(0, dv d)]) dc_length rfl rfl rfl rfl rfl (by repeat' (first | exact OkL.nil | refine OkL.cons ?_ ?_ | exact oP_ok | exact bP_ok)) rfl s9 (by simp [maxLen]) (fun W => by rw [flt_one]; exact bsdr d W) (fun v6 => ?_)
    refine DerR.tl (fun w10 V hok hV => ?_)
    have ho3 : w10.ownsRow w4.heap.size 38 8 v3 (ns ++ [d]).length (flt dc (ns ++ [d])) := hok.get hV (.tail _ (.head _)) rfl
    have ho6 : w10.ownsRow w4.heap.size 24 8 v6 ([d] : List Dg).length (flt dc [d]) := hok.get hV (.head _) rfl
    have hk10 := hok.kp
    have hw10 := own_kpB hw9 hk10 (own_apT hw9 hn9 (by decide))
    obtain ⟨a6, c6, rfl, -, hS6⟩ := Sl.own dc_length ho6 rfl
    have k410 : Kp [] w4 w10 := k49.trans_new hk10 (own_new hn9 (Nat.le_refl _))
    clear hok hV
    refine SG.appO (enc := dc (n := 8)) (xs := ns) (ys := [d]) (base := w4.heap.size) rfl rfl rfl (by exact rho_of rfl) (by exact rho_of rfl) rfl rfl rfl rfl dc_length dc_one hw10 hS6 (by simp only [maxLen, List.length_cons, List.length_nil]; omega) (by simp only [List.length_cons, List.length_nil]; show (_ + _) * 8 ≤ _; omega) k410.size (fun v11 w11 hk11 ho11 _ => ?_)
    have ho3 := own_kpB ho3 hk11 (own_apT ho3 hw10 (by decide))
    have k411 : Kp [] w4 w11 := k410.trans_new hk11 (own_new hw10 (Nat.le_refl _))
    repeat (first|apply cB|apply cD|apply cE|apply cU|refine cV rfl rfl rfl rfl (by first|((first|apply qmv|apply qas|apply qad)<;>(first|exact rfl|exact Ar.mk (by omega)|fail))|fail) ?_)
    refine NG.round (i + 1, v3, v11) (by (repeat' (first | exact True.intro | exact rfl | refine And.intro ?_ ?_))) ⟨by simp only; omega, by simp only; omega, k411, by simp only; rw [hsu]; exact ho3, by simp only; rw [hsu]; exact ho11⟩ (by simp only; omega)
  rw [decide_eq_false hc]
  have hnl : ((os.take i).map (nmU ys)).length ≤ 6 := by rw [List.length_map, List.length_take]; omega
  generalize (os.take i).map (nmU ys) = ns at hn5 hw5 hnl
  obtain ⟨an, cn, rfl, -, hSn⟩ := Sl.own dc_length hn5 rfl
  obtain ⟨aw, cw, rfl, -, hSw⟩ := Sl.own dc_length hw5 rfl
  have hP := hP.kp0 hk5
  have hD := hD.kp0 hk5
  have r10 := r10.kp0 hk5
  have r7 := r7.kp0 hk5
  have k5 := k4.trans hk5
  clear hc hn5 hw5
  skip
  refine dA rfl (by exact rho_of rfl) rfl ?_
  repeat (first|apply cA|apply cE|apply cJ|apply cM|refine cQ rfl ?_)
  refine CG.tailg mixed 7 [0, 1, 2, 4, 5, 6, 3] [3] [] (fun _ => True) (by kernel_rfl) trivial (fun _ _ _ h => h) ?_
  repeat (refine cY rfl rfl rfl (by first|((first|apply qmv|apply qla)<;>(first|exact rfl|assumption|exact List.not_mem_nil))|fail) ?_)
  refine Der.callGR (X := Value × { us : List Tm // us.map (·.t) = (((ordE l).filter (fun e => !exB (outL l ns) e)).take most.toNat).map (·.t) }) (vs := [.pointer (some ⟨p, 0, none⟩), .int .i64 most, .slice an ns.length cn]) (fun q => q.1) (fun q W => TxsO W w'.heap.size q.1 q.2.1) (fun q W => True) rfl rfl rfl rfl (by repeat' (first | exact True.intro | exact rho_of rfl | refine And.intro ?_ ?_)) (fun q W W' hk h => h.kp0 hk) (fun q W W' hk h => h) (fun _ _ _ h => h) (fun W hk _ hR => ?_) (fun q => ?_)
  · refine (ptake_spec (c0 := cn) (hP.kp0 hk) (by rw [hl]; exact hI) (by omega) hmost (ns := ns) (hSn.kp0 hk) (by omega)).mono (fun e W' hh => ?_)
    obtain ⟨v', us, he, hk', hU, hus⟩ := hh
    rw [hl] at hus
    exact ⟨(v', ⟨us, hus⟩), he, ⟨own_mono hU.own hk.size, hU.ins⟩, trivial, hk'⟩
  obtain ⟨vu, us, hus⟩ := q
  refine Der.tl (fun w6 hk6 hU _ => ?_)
  have hU : TxsO w6 w'.heap.size vu us := hU.2
  obtain ⟨au, cu, rfl, hcu, hSu⟩ := hU.sl
  have hD6 := hD.kp0 hk6
  refine SG.call rfl rfl rfl (vs := [.agg (pdc 30 a' ws.length c').toArray, .int .i64 most, .slice aw ns.length cw]) (by repeat' (first | exact True.intro | exact rho_of rfl | refine And.intro ?_ ?_)) ((rtake_spec (cn := cw) hD6 (by omega) hdw (hSw.kp0 hk6) (by omega)).mono (fun e w7 hh => ?_))
  obtain ⟨v7, he, ho7, hk7⟩ := hh
  refine ⟨_, he, ?_⟩
  clear he
  have heq : us.map (·.t) = (((ordW ws).filter (keepB (ordW ws) ns)).take most.toNat).map (fun e => e.x.t) := by rw [take_doc, hws, hus]
  have hul : us.length ≤ 1000 := by
    have h1 := congrArg List.length hus
    have h2 := List.length_filter_le (fun e => !exB (outL l ns) e) (ordE l)
    rw [List.length_map, List.length_map, List.length_take] at h1
    rw [ordE_length] at h2
    omega
  obtain ⟨ab, cb, rfl, -, hSb⟩ := Sl.own wc_length ho7 rfl
  have k7 := (k5.trans hk6).trans hk7
  refine SG.ret rfl rfl rfl (vs := [.slice au us.length cu, .slice ab (((ordW ws).filter (keepB (ordW ws) ns)).take most.toNat).length cb]) (by repeat' (first | exact True.intro | exact rho_of rfl | refine And.intro ?_ ?_)) (wsame_spec cu cb (hSu.kp0 hk7) hSb (fun x hx => (hU.ins x hx).kp0 hk7) (fun e he => (hD6.kp0 hk7).ins e ((ordW_perm ws).mem_iff.1 (List.mem_filter.1 (List.mem_of_mem_take he)).1)) (by omega) heq) (fun w8 hk8 => ?_)
  have k58 := (hk6.trans hk7).trans hk8
  have k8 := k5.trans k58
  have hP := hP.kp0 k58
  have r7 := r7.kp0 k58
  clear r10 hD hD6 hSb ho7 heq hSu hul hSn hSw hk6 hk7 hk8
  repeat (first|apply cD|apply cE|refine cV rfl rfl rfl rfl (by first|(apply qnt<;>(exact rfl))|fail) ?_)
  refine dA rfl (by exact rho_of rfl) rfl ?_
  repeat (first|apply cA|apply cB|apply cE|apply cF|refine cV rfl rfl rfl rfl (by first|(apply qmv<;>(exact rfl))|fail) ?_)
  refine SG.call rfl rfl rfl (vs := [.pointer (some ⟨p, 0, none⟩)]) (by repeat' (first | exact True.intro | exact rho_of rfl | refine And.intro ?_ ?_)) ((all_spec hP (by rw [hl]; exact hI) (by omega)).mono (fun e w9 hh => ?_))
  obtain ⟨v9, zs, he, hk9, hZ, hzs⟩ := hh
  refine ⟨_, he, ?_⟩
  clear he
  rw [hl] at hzs
  obtain ⟨az, cz, rfl, hcz, hSz⟩ := hZ.sl
  have hzl : zs.length = l.length := by
    have := congrArg List.length hzs
    rw [List.length_map, List.length_map, ordE_length] at this
    exact this
  have hP := hP.kp0 hk9
  have r7 := r7.kp0 hk9
  have k9 := k8.trans hk9
  repeat (first|apply cA|apply cB|apply cD|apply cE|refine cV rfl rfl rfl rfl (by first|((first|apply qmn|apply qmx|apply qmv|apply qas|apply qln|apply qmx)<;>(exact rfl))|fail) ?_)
  rw [mm_eq]
  refine SG.call rfl rfl rfl (vs := [.pointer (some ⟨p, 0, none⟩), .int .i64 most, .slice none ([] : List Dg).length 0]) (by repeat' (first | exact True.intro | exact rho_of rfl | refine And.intro ?_ ?_)) ((ptake_spec (c0 := 0) hP (by rw [hl]; exact hI) (by omega) hmost (ns := []) Sl.nil (by simp)).mono (fun e w10 hh => ?_))
  obtain ⟨v10, us, he, hk10, hU, hus⟩ := hh
  refine ⟨_, he, ?_⟩
  clear he
  rw [hl, out_nil] at hus
  obtain ⟨au, cu, rfl, hcu, hSu⟩ := hU.sl
  have hul : us.length = min most.toNat zs.length := by
    have := congrArg List.length hus
    rw [List.length_map, List.length_map, List.length_take, ordE_length] at this
    omega
  rw [← hul]
  have hP := hP.kp0 hk10
  have r7 := r7.kp0 hk10
  have k10 := k9.trans hk10
  have g0 : (us.length : Int) = (us.length : Int) := rfl
  repeat (first|apply cA|apply cB|apply cD|apply cE|refine cV rfl rfl rfl rfl (by first|((first|apply qmv|apply qas|apply qni|apply qln)<;>(first|exact rfl|exact dct (by first|assumption|omega)|fail))|fail) ?_)
  refine dA rfl (by exact rho_of rfl) rfl ?_
  repeat (first|apply cA|apply cB|apply cD|apply cE|apply cF|apply cG|refine cV rfl rfl rfl rfl (by first|(apply qas<;>(exact rfl))|fail) ?_)
  refine CG.loop (X := Nat) (fun i => [(7, .pointer (some ⟨b7, 0, none⟩)), (9, .pointer (some ⟨p, 0, none⟩)), (15, .slice az zs.length cz), (16, .int .i64 (us.length : Int)), (17, .slice au us.length cu), (18, .int .i64 (i : Int))]) (fun i w' => i ≤ us.length ∧ Kp [] w10 w') (fun i => us.length - i) 0 ⟨Nat.zero_le _, Kp.refl _ _⟩ (by (repeat' (first | exact True.intro | exact rfl | refine And.intro ?_ ?_))) ?_
  clear hi hi6 i
  rintro i w11 ⟨hi, hk11⟩
  refine CG.to [(7, .pointer (some ⟨b7, 0, none⟩)), (9, .pointer (some ⟨p, 0, none⟩)), (15, .slice az zs.length cz), (16, .int .i64 (us.length : Int)), (17, .slice au us.length cu), (18, .int .i64 (i : Int))] (by (repeat' (first | exact True.intro | exact rfl | refine And.intro ?_ ?_))) ?_
  by_cases hlt : i < us.length
  · have g1 : (i : Int) < (us.length : Int) := by omega
    obtain ⟨hlz, hsame⟩ := t_at hus hzs hlt
    obtain ⟨bu, ou, rfl, ru⟩ := (hSu.kp0 hk11).at hlt
    obtain ⟨bz, oz, rfl, rz⟩ := ((hSz.kp0 hk10).kp0 hk11).at hlz
    repeat (first|apply cA|apply cB|apply cD|apply cE|refine cV rfl rfl rfl rfl (by first|((first|apply qmv|apply qls)<;>(first|exact rfl|exact dct (by first|assumption|omega)|fail))|fail) ?_)
    refine cZ rfl (by exact rho_of rfl) rfl ?_
    repeat (first|apply cA|apply cE|apply cF|apply cG)
    refine CG.tail mixed 8 [0, 1, 2, 3, 4, 5, 6, 7] (by kernel_rfl) ?_
    repeat (refine cY rfl rfl rfl (by first|((first|apply qmv|apply qla|apply qix)<;>(first|exact rfl|exact Ar.mk (by omega)|assumption|exact List.not_mem_nil|apply txc_length|fail))|fail) ?_)
    refine Der.tl (fun w12 hk12 _ _ => ?_)
    have ts := tsame_spec (((hU.ins _ (List.getElem_mem hlt)).kp0 hk11).kp0 hk12) ((((hZ.ins _ (List.getElem_mem hlz)).kp0 hk10).kp0 hk11).kp0 hk12)
    rw [txEq_t hsame] at ts
    refine SG.ret rfl rfl rfl (vs := [txv us[i], txv zs[i]]) (by repeat' (first | exact True.intro | exact rho_of rfl | refine And.intro ?_ ?_)) ts (fun w13 hk13 => ?_)
    repeat (first|apply cD|apply cE|refine cV rfl rfl rfl rfl (by first|(apply qnt<;>(exact rfl))|fail) ?_)
    refine dA rfl (by exact rho_of rfl) rfl ?_
    repeat (first|apply cB|apply cD|apply cE|apply cF|apply cU|refine cV rfl rfl rfl rfl (by first|((first|apply qmv|apply qas|apply qad)<;>(first|exact rfl|exact Ar.mk (by omega)|fail))|fail) ?_)
    refine NG.round (i + 1) (by (repeat' (first | exact True.intro | exact rfl | refine And.intro ?_ ?_))) ⟨by omega, (hk11.trans hk12).trans hk13⟩ (by omega)
  have g1 : ¬ (i : Int) < (us.length : Int) := by omega
  have hP := hP.kp0 hk11
  have r7 := r7.kp0 hk11
  have k11 := k10.trans hk11
  have hZ := (hZ.kp0 hk10).kp0 hk11
  repeat (first|apply cA|apply cB|apply cD|apply cE|refine cV rfl rfl rfl rfl (by first|((first|apply qmv|apply qls)<;>(first|exact rfl|exact dcf (by first|assumption|omega)|fail))|fail) ?_)
  refine dA rfl (by exact rho_of rfl) rfl ?_
  clear hSu hU hus hul g0 g1 hi hlt
  repeat (first|apply cA|apply cB|apply cE|apply cJ|apply cM|refine cQ rfl ?_|refine cV rfl rfl rfl rfl (by first|((first|apply qmv|apply qla)<;>(first|exact rfl|assumption|exact List.not_mem_nil|apply dc_length))|fail) ?_)
  refine SG.call rfl rfl rfl (vs := [.pointer (some ⟨p, 0, none⟩), dv k]) (by repeat' (first | exact True.intro | exact rho_of rfl | refine And.intro ?_ ?_)) ((pof_spec hP (by rw [hl]; exact hI) (by omega) k).mono (fun e w12 hh => ?_))
  obtain ⟨v12, fs, he, hk12, hF, hfs⟩ := hh
  refine ⟨_, he, ?_⟩
  clear he
  rw [hl] at hfs
  obtain ⟨af, cf, rfl, hcf, hSf⟩ := hF.sl
  have r7 := r7.kp0 hk12
  have k12 := k11.trans hk12
  have hZ := hZ.kp0 hk12
  obtain ⟨az', cz', e', -, hSz⟩ := hZ.sl
  cases e'
  have hap := of_us hzs hfs
  have hfl := congrArg List.length hap
  rw [List.length_map, List.length_map] at hfl
  repeat (first|apply cA|apply cB|apply cD|apply cE|apply cG|refine cV rfl rfl rfl rfl (by first|(apply qas<;>(exact rfl))|fail) ?_)
  refine CG.loop (X := Nat) (fun i => [(7, .pointer (some ⟨b7, 0, none⟩)), (15, .slice az zs.length cz), (19, .slice af fs.length cf), (20, .int .i64 (((zs.take i).filter (fun y => decide (y.t.frm = k))).length : Int)), (21, .int .i64 (i : Int))])
    (fun i w' => i ≤ zs.length ∧ Kp [] w12 w') (fun i => zs.length - i) 0 ⟨Nat.zero_le _, Kp.refl _ _⟩ (by (repeat' (first | exact True.intro | exact rfl | refine And.intro ?_ ?_))) ?_
  clear i
  rintro i w13 ⟨hi, hk13⟩
  refine CG.to [(7, .pointer (some ⟨b7, 0, none⟩)), (15, .slice az zs.length cz), (19, .slice af fs.length cf), (20, .int .i64 (((zs.take i).filter (fun y => decide (y.t.frm = k))).length : Int)), (21, .int .i64 (i : Int))] (by (repeat' (first | exact True.intro | exact rfl | refine And.intro ?_ ?_))) ?_
  by_cases hlt : i < zs.length
  rotate_left
  · have g1 : ¬ (i : Int) < (zs.length : Int) := by omega
    rw [List.take_of_length_le (by omega), ← hfl]
    have g2 : (fs.length : Int) = (fs.length : Int) := rfl
    repeat (first|apply cA|apply cB|apply cD|apply cE|refine cV rfl rfl rfl rfl (by first|((first|apply qmv|apply qls|apply qln)<;>(first|exact rfl|exact dcf (by first|assumption|omega)|fail))|fail) ?_)
    refine dA rfl (by exact rho_of rfl) rfl ?_
    repeat (first|apply cA|apply cB|apply cE|apply cJ|apply cM|refine cQ rfl ?_)
    refine SG.ret rfl rfl rfl (vs := []) (by repeat' (first | exact True.intro | exact rho_of rfl | refine And.intro ?_ ?_)) (known_spec w13) (fun w14 hk14 => ?_)
    repeat (first|apply cD|apply cE|apply cH|refine cV rfl rfl rfl rfl (by first|((first|apply qmv|apply qas|apply qpk|apply qei|apply qln)<;>(first|exact rfl|exact dct (by first|assumption|omega)|fail))|fail) ?_)
    refine ret1 (Or.inl rfl) Tryz.results3 (by first | exact ResV.tmp rfl | exact ResV.agg rfl rfl (by assumption) (by first | exact dc_length _ | exact nc_length _ | exact rc_length _ _ _ | exact ec_length _ | exact dl_length _ _ _ _ | rfl) | exact ResV.cell rfl rfl (by assumption)) ?_
    exact ⟨rfl, (k12.trans hk13).trans hk14⟩
  have g1 : (i : Int) < (zs.length : Int) := by omega
  have hcnt := of_cnt (k := k) hlt
  have r713 := r7.kp0 hk13
  obtain ⟨bz, oz, rfl, rz⟩ := (hSz.kp0 hk13).at hlt
  obtain ⟨z0, -⟩ := txc_rowsO rz
  repeat (first|apply cA|apply cB|apply cD|apply cE|refine cV rfl rfl rfl rfl (by first|((first|apply qmv|apply qls|apply qln)<;>(first|exact rfl|exact dct (by first|assumption|omega)|fail))|fail) ?_)
  refine cZ rfl (by exact rho_of rfl) rfl ?_
  clear rz
  by_cases hk : zs[i].t.frm = k
  rotate_left
  · rw [if_neg hk] at hcnt
    simp only [Nat.add_zero] at hcnt
    rw [← hcnt]
    repeat (first|apply cA|apply cE|apply cF|apply cG)
    refine CG.tail mixed 6 [0, 1, 2, 3, 4, 5] (by kernel_rfl) ?_
    repeat (refine cY rfl rfl rfl (by first|((first|apply qmv|apply qla|apply qfa|apply qix)<;>(first|exact rfl|exact Ar.mk (by omega)|assumption|exact List.not_mem_nil|apply dc_length|fail))|fail) ?_)
    refine Der.tl (fun w14 hk14 _ _ => ?_)
    repeat (first|apply cD|apply cE|refine cV rfl rfl rfl rfl (by first|(apply qed<;>(first|exact rfl|exact dcf (by first|assumption|omega)|fail))|fail) ?_)
    refine dA rfl (by exact rho_of rfl) rfl ?_
    repeat (first|apply cB|apply cD|apply cE|apply cF|apply cU|refine cV rfl rfl rfl rfl (by first|((first|apply qmv|apply qas|apply qad)<;>(first|exact rfl|exact Ar.mk (by omega)|fail))|fail) ?_)
    refine NG.round (i + 1) (by (repeat' (first | exact True.intro | exact rfl | refine And.intro ?_ ?_))) ⟨by omega, hk13.trans hk14⟩ (by omega)
  · rw [if_pos hk] at hcnt
    obtain ⟨hn, hsame⟩ := of_at hap hlt hk
    have nnl : ((zs.take i).filter (fun y => decide (y.t.frm = k))).length ≤ 1000 := by
      have := List.length_filter_le (fun y : Tm => decide (y.t.frm = k)) zs
      omega
    generalize ((zs.take i).filter (fun y => decide (y.t.frm = k))).length = n at hn hsame hcnt nnl
    have ecn : (n : Int) + 1 = (((zs.take (i + 1)).filter (fun y => decide (y.t.frm = k))).length : Int) := by omega
    have g2 : ¬ (fs.length : Int) ≤ (n : Int) := by omega
    obtain ⟨bu, ou, rfl, ru⟩ := (hSf.kp0 hk13).at hn
    repeat (first|apply cA|apply cE|apply cF|apply cG)
    refine CG.tail mixed 6 [0, 1, 2, 3, 4, 5] (by kernel_rfl) ?_
    repeat (refine cY rfl rfl rfl (by first|((first|apply qmv|apply qla|apply qfa|apply qix)<;>(first|exact rfl|exact Ar.mk (by omega)|assumption|exact List.not_mem_nil|apply dc_length|fail))|fail) ?_)
    refine Der.tl (fun w14 hk14 _ _ => ?_)
    have rz : Row w14 bz (oz + i * 13) (txc zs[i]) := ((hSz.kp0 hk13).kp0 hk14).row (List.getElem?_eq_getElem hlt)
    have ru := ru.kp0 hk14
    have k1214 := hk13.trans hk14
    repeat (first|apply cD|apply cE|refine cV rfl rfl rfl rfl (by first|(apply qed<;>(first|exact rfl|exact dct (by first|assumption|omega)|fail))|fail) ?_)
    refine cZ rfl (by exact rho_of rfl) rfl ?_
    clear z0
    repeat (first|apply cA)
    refine CG.tail mixed 13 [0, 1, 2, 3, 4, 5, 6, 7, 8, 9, 10, 11, 12] (by kernel_rfl) ?_
    repeat (refine cY rfl rfl rfl (by first|((first|apply qmv|apply qla|apply qix|apply qln|apply qge)<;>(first|exact rfl|exact Ar.mk (by omega)|assumption|exact dcf (by first|assumption|omega)|exact List.not_mem_nil|apply txc_length|fail))|fail) ?_)
    refine Der.tl (fun w15 hk15 _ _ => ?_)
    have ts := tsame_spec ((hF.ins _ (List.getElem_mem hn)).kp0 (k1214.trans hk15)) ((hZ.ins _ (List.getElem_mem hlt)).kp0 (k1214.trans hk15))
    rw [txEq_t hsame] at ts
    refine SG.ret rfl rfl rfl (vs := [txv fs[n], txv zs[i]]) (by repeat' (first | exact True.intro | exact rho_of rfl | refine And.intro ?_ ?_)) ts (fun w16 hk16 => ?_)
    repeat (first|apply cD|apply cE|refine cV rfl rfl rfl rfl (by first|((first|apply qpk|apply qnt)<;>(exact rfl))|fail) ?_)
    refine dA rfl (by exact rho_of rfl) rfl ?_
    repeat (first|apply cB|apply cD|apply cE|apply cF|apply cU|refine cV rfl rfl rfl rfl (by first|((first|apply qmv|apply qas|apply qad)<;>(first|exact rfl|exact Ar.mk (by omega)|fail))|fail) ?_)
    rw [ecn]
    refine NG.round (i + 1) (by (repeat' (first | exact True.intro | exact rfl | refine And.intro ?_ ?_))) ⟨by omega, (k1214.trans hk15).trans hk16⟩ (by omega)
end Go.Proofs.YtgbgnlboogalgaaGreat

namespace Go.Proofs.YtgbgnlboogalgaaGreat
open Go.ChangeShapes Go.WideShapes Go.ChangeAt Go.RowKit
set_option linter.unusedVariables false
set_option maxRecDepth 100000 in
theorem poolTakes_lifted (os : Os) (started : os.Started) (H : Type) (enc : TypeId × Value → H) :
    ReturnsInHanded {} Tryz.checked os 3 .any (Rows.poolTakesSpec.pre6 enc Tryz.prog Tryz.f3 Rows.poolTakesRow.domain false) (Rows.poolTakesSpec.post enc Tryz.prog Tryz.f3 false true false false) := by
  refine returnsInHanded_of_change (C := Tryz.checked) own started (by kernel_rfl) Tryz.func3
    (ChangeSpec.witness6 (enc := enc) (C := Tryz.checked) false ⟨#[], #[.slice none 0 0, .int .i64 0, .slice none 0 0, .agg #[.int .u8 0, .int .u8 0, .int .u8 0, .int .u8 0, .int .u8 0, .int .u8 0, .int .u8 0, .int .u8 0]], []⟩ 8 (by kernel_rfl) (by kernel_rfl) (by kernel_rfl) (by kernel_rfl)) ?_
  intro W base args ds gs before hval0 hW hcnd _
  have hval : ∀ (j : Nat) t v, Tryz.f3.params[j]? = some t → args[j]? = some v → Value.okWide Tryz.prog W .any base t v := hval0
  have hW' : DataW.Whole enc Tryz.prog Tryz.f3.params.toList Rows.poolTakesSpec.vars false W args.toList ds gs before := hW
  obtain ⟨p, q, hA0, hV, rfl, hfz, hnd⟩ := hW
  have hA : DataW.TrodAll enc Tryz.prog W 0 (fun _ => true) true Tryz.f3.params.toList args.toList ds p := hA0
  rw [Tryz.params3] at hA hval
  obtain ⟨v0, v1, v2, v3, d0, d1, d2, d3, p0, p1, p2, p3, rfl, rfl, rfl, h0, h1, h2, h3⟩ := trodAll_four hA
  obtain ⟨a0, n0, c0, rfl, hn0, hc0, hs0⟩ := open_sl Tryz.underlying22 (by rw [cellsT]; omega) (hval 0 22 v0 rfl rfl) h0
  obtain ⟨l0, rfl, hX0⟩ := txs_of hs0
  obtain ⟨x1, rfl, hd1, _, wf1⟩ := open_int Tryz.underlying3 (hval 1 3 v1 rfl rfl) h1
  obtain ⟨a2, n2, c2, rfl, hn2, hc2, hs2⟩ := open_sl Tryz.underlying23 (by rw [cells5]; omega) (hval 2 23 v2 rfl rfl) h2
  obtain ⟨l2, rfl, hS2⟩ := bytes_of hs2
  obtain ⟨x3, rfl⟩ := dg_of (hval 3 24 v3 rfl rfl) h3
  refine (takes_walk W a0 c0 l0 hX0 x1 (fit_of wf1) a2 c2 l2 hS2 x3).mono fun e W' ⟨he, hk⟩ => ⟨_, he, ?_⟩
  exact law_post laidOut (by rw [Tryz.params3]; exact of_decide_eq_true (by kernel_rfl)) rfl hW' rfl (by kernel_rfl) Tryz.underlying4 hk
theorem poolTakes_holds : Rows.PoolTakesSaid :=
  OpenClaim.holds_of_wide 3 Tryz.f3 rfl rfl rfl rfl rfl rfl rfl ⟨rfl, rfl, rfl, rfl, rfl⟩ rfl rfl rfl rfl rfl (by kernel_rfl) Tryz.func3 (by kernel_rfl)
    (of_decide_eq_true (by kernel_rfl)) (by unfold Func.isWrapper; first | (rw [if_pos (by decide +kernel)]; kernel_rfl) | (rw [if_neg (by decide +kernel)]; exact ⟨rfl, rfl⟩))
    (fun os started H enc _ => poolTakes_lifted os started H enc)
end Go.Proofs.YtgbgnlboogalgaaGreat
