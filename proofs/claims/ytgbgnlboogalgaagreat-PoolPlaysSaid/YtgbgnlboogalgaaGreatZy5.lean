import Derived.Test.YtgbgnlboogalgaaGreatZy4
namespace Go.Proofs.YtgbgnlboogalgaaGreat
open Go.Proofs
set_option linter.unusedVariables false
attribute [local irreducible] CG NG SG Vals Der Row Blk MapIs IterAt DerX DerR wrongT nameT
theorem erase_en (ws : List Wm) (i : Nat) : (ws.eraseIdx i).map Wm.en = (ws.map Wm.en).eraseIdx i := by
  rw [List.eraseIdx_eq_take_drop_succ, List.eraseIdx_eq_take_drop_succ, List.map_append, List.map_take, List.map_drop]
theorem PD.kpb {w w' : World} {n : Nat} {a : Option Addr} {c b : Nat} {ws : List Wm} {cs : Array Value} {T : TypeId} (h : PD w n a c ws) (hk : Kp [b] w w') (hB : Blk w b (.cells cs T)) (h1 : T ≠ 5) (h2 : T ≠ 67) (hn : n ≤ b) : PD w' n a c ws :=
  h.kp hk (Oth.cons hn (Oth.cells hB h1) Oth.nil) (NoT.cons hn (NoT.cells hB h2) NoT.nil)
set_option maxHeartbeats 32000000 in
theorem radd_spec {w : World} {n : Nat} {a : Option Addr} {c : Nat} {ws : List Wm} {room h : Int} {x : Tm} (hP : PD w n a c ws) (hx : x.In n w) (hl : (ws.length : Int) ≤ room) (hr : room ≤ 1024) (hn0 : n ≤ w.heap.size) :
    Calls Tryz.prog 21 #[.agg (pdc room a ws.length c).toArray, .int .i64 h, txv x] w (fun e w' => ∃ a' c' ws', e = .returned (.tuple #[.agg (pdc room a' ws'.length c').toArray, .int .i64 (addZ room (ws.map Wm.en) h x.t)]) ∧ Kp [] w w' ∧ PD w' n a' c' ws' ∧ ws'.map Wm.en = addE room (ws.map Wm.en) h x.t) := by
  refine enter3 Tryz.func21 rfl Tryz.ntmps21 rfl ?_
  have hno : ∀ {w' : World} {z : Int}, Kp [] w w' → addZ room (ws.map Wm.en) h x.t = z → z ≠ 0 → ∃ a' c' ws', Ending.returned (.tuple #[.agg (pdc room a ws.length c).toArray, .int .i64 z]) = .returned (.tuple #[.agg (pdc room a' ws'.length c').toArray, .int .i64 (addZ room (ws.map Wm.en) h x.t)]) ∧ Kp [] w w' ∧ PD w' n a' c' ws' ∧ ws'.map Wm.en = addE room (ws.map Wm.en) h x.t := fun hk hz hz0 => by
    refine ⟨a, c, ws, by rw [hz], hk, hP.kp0 hk, ?_⟩
    unfold addE
    rw [if_neg (by rw [hz]; exact hz0)]
  repeat (first|apply cA|apply cB)
  refine SG.box rfl rfl rfl (by exact rho_of rfl) (fun b3 w1 hk1 hb3 hB3 => ?_)
  refine SG.box rfl rfl rfl (by exact rho_of rfl) (fun b5 w2 hk2 hb5 hB5 => ?_)
  refine SG.alloc rfl rfl rfl (fun b6 w3 hk3 hb6 hB6 => ?_)
  have hB3 : Blk w1 b3 (.cells (pdc room a ws.length c).toArray 29) := hB3
  have hB5 : Blk w2 b5 (.cells (txc x).toArray 36) := hB5
  have hB6 : Blk w3 b6 (.cells (pdc 0 none 0 0).toArray 29) := hB6
  have l3 := hB3.lt
  have l5 := hB5.lt
  have hB3 := (hB3.kp0 hk2).kp0 hk3
  have hB5 := hB5.kp0 hk3
  have k3 := (hk1.trans hk2).trans hk3
  have s1 := hk1.size
  have s2 := hk2.size
  obtain ⟨p0, p1, p2⟩ := pdc_rows hB3
  by_cases h1 : h < 0
  · have hz : addZ room (ws.map Wm.en) h x.t = 2 := addZ_low (Or.inl h1)
    repeat (first | first|apply cA|apply cB|apply cD|apply cE|refine cV rfl rfl rfl rfl (by first|((first|apply qmv|apply qas|apply qpk|apply qls)<;>(first|exact rfl|exact dct (by first|assumption|omega)|fail))|fail) ?_ | refine cX rfl rfl ?_)
    refine cZ rfl (by exact rho_of rfl) rfl ?_
    clear p1
    repeat (first|apply cA|apply cB|refine cV rfl rfl rfl rfl (by first|(apply qla<;>(first|exact rfl|assumption|exact List.not_mem_nil))|fail) ?_)
    refine SG.setAll (l := pdc room a ws.length c) rfl rfl (by exact rho_of rfl) (by exact rho_of rfl) hB6 rfl rfl rfl (fun w4 hk4 hB6 => ?_)
    have hr6 : Row w4 b6 0 (pdc room a ws.length c) := Row.all hB6 rfl
    repeat (first|apply cD|apply cE|apply cH|apply cK|refine cV rfl rfl rfl rfl (by first|(apply qas<;>(exact rfl))|fail) ?_)
    refine ret2 (Or.inl rfl) Tryz.results21 (ResV.agg rfl rfl hr6 (pdc_length _ _ _ _)) (by first | exact ResV.tmp rfl | exact ResV.agg rfl rfl (by assumption) (by first | exact dc_length _ | exact nc_length _ | exact rc_length _ _ _ | exact ec_length _ | exact dl_length _ _ _ _ | rfl) | exact ResV.cell rfl rfl (by assumption)) ?_
    exact hno (k3.trans_new hk4 (new1 (by omega))) hz (by decide)
  by_cases h2 : 1099511627776 < h
  · have hz : addZ room (ws.map Wm.en) h x.t = 2 := addZ_low (Or.inr h2)
    repeat (first|apply cA|apply cB|apply cD|apply cE|refine cV rfl rfl rfl rfl (by first|((first|apply qmv|apply qas|apply qpk|apply qls|apply qgt)<;>(first|exact rfl|exact dct (by first|assumption|omega)|exact dcf (by first|assumption|omega)|fail))|fail) ?_)
    refine cZ rfl (by exact rho_of rfl) rfl ?_
    clear p1
    repeat (first|apply cA|apply cB|refine cV rfl rfl rfl rfl (by first|(apply qla<;>(first|exact rfl|assumption|exact List.not_mem_nil))|fail) ?_)
    refine SG.setAll (l := pdc room a ws.length c) rfl rfl (by exact rho_of rfl) (by exact rho_of rfl) hB6 rfl rfl rfl (fun w4 hk4 hB6 => ?_)
    have hr6 : Row w4 b6 0 (pdc room a ws.length c) := Row.all hB6 rfl
    repeat (first|apply cD|apply cE|apply cH|apply cK|refine cV rfl rfl rfl rfl (by first|(apply qas<;>(exact rfl))|fail) ?_)
    refine ret2 (Or.inl rfl) Tryz.results21 (ResV.agg rfl rfl hr6 (pdc_length _ _ _ _)) (by first | exact ResV.tmp rfl | exact ResV.agg rfl rfl (by assumption) (by first | exact dc_length _ | exact nc_length _ | exact rc_length _ _ _ | exact ec_length _ | exact dl_length _ _ _ _ | rfl) | exact ResV.cell rfl rfl (by assumption)) ?_
    exact hno (k3.trans_new hk4 (new1 (by omega))) hz (by decide)
  have hh : ¬ (h < 0 ∨ 1099511627776 < h) := by omega
  repeat (first|apply cA|apply cB|apply cD|apply cE|refine cV rfl rfl rfl rfl (by first|((first|apply qmv|apply qas|apply qpk|apply qls|apply qgt)<;>(first|exact rfl|exact dcf (by first|assumption|omega)|fail))|fail) ?_)
  refine dA rfl (by exact rho_of rfl) rfl ?_
  clear h1 h2
  obtain ⟨r0, -⟩ := txc_rows hB5
  have hx3 := hx.kp0 k3
  repeat (first|apply cA|apply cB|apply cE|apply cF|refine cV rfl rfl rfl rfl (by first|(apply qla<;>(first|exact rfl|assumption|exact List.not_mem_nil|apply txc_length))|fail) ?_)
  refine SG.ret rfl rfl rfl (vs := [txv x]) (by repeat' (first | exact True.intro | exact rho_of rfl | refine And.intro ?_ ?_)) (rcheck_spec hx3) (fun w4 hk4 => ?_)
  have k4 := k3.trans hk4
  have r0 := r0.kp0 hk4
  have p0 := p0.kp0 hk4
  by_cases h3 : wrongT x.t = 0
  rotate_left
  · have hz := addZ_bad (room := room) (l := ws.map Wm.en) hh h3
    have hck := fun W hk => rcheck_spec (hx3.kp0 (w' := W) hk)
    generalize wrongT x.t = z at h3 hz hck
    repeat (first|apply cD|apply cE|refine cV rfl rfl rfl rfl (by first|(apply qni<;>(first|exact rfl|exact dcf (by first|assumption|omega)|fail))|fail) ?_)
    refine cZ rfl (by exact rho_of rfl) rfl ?_
    repeat (first|apply cA)
    refine CG.tail mixed 3 [0, 1, 2] (by kernel_rfl) ?_
    repeat (refine cY rfl rfl rfl (by first|(apply qla<;>(first|exact rfl|assumption|exact List.not_mem_nil|apply txc_length))|fail) ?_)
    refine Der.call rfl rfl rfl (vs := [txv x]) (by repeat' (first | exact True.intro | exact rho_of rfl | refine And.intro ?_ ?_)) (fun W hk _ => hck W (hk4.trans hk)) ?_
    refine Der.tl (fun w5 hk5 _ _ => ?_)
    refine SG.setAll (l := pdc room a ws.length c) rfl rfl (by exact rho_of rfl) (by exact rho_of rfl) ((hB6.kp0 hk4).kp0 hk5) rfl rfl rfl (fun w6 hk6 hB6 => ?_)
    have hr6 : Row w6 b6 0 (pdc room a ws.length c) := Row.all hB6 rfl
    repeat (first|apply cD|apply cE|apply cH|apply cK|refine cV rfl rfl rfl rfl (by first|(apply qas<;>(exact rfl))|fail) ?_)
    refine ret2 (Or.inl rfl) Tryz.results21 (ResV.agg rfl rfl hr6 (pdc_length _ _ _ _)) (by first | exact ResV.tmp rfl | exact ResV.agg rfl rfl (by assumption) (by first | exact dc_length _ | exact nc_length _ | exact rc_length _ _ _ | exact ec_length _ | exact dl_length _ _ _ _ | rfl) | exact ResV.cell rfl rfl (by assumption)) ?_
    exact hno ((k4.trans hk5).trans_new hk6 (new1 (by omega))) hz h3
  rw [h3]
  have h00 : (0 : Int) = 0 := rfl
  repeat (first|apply cD|apply cE|refine cV rfl rfl rfl rfl (by first|(apply qni<;>(first|exact rfl|exact dct (by first|assumption|omega)|fail))|fail) ?_)
  refine dA rfl (by exact rho_of rfl) rfl ?_
  have hP4 := hP.kp0 k4
  have hlen : ws.length ≤ 1024 := by omega
  repeat (first|apply cA|apply cB|apply cE|apply cF|refine cV rfl rfl rfl rfl (by first|(apply qla<;>(first|exact rfl|assumption|exact List.not_mem_nil|apply txc_length))|fail) ?_)
  refine SG.ret rfl rfl rfl (vs := [.agg (pdc room a ws.length c).toArray, txv x]) (by repeat' (first | exact True.intro | exact rho_of rfl | refine And.intro ?_ ?_)) (like_spec hP4 (by omega)) (fun w5 hk5 => ?_)
  have k5 := k4.trans hk5
  have k35 := hk4.trans hk5
  have hB3 := hB3.kp0 k35
  have hB5 := hB5.kp0 k35
  have hB6 := hB6.kp0 k35
  have hx5 := hx3.kp0 k35
  have hP5 := hP4.kp0 hk5
  clear r0 p0 p1 p2
  obtain ⟨p0, p1, p2⟩ := pdc_rows hB3
  obtain ⟨r0, -, -, r2, -⟩ := txc_rows hB5
  have s5 := k5.size
  have hfi := find_idx (l := ws.map Wm.en) (k := x.t.frm) (n := x.t.non)
  have hli := likeW_lt (ws := ws) (k := x.t.frm) (n := x.t.non)
  by_cases hf : ws.findIdx (fun e : Wm => isK x.t.frm x.t.non e.en) < ws.length
  · rw [idxZ_lt hf]
    generalize hi : ws.findIdx (fun e : Wm => isK x.t.frm x.t.non e.en) = i at hf hli
    rw [hli, List.getElem?_eq_getElem (by simpa using hf), List.getElem_map] at hfi
    have gi : (0 : Int) ≤ (i : Int) := by omega
    have gi2 : (i : Int) < (ws.length : Int) := by omega
    obtain ⟨b1, o1, rfl, hri⟩ := hP5.sl.at hf
    obtain ⟨u0, -, -, u2, -⟩ := wc_rows hri
    have hxi := hP5.ins _ (List.getElem_mem hf)
    repeat (first|apply cA|apply cB|apply cD|apply cE|refine cV rfl rfl rfl rfl (by first|((first|apply qmv|apply qas|apply qge)<;>(first|exact rfl|exact dct (by first|assumption|omega)|fail))|fail) ?_)
    refine cZ rfl (by exact rho_of rfl) rfl ?_
    clear hri
    repeat (first|apply cA)
    refine CG.tail mixed 7 [0, 1, 2, 3, 4, 5, 6] (by kernel_rfl) ?_
    repeat (refine cY rfl rfl rfl (by first|((first|apply qmv|apply qlc|apply qla|apply qfa|apply qix)<;>(first|exact rfl|exact Ar.mk (by omega)|assumption|exact List.not_mem_nil|apply txc_length|fail))|fail) ?_)
    refine Der.tl (fun w6 hk6 _ _ => ?_)
    refine SG.ret rfl rfl rfl (vs := [txv ws[i].x, txv x]) (by repeat' (first | exact True.intro | exact rho_of rfl | refine And.intro ?_ ?_)) (rtsame_spec (hxi.kp0 hk6) (hx5.kp0 hk6)) (fun w7 hk7 => ?_)
    have k57 := hk6.trans hk7
    have k7 := k5.trans k57
    have hB6 := hB6.kp0 k57
    have p0 := p0.kp0 k57
    have p1 := p1.kp0 k57
    have p2 := p2.kp0 k57
    have r0 := r0.kp0 k57
    have r2 := r2.kp0 k57
    have u2 := u2.kp0 k57
    by_cases hsame : ws[i].x.t = x.t
    · have hz := addZ_same (room := room) hh h3 hfi hsame
      rw [txEq_t hsame]
      repeat (first|apply cD|apply cE)
      refine cZ rfl (by exact rho_of rfl) rfl ?_
      clear p1
      repeat (first|apply cA|apply cB|refine cV rfl rfl rfl rfl (by first|(apply qla<;>(first|exact rfl|assumption|exact List.not_mem_nil))|fail) ?_)
      refine SG.setAll (l := pdc room (some ⟨b1, o1, none⟩) ws.length c) rfl rfl (by exact rho_of rfl) (by exact rho_of rfl) hB6 rfl rfl rfl (fun w8 hk8 hB6 => ?_)
      have hr6 : Row w8 b6 0 (pdc room (some ⟨b1, o1, none⟩) ws.length c) := Row.all hB6 rfl
      repeat (first|apply cD|apply cE|apply cH|apply cK|refine cV rfl rfl rfl rfl (by first|(apply qas<;>(exact rfl))|fail) ?_)
      refine ret2 (Or.inl rfl) Tryz.results21 (ResV.agg rfl rfl hr6 (pdc_length _ _ _ _)) (by first | exact ResV.tmp rfl | exact ResV.agg rfl rfl (by assumption) (by first | exact dc_length _ | exact nc_length _ | exact rc_length _ _ _ | exact ec_length _ | exact dl_length _ _ _ _ | rfl) | exact ResV.cell rfl rfl (by assumption)) ?_
      exact hno (k7.trans_new hk8 (new1 (by omega))) hz (by decide)
    rw [txEq_f hsame]
    repeat (first|apply cD|apply cE)
    refine dA rfl (by exact rho_of rfl) rfl ?_
    by_cases hfee : x.t.fee ≤ ws[i].x.t.fee
    · have hz := addZ_old (room := room) hh h3 hfi hsame hfee
      repeat (first|apply cA|apply cE|apply cF)
      refine CG.tail mixed 9 [0, 1, 2, 3, 4, 5, 6, 7, 8] (by kernel_rfl) ?_
      repeat (refine cY rfl rfl rfl (by first|((first|apply qmv|apply qlc|apply qfa|apply qix)<;>(first|exact rfl|exact Ar.mk (by omega)|assumption|exact List.not_mem_nil|fail))|fail) ?_)
      refine Der.tl (fun w8 hk8 _ _ => ?_)
      have p0 := p0.kp0 hk8
      repeat (first|apply cD|apply cE|refine cV rfl rfl rfl rfl (by first|(apply qle<;>(first|exact rfl|exact dct (by first|assumption|omega)|fail))|fail) ?_)
      refine cZ rfl (by exact rho_of rfl) rfl ?_
      repeat (first|apply cA|apply cB|refine cV rfl rfl rfl rfl (by first|(apply qla<;>(first|exact rfl|assumption|exact List.not_mem_nil))|fail) ?_)
      refine SG.setAll (l := pdc room (some ⟨b1, o1, none⟩) ws.length c) rfl rfl (by exact rho_of rfl) (by exact rho_of rfl) (hB6.kp0 hk8) rfl rfl rfl (fun w9 hk9 hB6 => ?_)
      have hr6 : Row w9 b6 0 (pdc room (some ⟨b1, o1, none⟩) ws.length c) := Row.all hB6 rfl
      repeat (first|apply cD|apply cE|apply cH|apply cK|refine cV rfl rfl rfl rfl (by first|(apply qas<;>(exact rfl))|fail) ?_)
      refine ret2 (Or.inl rfl) Tryz.results21 (ResV.agg rfl rfl hr6 (pdc_length _ _ _ _)) (by first | exact ResV.tmp rfl | exact ResV.agg rfl rfl (by assumption) (by first | exact dc_length _ | exact nc_length _ | exact rc_length _ _ _ | exact ec_length _ | exact dl_length _ _ _ _ | rfl) | exact ResV.cell rfl rfl (by assumption)) ?_
      exact hno ((k7.trans hk8).trans_new hk9 (new1 (by omega))) hz (by decide)
    have hz := addZ_new (room := room) hh h3 hfi hsame hfee
    repeat (first|apply cA|apply cE|apply cF)
    refine CG.tail mixed 9 [0, 1, 2, 3, 4, 5, 6, 7, 8] (by kernel_rfl) ?_
    repeat (refine cY rfl rfl rfl (by first|((first|apply qmv|apply qlc|apply qfa|apply qix)<;>(first|exact rfl|exact Ar.mk (by omega)|assumption|exact List.not_mem_nil|fail))|fail) ?_)
    refine Der.tl (fun w8 hk8 _ _ => ?_)
    have k58 := k57.trans hk8
    have k8 := k5.trans k58
    have hP8 := hP5.kp0 k58
    have hB3 := hB3.kp0 k58
    have hB6 := hB6.kp0 hk8
    have hx8 := hx5.kp0 k58
    have r0 := r0.kp0 hk8
    have p2 := p2.kp0 hk8
    have hel : (ws.eraseIdx i).length ≤ ws.length := (List.eraseIdx_sublist _ _).length_le
    clear p0 p1 r2 u2 u0
    repeat (first|apply cD|apply cE|refine cV rfl rfl rfl rfl (by first|(apply qle<;>(first|exact rfl|exact dcf (by first|assumption|omega)|fail))|fail) ?_)
    refine dA rfl (by exact rho_of rfl) rfl ?_
    repeat (first|apply cA|apply cE|apply cF)
    refine CG.rows mixed 8 [0, 1, 2, 4, 5, 6, 3, 7] [⟨3, 0, oW w8.heap.size (ws.eraseIdx i)⟩, ⟨7, 1, oW w8.heap.size [(⟨x, h⟩ : Wm)]⟩] (by kernel_rfl) (by kernel_rfl) (by kernel_rfl) (OkL.all (by repeat' (first | exact OkL.nil | refine OkL.cons ?_ ?_ | exact oP_ok | exact bP_ok))) ?_
    repeat (refine DerR.val rfl rfl rfl rfl (by first|((first|apply qmv|apply qlc|apply qla|apply qfa)<;>(first|exact rfl|assumption|exact List.not_mem_nil|apply txc_length))|fail) ?_)
    refine DerR.val rfl rfl rfl rfl (vals_build (vs := [(0, txv x), (1, .int .i64 h)]) rfl (fun W => bw W x h)) ?_
    skip
    refine DerR.callO (ws.eraseIdx i) rfl rfl rfl rfl (by repeat' (first | exact OkL.nil | refine OkL.cons ?_ ?_ | exact oP_ok | exact bP_ok)) (vs := [.slice (some ⟨b1, o1, none⟩) ws.length c, .int .i64 (i : Int)]) (by repeat' (first | exact True.intro | exact rho_of rfl | refine And.intro ?_ ?_)) (Nat.le_refl _) (fun W hk hF => without_spec (hP8.kp0 hk) (by omega) hf) (fun v3 => ?_)
    refine DerR.buildO [(⟨x, h⟩ : Wm)] wc_length rfl rfl rfl rfl rfl (by repeat' (first | exact OkL.nil | refine OkL.cons ?_ ?_ | exact oP_ok | exact bP_ok)) rfl (Nat.le_refl _) (by simp [maxLen]) (fun W => by rw [flt_one]; exact bsw ⟨x, h⟩ W) (fun v7 => ?_)
    refine DerR.tl (fun w9 V hok hV => ?_)
    have ho3 : w9.ownsRow w8.heap.size 67 14 v3 (ws.eraseIdx i).length (flt wc (ws.eraseIdx i)) := hok.get hV (.tail _ (.head _)) rfl
    have ho7 : w9.ownsRow w8.heap.size 67 14 v7 ([(⟨x, h⟩ : Wm)] : List Wm).length (flt wc [(⟨x, h⟩ : Wm)]) := hok.get hV (.head _) rfl
    have hk9 := hok.kp
    obtain ⟨a7, c7, rfl, -, hS7⟩ := Sl.own wc_length ho7 rfl
    refine SG.appO (enc := wc) (xs := ws.eraseIdx i) (ys := [(⟨x, h⟩ : Wm)]) (base := w8.heap.size) rfl rfl rfl (by exact rho_of rfl) (by exact rho_of rfl) rfl rfl rfl rfl wc_length wc_one ho3 hS7 (by simp only [maxLen, List.length_cons, List.length_nil]; omega) (by simp only [List.length_cons, List.length_nil]; show (_ + _) * 88 ≤ _; omega) hk9.size (fun v10 w10 hk10 ho10 _ => ?_)
    have k810 : Kp [] w8 w10 := hk9.trans_new hk10 (own_new ho3 (Nat.le_refl _))
    have hin : ∀ e ∈ ws.eraseIdx i ++ [(⟨x, h⟩ : Wm)], e.x.In n w10 := fun e he => by
      rcases List.mem_append.1 he with he | he
      · exact (hP8.ins e (List.mem_of_mem_eraseIdx he)).kp0 k810
      · rw [List.mem_singleton] at he
        rw [he]
        exact hx8.kp0 k810
    obtain ⟨a10, c10, rfl, hP10⟩ := PD.own ho10 hin
    have hB3' := hB3
    have hB6' := hB6
    clear hok hV ho3 ho7 hS7 p2
    repeat (first|refine cV rfl rfl rfl rfl (by first|(apply qfa<;>(exact rfl))|fail) ?_)
    refine SG.setMid [.int .i64 room] [.slice (some ⟨b1, o1, none⟩) ws.length c] [] rfl rfl (by exact rho_of rfl) (by exact rho_of rfl) (hB3.kp0 k810) rfl rfl rfl rfl rfl (fun w11 hk11 hB3 => ?_)
    have hB3 : Blk w11 b3 (.cells (pdc room a10 (ws.eraseIdx i ++ [(⟨x, h⟩ : Wm)]).length c10).toArray 29) := hB3
    obtain ⟨p0, -, -⟩ := pdc_rows hB3
    clear r0
    repeat (first|apply cA|apply cB|apply cD|apply cE|refine cV rfl rfl rfl rfl (by first|(apply qla<;>(first|exact rfl|assumption|exact List.not_mem_nil))|fail) ?_)
    refine SG.setAll (l := pdc room a10 (ws.eraseIdx i ++ [(⟨x, h⟩ : Wm)]).length c10) rfl rfl (by exact rho_of rfl) (by exact rho_of rfl) ((hB6.kp0 k810).kp hk11 (nm1 (by omega))) rfl rfl rfl (fun w12 hk12 hB6 => ?_)
    have hr6 : Row w12 b6 0 (pdc room a10 (ws.eraseIdx i ++ [(⟨x, h⟩ : Wm)]).length c10) := Row.all hB6 rfl
    repeat (first|apply cD|apply cE|apply cH|apply cK|refine cV rfl rfl rfl rfl (by first|(apply qas<;>(exact rfl))|fail) ?_)
    refine ret2 (Or.inl rfl) Tryz.results21 (ResV.agg rfl rfl hr6 (pdc_length _ _ _ _)) (by first | exact ResV.tmp rfl | exact ResV.agg rfl rfl (by assumption) (by first | exact dc_length _ | exact nc_length _ | exact rc_length _ _ _ | exact ec_length _ | exact dl_length _ _ _ _ | rfl) | exact ResV.cell rfl rfl (by assumption)) ?_
    have s10 := k810.size
    have k1012 : Kp [] w10 w10 := Kp.refl _ _
    refine ⟨a10, c10, ws.eraseIdx i ++ [(⟨x, h⟩ : Wm)], by rw [hz], ((k8.trans k810).trans_new hk11 (new1 hb3)).trans_new hk12 (new1 (by omega)), ?_, ?_⟩
    · exact (hP10.kpb hk11 (hB3'.kp0 k810) (by decide) (by decide) (by omega)).kpb hk12 ((hB6'.kp0 k810).kp hk11 (nm1 (by omega))) (by decide) (by decide) (by omega)
    · rw [List.map_append, erase_en]
      unfold addE
      rw [if_pos hz]
      unfold addL
      rw [hli]
      rfl
  rw [idxZ_no hf]
  rw [hli, List.getElem?_eq_none (by rw [List.length_map]; omega)] at hfi
  have gi : ¬ (0 : Int) ≤ -1 := by omega
  repeat (first|apply cA|apply cB|apply cD|apply cE|refine cV rfl rfl rfl rfl (by first|((first|apply qmv|apply qas|apply qge)<;>(first|exact rfl|exact dcf (by first|assumption|omega)|fail))|fail) ?_)
  refine dA rfl (by exact rho_of rfl) rfl ?_
  by_cases hfull : (ws.length : Int) = room
  · have hz := addZ_full (room := room) hh h3 hfi (by rw [List.length_map]; omega)
    repeat (first|apply cA|apply cB|apply cD|apply cE|apply cF|refine cV rfl rfl rfl rfl (by first|((first|apply qlc|apply qfa|apply qei|apply qln)<;>(first|exact rfl|assumption|exact dct (by first|assumption|omega)|exact List.not_mem_nil|fail))|fail) ?_)
    refine cZ rfl (by exact rho_of rfl) rfl ?_
    clear p1
    repeat (first|apply cA|apply cB|refine cV rfl rfl rfl rfl (by first|(apply qla<;>(first|exact rfl|assumption|exact List.not_mem_nil))|fail) ?_)
    refine SG.setAll (l := pdc room a ws.length c) rfl rfl (by exact rho_of rfl) (by exact rho_of rfl) hB6 rfl rfl rfl (fun w6 hk6 hB6 => ?_)
    have hr6 : Row w6 b6 0 (pdc room a ws.length c) := Row.all hB6 rfl
    repeat (first|apply cD|apply cE|apply cH|apply cK|refine cV rfl rfl rfl rfl (by first|(apply qas<;>(exact rfl))|fail) ?_)
    refine ret2 (Or.inl rfl) Tryz.results21 (ResV.agg rfl rfl hr6 (pdc_length _ _ _ _)) (by first | exact ResV.tmp rfl | exact ResV.agg rfl rfl (by assumption) (by first | exact dc_length _ | exact nc_length _ | exact rc_length _ _ _ | exact ec_length _ | exact dl_length _ _ _ _ | rfl) | exact ResV.cell rfl rfl (by assumption)) ?_
    exact hno (k5.trans_new hk6 (new1 (by omega))) hz (by decide)
  have hz := addZ_ok (room := room) hh h3 hfi (by rw [List.length_map]; omega)
  repeat (first|apply cA|apply cB|apply cD|apply cE|apply cF|refine cV rfl rfl rfl rfl (by first|((first|apply qlc|apply qfa|apply qei|apply qln)<;>(first|exact rfl|assumption|exact dcf (by first|assumption|omega)|exact List.not_mem_nil|fail))|fail) ?_)
  refine dA rfl (by exact rho_of rfl) rfl ?_
  clear p0 p1 r2
  repeat (first|apply cA|apply cE|apply cF)
  refine CG.rows mixed 8 [1, 2, 4, 5, 6, 0, 3, 7] [⟨0, 0, oW w5.heap.size []⟩, ⟨3, 0, oW w5.heap.size ([] ++ ws)⟩, ⟨7, 1, oW w5.heap.size [(⟨x, h⟩ : Wm)]⟩] (by kernel_rfl) (by kernel_rfl) (by kernel_rfl) (OkL.all (by repeat' (first | exact OkL.nil | refine OkL.cons ?_ ?_ | exact oP_ok | exact bP_ok))) ?_
  repeat (refine DerR.val rfl rfl rfl rfl (by first|((first|apply qmv|apply qlc|apply qla|apply qfa)<;>(first|exact rfl|assumption|exact List.not_mem_nil|apply txc_length))|fail) ?_)
  refine DerR.val rfl rfl rfl rfl (vals_build (vs := [(0, txv x), (1, .int .i64 h)]) rfl (fun W => bw W x h)) ?_
  skip
  refine DerR.buildO [] wc_length rfl rfl rfl rfl rfl (by repeat' (first | exact OkL.nil | refine OkL.cons ?_ ?_ | exact oP_ok | exact bP_ok)) rfl (Nat.le_refl _) (by simp) bsw0 (fun v0 => ?_)
  refine DerR.append (src := 0) [] ws [(0, [])] wc_length wc_one rfl rfl (by kernel_rfl) ⟨Nat.le_refl _, trivial⟩ rfl rfl rfl (by repeat' (first | exact OkL.nil | refine OkL.cons ?_ ?_ | exact oP_ok | exact bP_ok)) (by exact rho_of rfl) (by exact rho_of rfl) rfl rfl rfl (by simp only [maxLen, List.length_nil]; omega) (by show (0 + _) * 88 ≤ _; omega) (Nat.le_refl _) (.head _) (by kernel_rfl) (fun W hk hF => ⟨_, _, rfl, hP5.sl.kp0 hk⟩) (fun v3 => ?_)
  refine DerR.buildO [(⟨x, h⟩ : Wm)] wc_length rfl rfl rfl rfl rfl (by repeat' (first | exact OkL.nil | refine OkL.cons ?_ ?_ | exact oP_ok | exact bP_ok)) rfl (Nat.le_refl _) (by simp [maxLen]) (fun W => by rw [flt_one]; exact bsw ⟨x, h⟩ W) (fun v7 => ?_)
  refine DerR.tl (fun w9 V hok hV => ?_)
  have ho3 : w9.ownsRow w5.heap.size 67 14 v3 ws.length (flt wc ws) := hok.get hV (.tail _ (.head _)) rfl
  have ho7 : w9.ownsRow w5.heap.size 67 14 v7 ([(⟨x, h⟩ : Wm)] : List Wm).length (flt wc [(⟨x, h⟩ : Wm)]) := hok.get hV (.head _) rfl
  have hk9 := hok.kp
  obtain ⟨a7, c7, rfl, -, hS7⟩ := Sl.own wc_length ho7 rfl
  refine SG.appO (enc := wc) (xs := ws) (ys := [(⟨x, h⟩ : Wm)]) (base := w5.heap.size) rfl rfl rfl (by exact rho_of rfl) (by exact rho_of rfl) rfl rfl rfl rfl wc_length wc_one ho3 hS7 (by simp only [maxLen, List.length_cons, List.length_nil]; omega) (by simp only [List.length_cons, List.length_nil]; show (_ + _) * 88 ≤ _; omega) hk9.size (fun v10 w10 hk10 ho10 _ => ?_)
  have k810 : Kp [] w5 w10 := hk9.trans_new hk10 (own_new ho3 (Nat.le_refl _))
  have hin : ∀ e ∈ ws ++ [(⟨x, h⟩ : Wm)], e.x.In n w10 := fun e he => by
    rcases List.mem_append.1 he with he | he
    · exact (hP5.ins e he).kp0 k810
    · rw [List.mem_singleton] at he
      rw [he]
      exact hx5.kp0 k810
  obtain ⟨a10, c10, rfl, hP10⟩ := PD.own ho10 hin
  have hB3' := hB3
  have hB6' := hB6
  clear hok hV ho3 ho7 hS7 p2
  repeat (first|refine cV rfl rfl rfl rfl (by first|(apply qfa<;>(exact rfl))|fail) ?_)
  refine SG.setMid [.int .i64 room] [.slice a ws.length c] [] rfl rfl (by exact rho_of rfl) (by exact rho_of rfl) (hB3.kp0 k810) rfl rfl rfl rfl rfl (fun w11 hk11 hB3 => ?_)
  have hB3 : Blk w11 b3 (.cells (pdc room a10 (ws ++ [(⟨x, h⟩ : Wm)]).length c10).toArray 29) := hB3
  obtain ⟨p0, -, -⟩ := pdc_rows hB3
  clear r0
  repeat (first|apply cA|apply cB|apply cD|apply cE|refine cV rfl rfl rfl rfl (by first|(apply qla<;>(first|exact rfl|assumption|exact List.not_mem_nil))|fail) ?_)
  refine SG.setAll (l := pdc room a10 (ws ++ [(⟨x, h⟩ : Wm)]).length c10) rfl rfl (by exact rho_of rfl) (by exact rho_of rfl) ((hB6.kp0 k810).kp hk11 (nm1 (by omega))) rfl rfl rfl (fun w12 hk12 hB6 => ?_)
  have hr6 : Row w12 b6 0 (pdc room a10 (ws ++ [(⟨x, h⟩ : Wm)]).length c10) := Row.all hB6 rfl
  repeat (first|apply cD|apply cE|apply cH|refine cV rfl rfl rfl rfl (by first|(apply qas<;>(exact rfl))|fail) ?_)
  refine ret2 (Or.inl rfl) Tryz.results21 (ResV.agg rfl rfl hr6 (pdc_length _ _ _ _)) (by first | exact ResV.tmp rfl | exact ResV.agg rfl rfl (by assumption) (by first | exact dc_length _ | exact nc_length _ | exact rc_length _ _ _ | exact ec_length _ | exact dl_length _ _ _ _ | rfl) | exact ResV.cell rfl rfl (by assumption)) ?_
  have s10 := k810.size
  refine ⟨a10, c10, ws ++ [(⟨x, h⟩ : Wm)], by rw [hz], ((k5.trans k810).trans_new hk11 (new1 hb3)).trans_new hk12 (new1 (by omega)), ?_, ?_⟩
  · exact (hP10.kpb hk11 (hB3'.kp0 k810) (by decide) (by decide) (by omega)).kpb hk12 ((hB6'.kp0 k810).kp hk11 (nm1 (by omega))) (by decide) (by decide) (by omega)
  · rw [List.map_append]
    unfold addE
    rw [if_pos hz]
    unfold addL
    rw [hli, List.eraseIdx_of_length_le (by rw [List.length_map]; omega)]
    rfl
end Go.Proofs.YtgbgnlboogalgaaGreat
namespace Go.Proofs.YtgbgnlboogalgaaGreat
set_option linter.unusedVariables false
section
variable {P : Program} {L : Env} {ty : TypeId} {pos : String} {af : Array Edge} {g : Option (Nat × Bool)} {S : List Nat} {w0 : World} {ops : List Oper} {gh : List Nat} {K : Env → (World → Prop) → (World → Prop) → Prop} {i : Nat} {ord : List Nat} {F R : World → Prop}
theorem Der.loadCR {d : Nat} {T : TypeId} [c : CelT P T] {x : Operand} {b off : Nat} {v : Value}
    (ho : ops[i]? = some ⟨some d, .load T x, ty, pos, af, g⟩) (hw : want ops L ⟨some d, .load T x, ty, pos, af, g⟩ = some true) (hg : gh.elem (i + 1000) = true) (hk : known L x = true) (hx : ro L x = some (.pointer (some ⟨b, off, none⟩))) (hr : ∀ w, R w → Row w b off [v])
    (hd : Der P S w0 ops gh K ord ((d, v) :: L) F R) : Der P S w0 ops gh K (i :: ord) L F R :=
  Der.valR ho hw hg (by simpa [Op.operands] using hk) (fun w _ _ hR => qlc (S := []) (w0 := w) (F := fun _ => True) hx (hr w hR) List.not_mem_nil w (Kp.refl _ _) trivial) hd
theorem Der.storeMid {T T' : TypeId} {inf : TypeInfo} [f : Inf P T inf] {a x : Operand} {b off : Nat} (pre old post : List Value) {v : Value}
    (ho : ops[i]? = some ⟨none, .store T a x, ty, pos, af, g⟩) (hw : want ops L ⟨none, .store T a x, ty, pos, af, g⟩ = some true) (hg : gh.elem i = true) (hk : (known L a && known L x) = true) (ha : rho L a = .pointer (some ⟨b, off, none⟩)) (hx : rho L x = v)
    (hn : v.cells.toList.length = inf.size) (hold : old.length = inf.size) (hp : pre.length = off) (hone : allOne v.cells.toList = true) (hb : b ∈ S) (hFs : Stab S F)
    (hd : Der P S w0 ops gh K ord L (fun w => F w ∧ True) (fun w => Blk w b (.cells (pre ++ (v.cells.toList ++ post)).toArray T'))) : Der P S w0 ops gh K (i :: ord) L F (fun w => Blk w b (.cells (pre ++ (old ++ post)).toArray T')) := by
  refine Der.storeR (fun w => Blk w b (.cells (pre ++ (v.cells.toList ++ post)).toArray T')) ho hw hg hk ha hx hFs (fun w w' hk h => h.kp0 hk) (fun w h => ?_) hd
  have hrun := run_storeAt (P := P) (f := f) (off := off) (v := v) h hn (by simp only [List.size_toArray, List.length_append]; omega) hone
  refine ⟨_, hrun, ?_, (Kp.set w h rfl rfl).mono (by intro z hz; simp at hz; subst hz; exact hb)⟩
  have := h.set (.cells (spl (pre ++ (old ++ post)).toArray.toList off v.cells.toList).toArray T')
  rw [List.toList_toArray, ← hp, spl_mid (by omega)] at this
  rw [List.toList_toArray, ← hp, spl_mid (by omega)]
  exact this
end
end Go.Proofs.YtgbgnlboogalgaaGreat
namespace Go.Proofs.YtgbgnlboogalgaaGreat
open Go.Proofs
set_option linter.unusedVariables false
/-- A transaction that comes, of any length. -/
structure Tm.Rd (x : Tm) (n : Nat) (w : World) : Prop where
  b : Bs w x.a1 x.c1 x.t.body
  s : Bs w x.a2 x.c2 x.t.sig
  t1 : Tb n w x.a1 x.t.body
  t2 : Tb n w x.a2 x.t.sig
theorem Tm.Rd.kp0 {x : Tm} {n : Nat} {w w' : World} (h : x.Rd n w) (hk : Kp [] w w') : x.Rd n w' := ⟨h.b.kp0 hk, h.s.kp0 hk, h.t1.kp0 hk, h.t2.kp0 hk⟩
def cutT (t : Tx) : Tx := ⟨t.frm, t.non, t.fee, t.kind, t.body.take 400, t.sig.take 1100⟩
def cutM (x : Tm) : Tm := ⟨cutT x.t, x.a1, x.c1, x.a2, x.c2⟩
theorem Bs.take {w : World} {a : Option Addr} {c : Nat} {l : List UInt8} (h : Bs w a c l) (j : Nat) : Bs w a c (l.take j) := by
  refine ⟨h.sl.take j, Nat.le_trans (List.length_take_le' j l) h.len, ?_, fun hn b off e => h.lt (fun h0 => hn (by rw [h0, List.take_nil])) b off e⟩
  rcases h.some with ⟨rfl, h2⟩ | h2 | ⟨rfl, h2⟩
  · exact Or.inl ⟨List.take_nil, h2⟩
  · exact Or.inr (Or.inl h2)
  · exact Or.inr (Or.inr ⟨List.take_nil, h2⟩)
theorem Tb.take {n : Nat} {w : World} {a : Option Addr} {l : List UInt8} (h : Tb n w a l) (j : Nat) : Tb n w a (l.take j) := by
  rcases h with h | h
  · exact Or.inl (fun hn => h (fun h0 => hn (by rw [h0, List.take_nil])))
  · exact Or.inr h
theorem cutM_in {x : Tm} {n : Nat} {w : World} (h : x.Rd n w) : (cutM x).In n w :=
  ⟨h.b.take 400, h.s.take 1100, h.t1.take 400, h.t2.take 1100, by show (x.t.body.take 400).length ≤ _; rw [List.length_take]; omega, by show (x.t.sig.take 1100).length ≤ _; rw [List.length_take]; omega⟩
theorem mn_tk (n : Nat) (l : List UInt8) : (if (n : Int) < (l.length : Int) then (n : Int) else (l.length : Int)) = ((l.take n).length : Int) := by
  rw [List.length_take]
  split <;> omega
set_option maxHeartbeats 4000000 in
theorem bT' (w : World) (a0 a1 a2 a3 a4 a5 a6 a7 : UInt8) (n f k : Int) (x1 x2 : Option Addr) (m1 m2 d1 d2 : Nat) :
    (Instr.build 36 #[(0, .agg #[bv a0, bv a1, bv a2, bv a3, bv a4, bv a5, bv a6, bv a7]), (1, .int .i64 n), (2, .int .i64 f), (3, .int .i64 k), (4, .slice x1 m1 d1), (5, .slice x2 m2 d2)]).run Tryz.prog w = .ok (.agg #[bv a0, bv a1, bv a2, bv a3, bv a4, bv a5, bv a6, bv a7, .int .i64 n, .int .i64 f, .int .i64 k, .slice x1 m1 d1, .slice x2 m2 d2]) w := by kernel_rfl
theorem bT (w : World) (x : Tm) : (Instr.build 36 #[(0, dv x.t.frm), (1, .int .i64 x.t.non), (2, .int .i64 x.t.fee), (3, .int .i64 x.t.kind), (4, x.b), (5, x.s)]).run Tryz.prog w = .ok (txv x) w := by
  obtain ⟨⟨⟨l, hl⟩, n, f, k, b, g⟩, a1, c1, a2, c2⟩ := x
  match l, hl with
  | [x0, x1, x2, x3, x4, x5, x6, x7], _ => exact bT' w x0 x1 x2 x3 x4 x5 x6 x7 n f k a1 a2 b.length g.length c1 c2
def p11 (t : Tx) : List Value := dc t.frm ++ [.int .i64 t.non, .int .i64 t.fee, .int .i64 t.kind]
def p12 (t : Tx) (v : Value) : List Value := dc t.frm ++ [.int .i64 t.non, .int .i64 t.fee, .int .i64 t.kind, v]
theorem txc_p11 (t : Tx) (a1 a2 : Option Addr) (c1 c2 : Nat) : txc ⟨t, a1, c1, a2, c2⟩ = p11 t ++ ([.slice a1 t.body.length c1] ++ [.slice a2 t.sig.length c2]) := txc_mid4 t a1 a2 c1 c2
attribute [local irreducible] CG NG SG Vals Der Row Blk MapIs IterAt DerX DerR wrongT nameT
set_option maxHeartbeats 16000000 in
theorem tof_spec {w : World} (x : Tm) : Ret Tryz.prog 8 #[txv x] w (txv x) := by
  refine enter1 Tryz.func8 rfl Tryz.ntmps8 rfl ?_
  repeat (first|apply cA|apply cB)
  refine SG.box rfl rfl rfl (by exact rho_of rfl) (fun b1 w1 hk1 hb1 hB1 => ?_)
  have hB1 : Blk w1 b1 (.cells (txc x).toArray 40) := hB1
  refine SG.alloc rfl rfl rfl (fun b2 w2 hk2 hb2 hB2 => ?_)
  have hB2 : Blk w2 b2 (.cells (txc ⟨⟨zd, 0, 0, 0, [], []⟩, none, 0, none, 0⟩).toArray 36) := hB2
  obtain ⟨-, r0, r1, r2, r3, r4, r5⟩ := txc_rows (hB1.kp0 hk2)
  have s1 := hk1.size
  repeat (first|apply cA|apply cB|apply cD|apply cE|refine cV rfl rfl rfl rfl (by first|((first|apply qlc|apply qla|apply qfa)<;>(first|exact rfl|assumption|exact List.not_mem_nil|apply dc_length))|fail) ?_)
  refine cV rfl rfl rfl rfl (vals_build (vs := [(0, dv x.t.frm), (1, .int .i64 x.t.non), (2, .int .i64 x.t.fee), (3, .int .i64 x.t.kind), (4, x.b), (5, x.s)]) rfl (fun W => bT W x)) ?_
  refine SG.setAll (l := txc x) rfl rfl (by exact rho_of rfl) (by exact rho_of rfl) hB2 (txc_length _) rfl (txc_one _) (fun w3 hk3 hB2 => ?_)
  have hr : Row w3 b2 0 (txc x) := Row.all hB2 rfl
  repeat (first|apply cD|apply cE|apply cH)
  refine ret1 (Or.inl rfl) Tryz.results8 (ResV.agg rfl rfl hr (txc_length _)) ?_
  exact ⟨rfl, (hk1.trans hk2).trans_new hk3 (new1 (by omega))⟩
set_option maxHeartbeats 16000000 in
theorem cut_spec {w : World} {n : Nat} {x : Tm} (hx : x.Rd n w) : Ret Tryz.prog 19 #[txv x] w (txv (cutM x)) := by
  refine enter1 Tryz.func19 rfl Tryz.ntmps19 rfl ?_
  have c1 := hx.b.len
  have c2 := hx.s.len
  have m1 : (if (400 : Int) < (x.t.body.length : Int) then (400 : Int) else (x.t.body.length : Int)) = ((x.t.body.take 400).length : Int) := mn_tk 400 x.t.body
  have m2 : (if (1100 : Int) < (x.t.sig.length : Int) then (1100 : Int) else (x.t.sig.length : Int)) = ((x.t.sig.take 1100).length : Int) := mn_tk 1100 x.t.sig
  have m1l : (x.t.body.take 400).length ≤ x.t.body.length := List.length_take_le' _ _
  have m2l : (x.t.sig.take 1100).length ≤ x.t.sig.length := List.length_take_le' _ _
  repeat (first|apply cA|apply cB)
  refine SG.box rfl rfl rfl (by exact rho_of rfl) (fun b1 w1 hk1 hb1 hB1 => ?_)
  have hB1 : Blk w1 b1 (.cells (txc x).toArray 40) := hB1
  have l1 := hB1.lt
  refine SG.alloc rfl rfl rfl (fun b2 w2 hk2 hb2 hB2 => ?_)
  have hB2 : Blk w2 b2 (.cells (txc ⟨⟨zd, 0, 0, 0, [], []⟩, none, 0, none, 0⟩).toArray 40) := hB2
  have hB1 := hB1.kp0 hk2
  have s1 := hk1.size
  rw [show txc x = p11 x.t ++ ([Value.slice x.a1 x.t.body.length x.c1] ++ [Value.slice x.a2 x.t.sig.length x.c2]) from txc_p11 x.t x.a1 x.a2 x.c1 x.c2] at hB1
  have hrow : ∀ {W : World}, Blk W b1 (.cells (p11 x.t ++ ([Value.slice x.a1 x.t.body.length x.c1] ++ [Value.slice x.a2 x.t.sig.length x.c2])).toArray 40) → Row W b1 11 [Value.slice x.a1 x.t.body.length x.c1] ∧ Row W b1 12 [Value.slice x.a2 x.t.sig.length x.c2] := fun {W} h => by
    rw [← txc_p11] at h
    obtain ⟨-, -, -, -, -, r4, r5⟩ := txc_rows h
    exact ⟨r4, r5⟩
  repeat (first|apply cA|apply cD|apply cE)
  refine CG.tailg mixed 16 [0, 1, 2, 3, 4, 5, 6, 7, 8, 9, 10, 11, 12, 13, 14, 15] [15, 1001, 1003, 1008, 1010] [b1] (fun W => Blk W b1 (.cells (p11 x.t ++ ([Value.slice x.a1 x.t.body.length x.c1] ++ [Value.slice x.a2 x.t.sig.length x.c2])).toArray 40)) (by kernel_rfl) hB1 (fun _ _ hk h => h.kp0 hk) ?_
  repeat (refine cY rfl rfl rfl (by first|(apply qfa<;>(exact rfl))|fail) ?_)
  refine Der.loadCR rfl rfl rfl rfl rfl (fun W h => (hrow h).1) ?_
  repeat (refine cY rfl rfl rfl (by first|(apply qfa<;>(exact rfl))|fail) ?_)
  refine Der.loadCR rfl rfl rfl rfl rfl (fun W h => (hrow h).1) ?_
  repeat (refine cY rfl rfl rfl (by first|((first|apply qmn|apply qfa|apply qln|apply qto)<;>(first|exact rfl|exact Ar.mk (by omega)|assumption|fail))|fail) ?_)
  rw [m1]
  skip
  refine Der.loadCR rfl rfl rfl rfl rfl (fun W h => (hrow h).2) ?_
  repeat (refine cY rfl rfl rfl (by first|(apply qfa<;>(exact rfl))|fail) ?_)
  refine Der.loadCR rfl rfl rfl rfl rfl (fun W h => (hrow h).2) ?_
  repeat (refine cY rfl rfl rfl (by first|((first|apply qmn|apply qfa|apply qln|apply qto)<;>(first|exact rfl|exact Ar.mk (by omega)|assumption|fail))|fail) ?_)
  rw [m2]
  skip
  refine Der.storeMid (p11 x.t) [Value.slice x.a1 x.t.body.length x.c1] [Value.slice x.a2 x.t.sig.length x.c2] rfl rfl rfl rfl (by exact rho_of rfl) (by exact rho_of rfl) rfl rfl (tx_len1 x.t) rfl (by simp) (fun _ _ _ _ => trivial) ?_
  refine Der.tl (fun w3 hk3 _ hB3 => ?_)
  have hB3 : Blk w3 b1 (.cells (p12 x.t (.slice x.a1 (x.t.body.take 400).length x.c1) ++ ([Value.slice x.a2 x.t.sig.length x.c2] ++ [])).toArray 40) := by
    have e : p12 x.t (.slice x.a1 (x.t.body.take 400).length x.c1) ++ ([Value.slice x.a2 x.t.sig.length x.c2] ++ []) = p11 x.t ++ ((Value.slice x.a1 (x.t.body.take 400).length x.c1).cells.toList ++ [Value.slice x.a2 x.t.sig.length x.c2]) := by simp [Value.cells, p11, p12]
    rw [e]
    exact hB3
  have s2 := hk2.size
  refine cV rfl rfl rfl rfl (by first|(apply qfa<;>(exact rfl))|fail) ?_
  refine SG.setMid (p12 x.t (.slice x.a1 (x.t.body.take 400).length x.c1)) [Value.slice x.a2 x.t.sig.length x.c2] [] rfl rfl (by exact rho_of rfl) (by exact rho_of rfl) hB3 rfl rfl rfl (tx_len2 x.t _) rfl (fun w4 hk4 hB4 => ?_)
  have hB4 : Blk w4 b1 (.cells (txc (cutM x)).toArray 40) := by
    have e : txc (cutM x) = p12 x.t (.slice x.a1 (x.t.body.take 400).length x.c1) ++ ((Value.slice x.a2 (x.t.sig.take 1100).length x.c2).cells.toList ++ []) := by
      rw [show txc (cutM x) = _ from txc_mid5 (cutT x.t) x.a1 x.a2 x.c1 x.c2]
      simp [cutT, Value.cells, p12]
    rw [e]
    exact hB4
  obtain ⟨r, -⟩ := txc_rows hB4
  repeat (first|apply cA|apply cB|apply cD|apply cE|refine cV rfl rfl rfl rfl (by first|(apply qla<;>(first|exact rfl|assumption|exact List.not_mem_nil|apply txc_length))|fail) ?_)
  refine SG.setAll (l := txc (cutM x)) rfl rfl (by exact rho_of rfl) (by exact rho_of rfl) ((hB2.kp hk3 (nm1 (by omega))).kp hk4 (nm1 (by omega))) (txc_length _) rfl (txc_one _) (fun w5 hk5 hB2 => ?_)
  have hr : Row w5 b2 0 (txc (cutM x)) := Row.all hB2 rfl
  repeat (first|apply cD|apply cE|apply cH)
  refine ret1 (Or.inl rfl) Tryz.results19 (ResV.agg rfl rfl hr (txc_length _)) ?_
  exact ⟨rfl, (((hk1.trans hk2).trans_new hk3 (new1 (by omega))).trans_new hk4 (new1 (by omega))).trans_new hk5 (new1 (by omega))⟩
end Go.Proofs.YtgbgnlboogalgaaGreat
namespace Go.Proofs.YtgbgnlboogalgaaGreat
open Go.Proofs
set_option linter.unusedVariables false
/-- Transactions that come in, of any length. -/
structure TxsR (w : World) (n : Nat) (a : Option Addr) (xs : List Tm) : Prop where
  sl : Sl txc 13 w a xs
  rd : ∀ x ∈ xs, x.Rd n w
theorem TxsR.kp0 {w w' : World} {n : Nat} {a : Option Addr} {xs : List Tm} (h : TxsR w n a xs) (hk : Kp [] w w') : TxsR w' n a xs := ⟨h.sl.kp0 hk, fun x hx => (h.rd x hx).kp0 hk⟩
structure TxsN (w : World) (base n : Nat) (v : Value) (xs : List Tm) : Prop where
  own : w.ownsRow base 40 13 v xs.length (flt txc xs)
  ins : ∀ x ∈ xs, x.In n w
theorem TxsN.nil {w : World} {base n : Nat} : TxsN w base n (.slice none 0 0) [] := ⟨own_nil, fun x h => (by cases h)⟩
theorem TxsN.toI {w : World} {base n : Nat} {v : Value} {xs : List Tm} (h : TxsN w base n v xs) : ∃ a c, v = .slice a xs.length c ∧ xs.length ≤ c ∧ TxsI w n a xs := by
  obtain ⟨a, c, rfl, hc, hS⟩ := Sl.own txc_length h.own rfl
  exact ⟨a, c, rfl, hc, hS, Or.inl (Ty.own h.own), h.ins⟩
/-- A pool that comes to be filled. -/
noncomputable def fillL (ts : List Tx) : Nat → List En
  | 0 => []
  | i + 1 => match ts[i]? with
    | some t => addE 30 (fillL ts i) ((i / 3 : Nat) : Int) t
    | none => fillL ts i
noncomputable def fill (ts : List Tx) : List En := fillL ts ts.length
theorem bPz (room : Int) (w : World) : (Instr.build 29 #[(0, .int .i64 room)]).run Tryz.prog w = .ok (.agg #[.int .i64 room, .slice none 0 0]) w := by kernel_rfl
attribute [local irreducible] CG NG SG Vals Der Row Blk MapIs IterAt DerX DerR wrongT nameT
set_option maxHeartbeats 16000000 in
theorem cuts_spec {w : World} {n : Nat} {a : Option Addr} {c : Nat} {xs : List Tm} (hX : TxsR w n a xs) {most : Nat} (hm : most ≤ 1000) (hn : n ≤ w.heap.size) :
    Calls Tryz.prog 5 #[.slice a xs.length c, .int .i64 (most : Int)] w (fun e w' => ∃ v', e = .returned v' ∧ Kp [] w w' ∧ TxsN w' w.heap.size n v' ((xs.take most).map cutM)) := by
  refine enter2 Tryz.func5 rfl Tryz.ntmps5 rfl ?_
  repeat (first|apply cA|apply cB|apply cD|apply cE|apply cG|refine cV rfl rfl rfl rfl (by first|(apply qas<;>(exact rfl))|fail) ?_)
  refine CG.loop (X := Nat × Value) (fun x => [(0, .slice a xs.length c), (1, .int .i64 (most : Int)), (5, x.2), (6, .int .i64 (x.1 : Int))])
    (fun x w' => x.1 ≤ xs.length ∧ x.1 ≤ most ∧ Kp [] w w' ∧ TxsN w' w.heap.size n x.2 ((xs.take x.1).map cutM)) (fun x => xs.length - x.1) (0, .slice none 0 0) ⟨Nat.zero_le _, Nat.zero_le _, Kp.refl _ _, TxsN.nil⟩ (by (repeat' (first | exact True.intro | exact rfl | refine And.intro ?_ ?_))) ?_
  rintro ⟨i, vr⟩ w1 ⟨hi, him, hk1, hN⟩
  simp only at hi him hN
  refine CG.to [(0, .slice a xs.length c), (1, .int .i64 (most : Int)), (5, vr), (6, .int .i64 (i : Int))] (by (repeat' (first | exact True.intro | exact rfl | refine And.intro ?_ ?_))) ?_
  by_cases h1 : i < xs.length
  rotate_left
  · have g1 : ¬ (i : Int) < (xs.length : Int) := by omega
    have e : xs.take most = xs.take i := by rw [List.take_of_length_le (by omega), List.take_of_length_le (by omega)]
    rw [e]
    repeat (first | first|apply cA|apply cB|apply cD|apply cE|refine cV rfl rfl rfl rfl (by first|((first|apply qmv|apply qpk|apply qls|apply qln)<;>(first|exact rfl|exact dcf (by first|assumption|omega)|fail))|fail) ?_ | refine cX rfl rfl ?_)
    refine dA rfl (by exact rho_of rfl) rfl ?_
    repeat (first|apply cA|apply cB|apply cD|apply cE|apply cH|apply cJ|apply cM|refine cQ rfl ?_|refine cV rfl rfl rfl rfl (by first|((first|apply qmv|apply qas)<;>(exact rfl))|fail) ?_)
    refine ret1 (Or.inl rfl) Tryz.results5 (by first | exact ResV.tmp rfl | exact ResV.agg rfl rfl (by assumption) (by first | exact dc_length _ | exact nc_length _ | exact rc_length _ _ _ | exact ec_length _ | exact dl_length _ _ _ _ | rfl) | exact ResV.cell rfl rfl (by assumption)) ?_
    exact ⟨vr, rfl, hk1, hN⟩
  have g1 : (i : Int) < (xs.length : Int) := by omega
  by_cases h2 : i < most
  rotate_left
  · have g2 : ¬ (i : Int) < (most : Int) := by omega
    have e : i = most := by omega
    subst e
    repeat (first|apply cA|apply cB|apply cD|apply cE|refine cV rfl rfl rfl rfl (by first|((first|apply qmv|apply qpk|apply qls|apply qln)<;>(first|exact rfl|exact dct (by first|assumption|omega)|exact dcf (by first|assumption|omega)|fail))|fail) ?_)
    refine dA rfl (by exact rho_of rfl) rfl ?_
    repeat (first|apply cA|apply cB|apply cD|apply cE|apply cH|apply cJ|apply cM|refine cQ rfl ?_|refine cV rfl rfl rfl rfl (by first|((first|apply qmv|apply qas)<;>(exact rfl))|fail) ?_)
    refine ret1 (Or.inl rfl) Tryz.results5 (by first | exact ResV.tmp rfl | exact ResV.agg rfl rfl (by assumption) (by first | exact dc_length _ | exact nc_length _ | exact rc_length _ _ _ | exact ec_length _ | exact dl_length _ _ _ _ | rfl) | exact ResV.cell rfl rfl (by assumption)) ?_
    exact ⟨vr, rfl, hk1, hN⟩
  have g2 : (i : Int) < (most : Int) := by omega
  have hX1 := hX.kp0 hk1
  obtain ⟨b1, o1, rfl, hri⟩ := hX1.sl.at h1
  have hrd := hX1.rd _ (List.getElem_mem h1)
  have hlen : ((xs.take i).map cutM).length = i := by rw [List.length_map, List.length_take]; omega
  have hsu : (xs.take (i + 1)).map cutM = (xs.take i).map cutM ++ [cutM xs[i]] := by
    rw [List.take_succ_eq_append_getElem h1, List.map_append]
    rfl
  have s1 := hk1.size
  repeat (first|apply cA|apply cB|apply cD|apply cE|refine cV rfl rfl rfl rfl (by first|((first|apply qmv|apply qpk|apply qls|apply qln)<;>(first|exact rfl|exact dct (by first|assumption|omega)|fail))|fail) ?_)
  refine cZ rfl (by exact rho_of rfl) rfl ?_
  repeat (first|apply cA|apply cB|apply cE|apply cF|apply cG|refine cV rfl rfl rfl rfl (by first|((first|apply qmv|apply qla|apply qix)<;>(first|exact rfl|exact Ar.mk (by omega)|assumption|exact List.not_mem_nil|apply txc_length|fail))|fail) ?_)
  refine SG.ret rfl rfl rfl (vs := [txv xs[i]]) (by repeat' (first | exact True.intro | exact rho_of rfl | refine And.intro ?_ ?_)) (cut_spec hrd) (fun w2 hk2 => ?_)
  refine SG.buildSlice rfl rfl rfl rfl (bstx (cutM xs[i])) (fun b6 w3 hk3 hb6 hB6 => ?_)
  have hS6 : Sl txc 13 w3 (some ⟨b6, 0, none⟩) [cutM xs[i]] := sl_one txc_length hB6
  have k13 := hk2.trans hk3
  clear hri
  skip
  refine SG.appO (enc := txc) (xs := (xs.take i).map cutM) (ys := [cutM xs[i]]) (base := w.heap.size) rfl rfl rfl (by exact rho_of rfl) (by exact rho_of rfl) rfl rfl rfl rfl txc_length txc_one (own_kp0 hN.own k13) hS6 (by rw [hlen]; simp only [maxLen, List.length_cons, List.length_nil]; omega) (by rw [hlen]; simp only [List.length_cons, List.length_nil]; show (_ + _) * 80 ≤ _; omega) (by have := k13.size; omega) (fun v' w4 hk4 ho4 hv4 => ?_)
  have hO : Oth n w3 (ownB vr) := Oth.own (own_kp0 hN.own k13) hn (by decide)
  repeat (first|apply cB|apply cD|apply cE|apply cU|refine cV rfl rfl rfl rfl (by first|((first|apply qmv|apply qas|apply qad)<;>(first|exact rfl|exact Ar.mk (by omega)|fail))|fail) ?_)
  refine NG.round (i + 1, v') (by (repeat' (first | exact True.intro | exact rfl | refine And.intro ?_ ?_))) ⟨by simp only; omega, by simp only; omega, (hk1.trans k13).trans_new hk4 (fun z hz => Or.inr (own_geB hN.own z (ownB_mem hz))), ?_⟩ (by simp only; omega)
  simp only
  rw [hsu]
  refine ⟨ho4, fun y hy => ?_⟩
  rcases List.mem_append.1 hy with hy | hy
  · exact ((hN.ins y hy).kp0 k13).kpO hk4 hO
  · rw [List.mem_singleton] at hy
    subst hy
    exact ((cutM_in hrd).kp0 k13).kpO hk4 hO
end Go.Proofs.YtgbgnlboogalgaaGreat
namespace Go.Proofs.YtgbgnlboogalgaaGreat
open Go.ChangeShapes Go.WideShapes Go.ChangeAt Go.RowKit
set_option linter.unusedVariables false
theorem own : ownKnob Tryz.prog.godebug = none := by kernel_rfl
theorem laidOut : laidOutB Tryz.prog = true := by kernel_rfl
theorem cells5 : Tryz.prog.cellsOf 5 = 1 := by kernel_rfl
theorem cells3 : Tryz.prog.cellsOf 3 = 1 := by kernel_rfl
theorem cellsD : Tryz.prog.cellsOf 38 = 8 := by kernel_rfl
theorem cellsB : Tryz.prog.cellsOf 23 = 1 := by kernel_rfl
theorem cellsT : Tryz.prog.cellsOf 40 = 13 := by kernel_rfl
theorem cellsTs : Tryz.prog.cellsOf 22 = 1 := by kernel_rfl
theorem cellsA : Tryz.prog.cellsOf 56 = 3 := by kernel_rfl
theorem fit_of {n : Int} (h : (Lit.int .i64 n).wf = true) : fit64 n := i64_of h
/-- The elements of a slice, by how one is read. -/
theorem elems_of {H α : Type} {en : TypeId × Value → H} {P : Program} {w : World} {e : TypeId} {a : Option Addr} {n : Nat} (enc : α → List Value) (p : α → Prop) (h : SlOf en P w e a n)
    (rd : ∀ cs fuel y, DataW.trod en P w 0 (fun _ => true) true fuel e cs = some y → ∃ x : α, cs = enc x ∧ p x) : ∃ l : List α, l.length = n ∧ Sl enc (P.cellsOf e) w a l ∧ ∀ x ∈ l, p x := by
  have key : ∀ i : _root_.Fin n, ∃ x : α, (∃ b off, a = some ⟨b, off, none⟩ ∧ Row w b (off + i.1 * P.cellsOf e) (enc x)) ∧ p x := by
    intro i
    obtain ⟨b, off, cs, fuel, y, h1, h2, h3, h4⟩ := h.row i.1 i.2
    obtain ⟨x, rfl, hp⟩ := rd cs fuel y h4
    exact ⟨x, ⟨b, off, h1, h2⟩, hp⟩
  refine ⟨List.ofFn (fun i => Classical.choose (key i)), by simp, fun i x hx => ?_, fun x hx => ?_⟩
  · rw [List.getElem?_ofFn] at hx
    split at hx
    · rename_i hi
      cases hx
      exact (Classical.choose_spec (key ⟨i, hi⟩)).1
    · cases hx
  · obtain ⟨i, rfl⟩ := List.mem_ofFn.1 hx
    exact (Classical.choose_spec (key i)).2
theorem cut_drop {α : Type} (l : List α) (a n : Nat) : l.drop a = (l.drop a).take n ++ l.drop (a + n) := by
  rw [← List.drop_drop, List.take_append_drop]
theorem sl_cell {H : Type} {enc : TypeId × Value → H} {P : Program} {w : World} {t e : TypeId} {cs : List Value} {fuel : Nat} {y : DataW H × List MemPlace} (ht : P.underlying t = some (.slice e)) (he : 0 < P.cellsOf e)
    (hf : DataW.trod enc P w 0 (fun _ => true) true fuel t cs = some y) : ∃ a n c, cs = [.slice a n c] ∧ n ≤ c ∧ c ≤ maxLen ∧ SlOf enc P w e a n ∧ (n = 0 ∧ a = none ∨ (∃ b off, a = some ⟨b, off, none⟩) ∨ (n = 0 ∧ c = 0)) := by
  rcases Go.Deep.open_slice ht hf with ⟨hc, _⟩ | ⟨a, len, cap, m, n, D, Pl, hc, _, hl, hm, hmm, _, hall⟩
  · exact ⟨none, 0, 0, hc, by omega, by omega, ⟨fun i hi => by omega⟩, Or.inl ⟨rfl, rfl⟩⟩
  · subst hc
    have hmc : m = cap := by rw [hmm]; simp
    by_cases h0 : cap = 0
    · exact ⟨some a, len, cap, rfl, hl, hm, ⟨fun i hi => by omega⟩, Or.inr (Or.inr ⟨by omega, h0⟩)⟩
    obtain ⟨cs0, h10, _⟩ := hall 0 (by omega)
    obtain ⟨b, off, ha, _, _⟩ := row_of_cells h10 he
    have ha' : a = ⟨b, off, none⟩ := by simpa [Addr.add] using ha
    subst ha'
    refine ⟨some ⟨b, off, none⟩, len, cap, rfl, hl, hm, ⟨fun i hi => ?_⟩, Or.inr (Or.inl ⟨b, off, rfl⟩)⟩
    obtain ⟨cs, h1, h2⟩ := hall i (by omega)
    rw [add_none] at h1
    obtain ⟨b2, off2, hb2, hr, hlen⟩ := row_of_cells h1 he
    cases hb2
    exact ⟨b, off, cs, n, _, rfl, hr, hlen, h2⟩
theorem bytes_of {H : Type} {enc : TypeId × Value → H} {w : World} {a : Option Addr} {n : Nat} (h : SlOf enc Tryz.prog w 5 a n) : ∃ l : List UInt8, l.length = n ∧ Sl by1 1 w a l := by
  obtain ⟨l, h1, h2, _⟩ := elems_of (fun u : UInt8 => [bv u]) (fun _ => True) h (fun cs fuel y hy => by
    obtain ⟨u, hu⟩ := one_byte Tryz.underlying5 hy
    exact ⟨u, hu, trivial⟩)
  rw [cells5] at h2
  exact ⟨l, h1, h2⟩
theorem bs_of {H : Type} {enc : TypeId × Value → H} {w : World} {cs : List Value} {fuel : Nat} {y : DataW H × List MemPlace} (hf : DataW.trod enc Tryz.prog w 0 (fun _ => true) true fuel 23 cs = some y) : ∃ a c l, cs = [.slice a l.length c] ∧ Bs w a c l ∧ Tb w.heap.size w a l := by
  obtain ⟨a, n, c, e, hn, hc, hs, hsp⟩ := sl_cell Tryz.underlying23 (by rw [cells5]; omega) hf
  obtain ⟨l, hl, hS⟩ := bytes_of hs
  subst hl
  have hlt : l ≠ [] → ∀ b off, a = some ⟨b, off, none⟩ → b < w.heap.size := fun hne b off e => hS.ltN hne b off e
  refine ⟨a, c, l, e, ⟨hS, hn, ?_, hlt⟩, ?_⟩
  · rcases hsp with ⟨h1, h2⟩ | h | ⟨h1, h2⟩
    · exact Or.inl ⟨List.eq_nil_of_length_eq_zero h1, h2⟩
    · exact Or.inr (Or.inl h)
    · exact Or.inr (Or.inr ⟨List.eq_nil_of_length_eq_zero h1, h2⟩)
  · by_cases h : l = []
    · exact Or.inl (fun hne => absurd h hne)
    · exact Or.inr (hlt h)
set_option maxRecDepth 100000 in
theorem tx_of {H : Type} {enc : TypeId × Value → H} {w : World} {cs : List Value} {fuel : Nat} {y : DataW H × List MemPlace} (h : DataW.trod enc Tryz.prog w 0 (fun _ => true) true fuel 40 cs = some y) : ∃ x : Tm, cs = txc x ∧ x.Rd w.heap.size w ∧ fit64 x.t.non ∧ fit64 x.t.fee ∧ fit64 x.t.kind := by
  obtain ⟨xs, m, _, _, hl, hlen, hf⟩ := DataW.trod_struct Tryz.underlying40 h
  rw [cellsT] at hl
  match xs, hlen with
  | [y0, y1, y2, y3, y4, y5], _ =>
    have h0 : DataW.trod enc Tryz.prog w 0 (fun _ => true) true m 38 ((cs.drop 0).take (Tryz.prog.cellsOf 38)) = some y0 := hf 0 _ rfl
    have h1 : DataW.trod enc Tryz.prog w 0 (fun _ => true) true m 3 ((cs.drop 8).take (Tryz.prog.cellsOf 3)) = some y1 := hf 1 _ rfl
    have h2 : DataW.trod enc Tryz.prog w 0 (fun _ => true) true m 3 ((cs.drop 9).take (Tryz.prog.cellsOf 3)) = some y2 := hf 2 _ rfl
    have h3 : DataW.trod enc Tryz.prog w 0 (fun _ => true) true m 3 ((cs.drop 10).take (Tryz.prog.cellsOf 3)) = some y3 := hf 3 _ rfl
    have h4 : DataW.trod enc Tryz.prog w 0 (fun _ => true) true m 23 ((cs.drop 11).take (Tryz.prog.cellsOf 23)) = some y4 := hf 4 _ rfl
    have h5 : DataW.trod enc Tryz.prog w 0 (fun _ => true) true m 23 ((cs.drop 12).take (Tryz.prog.cellsOf 23)) = some y5 := hf 5 _ rfl
    rw [cellsD] at h0
    rw [cells3] at h1 h2 h3
    rw [cellsB] at h4 h5
    obtain ⟨d0, e0⟩ := arr_bytes Tryz.underlying38 Tryz.underlying5 cells5 cellsD h0
    obtain ⟨n1, e1, _, f1⟩ := DataW.trod_int Tryz.underlying3 h1
    obtain ⟨n2, e2, _, f2⟩ := DataW.trod_int Tryz.underlying3 h2
    obtain ⟨n3, e3, _, f3⟩ := DataW.trod_int Tryz.underlying3 h3
    obtain ⟨a4, c4, l4, e4, hB4, hT4⟩ := bs_of h4
    obtain ⟨a5, c5, l5, e5, hB5, hT5⟩ := bs_of h5
    refine ⟨⟨⟨d0, n1, n2, n3, l4, l5⟩, a4, c4, a5, c5⟩, ?_, ⟨hB4, hB5, hT4, hT5⟩, fit_of f1, fit_of f2, fit_of f3⟩
    have hd : cs.drop (12 + 1) = [] := List.drop_of_length_le (by omega)
    have e : cs = cs.drop 0 := rfl
    rw [e, cut_drop cs 0 8, e0, cut_drop cs (0 + 8) 1, e1, cut_drop cs (0 + 8 + 1) 1, e2, cut_drop cs (0 + 8 + 1 + 1) 1, e3, cut_drop cs (0 + 8 + 1 + 1 + 1) 1, e4, cut_drop cs (0 + 8 + 1 + 1 + 1 + 1) 1, e5, hd]
    simp [txc, Tm.b, Tm.s]
theorem txs_of {H : Type} {enc : TypeId × Value → H} {w : World} {a : Option Addr} {n : Nat} (h : SlOf enc Tryz.prog w 40 a n) : ∃ l : List Tm, l.length = n ∧ TxsR w w.heap.size a l := by
  obtain ⟨l, h1, h2, h3⟩ := elems_of txc (fun x => x.Rd w.heap.size w) h (fun cs fuel y hy => by
    obtain ⟨x, e, hr, -⟩ := tx_of hy
    exact ⟨x, e, hr⟩)
  rw [cellsT] at h2
  exact ⟨l, h1, h2, h3⟩
end Go.Proofs.YtgbgnlboogalgaaGreat
namespace Go.Proofs.YtgbgnlboogalgaaGreat
open Go.Proofs
set_option linter.unusedVariables false
open Classical in
noncomputable def backS (room h : Int) (s : List En × Int) (t : Tx) : List En × Int := if (s.1.find? (isK t.frm t.non)).isSome then s else (addE room s.1 h t, if addZ room s.1 h t = 0 then s.2 + 1 else s.2)
noncomputable def backL (room : Int) (l : List En) (h : Int) (ts : List Tx) : List En × Int := ts.foldl (backS room h) (l, 0)
theorem backS_inv {room h : Int} {s : List En × Int} {t : Tx} (hi : PInv room s.1) : PInv room (backS room h s t).1 := by
  unfold backS
  split
  · exact hi
  · exact addE_inv hi
theorem backS_n {room h : Int} {s : List En × Int} {t : Tx} : s.2 ≤ (backS room h s t).2 ∧ (backS room h s t).2 ≤ s.2 + 1 := by
  unfold backS
  split
  · omega
  · simp only
    split <;> omega
theorem backF_inv {room h : Int} : ∀ (ts : List Tx) {s : List En × Int}, PInv room s.1 → PInv room (ts.foldl (backS room h) s).1
  | [], _, hi => hi
  | t :: ts, s, hi => backF_inv ts (s := backS room h s t) (backS_inv hi)
theorem backF_n {room h : Int} : ∀ (ts : List Tx) {s : List En × Int}, s.2 ≤ (ts.foldl (backS room h) s).2 ∧ (ts.foldl (backS room h) s).2 ≤ s.2 + ts.length
  | [], s => by simp
  | t :: ts, s => by
    have h1 := backF_n (room := room) (h := h) ts (s := backS room h s t)
    have h2 := backS_n (room := room) (h := h) (s := s) (t := t)
    simp only [List.foldl_cons, List.length_cons]
    omega
theorem backL_inv {room h : Int} {l : List En} {ts : List Tx} (hi : PInv room l) : PInv room (backL room l h ts).1 := backF_inv ts hi
theorem find_isSome (ms : List Em) (k : Dg) (n : Int) : ((ms.map Em.en).find? (isK k n)).isSome = true ↔ ms.findIdx (fun e => isK k n e.en) < ms.length := by
  rw [List.find?_isSome, List.findIdx_lt_length]
  constructor
  · rintro ⟨x, hx, h⟩
    obtain ⟨e, he, rfl⟩ := List.mem_map.1 hx
    exact ⟨e, he, h⟩
  · rintro ⟨e, he, h⟩
    exact ⟨e.en, List.mem_map.2 ⟨e, he, rfl⟩, h⟩
attribute [local irreducible] CG NG SG Vals Der Row Blk MapIs IterAt nameT wrongT
set_option maxHeartbeats 32000000 in
theorem back_spec {w : World} {base p : Nat} {v : Value} {room h : Int} {ms : List Em} (hP : Pl w base p v room ms) (hI : PInv room (ms.map Em.en)) (hr : room ≤ 1024) {a : Option Addr} {c : Nat} {xs : List Tm} (hX : TxsI w base a xs) (hxl : xs.length ≤ 1000000) :
    Calls Tryz.prog 40 #[.pointer (some ⟨p, 0, none⟩), .int .i64 h, .slice a xs.length c] w (fun e w' => e = .returned (.int .i64 (backL room (ms.map Em.en) h (xs.map (·.t))).2) ∧ ∃ v' ms', Pl w' base p v' room ms' ∧ ms'.map Em.en = (backL room (ms.map Em.en) h (xs.map (·.t))).1 ∧ Kp (p :: ownB v) w w' ∧ ∀ g, v'.ownBlock = some g → v.ownBlock = some g ∨ w.heap.size ≤ g) := by
  refine enter3 Tryz.func40 rfl Tryz.ntmps40 rfl ?_
  have hlp := hP.blk.lt
  repeat (first|apply cA|apply cB|apply cD|apply cE|refine cV rfl rfl rfl rfl (by first|((first|apply qep|apply qmv|apply qas|apply qep)<;>(exact rfl))|fail) ?_)
  refine dA rfl (by exact rho_of rfl) rfl ?_
  repeat (first|apply cA|apply cB|apply cD|apply cE|apply cF|apply cG|refine cV rfl rfl rfl rfl (by first|((first|apply qmv|apply qas|apply qln)<;>(exact rfl))|fail) ?_)
  refine CG.loop (X := Nat × (Value × List Em) × Int) (fun x => [(0, .pointer (some ⟨p, 0, none⟩)), (1, .int .i64 h), (7, .int .i64 x.2.2), (12, .slice a xs.length c), (13, .int .i64 (xs.length : Int)), (14, .int .i64 (x.1 : Int))])
    (fun x w' => x.1 ≤ xs.length ∧ Kp (p :: ownB v) w w' ∧ Pl w' base p x.2.1.1 room x.2.1.2 ∧ (x.2.1.2.map Em.en, x.2.2) = ((xs.map (·.t)).take x.1).foldl (backS room h) (ms.map Em.en, 0) ∧ (∀ g, x.2.1.1.ownBlock = some g → v.ownBlock = some g ∨ w.heap.size ≤ g) ∧ TxsI w' base a xs)
    (fun x => xs.length - x.1) (0, (v, ms), 0) ⟨Nat.zero_le _, Kp.refl _ _, hP, rfl, fun g hg => Or.inl hg, hX⟩ (by (repeat' (first | exact True.intro | exact rfl | refine And.intro ?_ ?_))) ?_
  rintro ⟨i, ⟨v1, ms1⟩, n⟩ w1 ⟨hi, hk1, hP1, hs, hv1, hX1⟩
  simp only at hi hP1 hs hv1
  refine CG.to [(0, .pointer (some ⟨p, 0, none⟩)), (1, .int .i64 h), (7, .int .i64 n), (12, .slice a xs.length c), (13, .int .i64 (xs.length : Int)), (14, .int .i64 (i : Int))] (by (repeat' (first | exact True.intro | exact rfl | refine And.intro ?_ ?_))) ?_
  by_cases hlt : i < xs.length
  rotate_left
  · have g1 : ¬ (i : Int) < (xs.length : Int) := by omega
    rw [List.take_of_length_le (by rw [List.length_map]; omega)] at hs
    have e1 : ms1.map Em.en = (backL room (ms.map Em.en) h (xs.map (·.t))).1 := congrArg Prod.fst hs
    have e2 : n = (backL room (ms.map Em.en) h (xs.map (·.t))).2 := congrArg Prod.snd hs
    rw [← e2]
    repeat (first|apply cA|apply cB|apply cD|apply cE|refine cV rfl rfl rfl rfl (by first|(apply qls<;>(first|exact rfl|exact dcf (by first|assumption|omega)|fail))|fail) ?_)
    refine dA rfl (by exact rho_of rfl) rfl ?_
    repeat (first|apply cA|apply cB|apply cD|apply cE|apply cH|apply cJ|apply cM|refine cQ rfl ?_|refine cV rfl rfl rfl rfl (by first|((first|apply qmv|apply qas)<;>(exact rfl))|fail) ?_)
    refine ret1 (Or.inl rfl) Tryz.results40 (by first | exact ResV.tmp rfl | exact ResV.agg rfl rfl (by assumption) (by first | exact dc_length _ | exact nc_length _ | exact rc_length _ _ _ | exact ec_length _ | exact dl_length _ _ _ _ | rfl) | exact ResV.cell rfl rfl (by assumption)) ?_
    exact ⟨rfl, v1, ms1, hP1, e1, hk1, hv1⟩
  have g1 : (i : Int) < (xs.length : Int) := by omega
  have hI1 : PInv room (ms1.map Em.en) := by
    have := backF_inv (room := room) (h := h) ((xs.map (·.t)).take i) (s := (ms.map Em.en, 0)) hI
    rw [← hs] at this
    exact this
  have hn := backF_n (room := room) (h := h) ((xs.map (·.t)).take i) (s := (ms.map Em.en, 0))
  rw [← hs, List.length_take, List.length_map, Nat.min_eq_left (by omega)] at hn
  simp only at hn
  have hll1 : ms1.length ≤ 1024 := by have := hI1.len; rw [List.length_map] at this; omega
  have hs' : ((xs.map (·.t)).take (i + 1)).foldl (backS room h) (ms.map Em.en, 0) = backS room h (ms1.map Em.en, n) xs[i].t := by
    rw [List.take_succ_eq_append_getElem (by simpa using hlt), List.foldl_append, ← hs, List.getElem_map]
    rfl
  have hxi := hX1.ins xs[i] (List.getElem_mem hlt)
  obtain ⟨g, o1, rfl, hri⟩ := hX1.sl.at hlt
  have hsz1 := hP1.base_le
  repeat (first|apply cA|apply cB|apply cD|apply cE|refine cV rfl rfl rfl rfl (by first|(apply qls<;>(first|exact rfl|exact dct (by first|assumption|omega)|fail))|fail) ?_)
  refine cZ rfl (by exact rho_of rfl) rfl ?_
  repeat (first|apply cA|apply cB|apply cE|apply cF|apply cG|refine cV rfl rfl rfl rfl (by first|((first|apply qla|apply qix)<;>(first|exact rfl|exact Ar.mk (by omega)|assumption|exact List.not_mem_nil|apply txc_length|fail))|fail) ?_)
  refine SG.alloc rfl rfl rfl (fun b9 w2 hk2 hb9 hB9 => ?_)
  refine SG.setAll (l := txc xs[i]) rfl rfl (by exact rho_of rfl) (by exact rho_of rfl) hB9 (txc_length _) rfl (txc_one _) (fun w3 hk3 hB9 => ?_)
  have hB9 : Blk w3 b9 (.cells (txc xs[i]).toArray 40) := hB9
  have k13 : Kp [] w1 w3 := hk2.trans_new hk3 (new1 (by omega))
  obtain ⟨q, q0, q1, -⟩ := txc_rows hB9
  clear hri
  have hP3 := hP1.kp0 k13
  clear q
  repeat (first|apply cA|apply cB|apply cD|apply cE|refine cV rfl rfl rfl rfl (by first|((first|apply qmv|apply qlc|apply qla|apply qfa)<;>(first|exact rfl|assumption|exact List.not_mem_nil|apply dc_length))|fail) ?_)
  refine SG.ret rfl rfl rfl (vs := [.pointer (some ⟨p, 0, none⟩), dv xs[i].t.frm, .int .i64 xs[i].t.non]) (by repeat' (first | exact True.intro | exact rho_of rfl | refine And.intro ?_ ?_)) (find_spec hP3 (by omega) xs[i].t.frm xs[i].t.non) (fun w4 hk4 => ?_)
  have k14 := k13.trans hk4
  have hfs := find_isSome ms1 xs[i].t.frm xs[i].t.non
  obtain ⟨q, -⟩ := txc_rows (hB9.kp0 hk4)
  clear q0 q1
  by_cases hf : ms1.findIdx (fun e => isK xs[i].t.frm xs[i].t.non e.en) < ms1.length
  · rw [idxZ_lt hf]
    have g2 : ¬ ((ms1.findIdx (fun e => isK xs[i].t.frm xs[i].t.non e.en) : Nat) : Int) < 0 := by omega
    have e3 : backS room h (ms1.map Em.en, n) xs[i].t = (ms1.map Em.en, n) := by
      unfold backS
      rw [if_pos (hfs.2 hf)]
    rw [e3] at hs'
    generalize ((ms1.findIdx (fun e => isK xs[i].t.frm xs[i].t.non e.en) : Nat) : Int) = zz at g2
    repeat (first | first|apply cD|apply cE|refine cV rfl rfl rfl rfl (by first|((first|apply qmv|apply qpk|apply qls)<;>(first|exact rfl|exact dcf (by first|assumption|omega)|fail))|fail) ?_ | refine cX rfl rfl ?_)
    refine dA rfl (by exact rho_of rfl) rfl ?_
    repeat (first|apply cB|apply cD|apply cE|apply cF|apply cU|refine cV rfl rfl rfl rfl (by first|((first|apply qmv|apply qad)<;>(first|exact rfl|exact Ar.mk (by omega)|fail))|fail) ?_)
    refine NG.round (i + 1, (v1, ms1), n) (by (repeat' (first | exact True.intro | exact rfl | refine And.intro ?_ ?_))) ⟨by simp only; omega, hk1.trans k14.any, hP1.kp0 k14, hs'.symm, hv1, hX1.kp0 k14⟩ (by simp only; omega)
  rw [idxZ_no hf]
  have g2 : (-1 : Int) < 0 := by decide
  have e3 : backS room h (ms1.map Em.en, n) xs[i].t = (addE room (ms1.map Em.en) h xs[i].t, if addZ room (ms1.map Em.en) h xs[i].t = 0 then n + 1 else n) := by
    unfold backS
    rw [if_neg (fun h => hf (hfs.1 h))]
  rw [e3] at hs'
  have hX4 := hX1.kp0 k14
  repeat (first|refine cV rfl rfl rfl rfl (by first|((first|apply qmv|apply qla|apply qls)<;>(first|exact rfl|assumption|exact dct (by first|assumption|omega)|exact List.not_mem_nil|apply txc_length|fail))|fail) ?_)
  refine SG.call rfl rfl rfl (vs := [.pointer (some ⟨p, 0, none⟩), .int .i64 h, txv xs[i]]) (by repeat' (first | exact True.intro | exact rho_of rfl | refine And.intro ?_ ?_)) ((add_spec (h := h) (hP1.kp0 k14) (hX4.ins xs[i] (List.getElem_mem hlt)) hI1 hr).mono (fun e w5 hh => ?_))
  obtain ⟨he, v5, ms5, hP5, hm5, hk5, hv5⟩ := hh
  refine ⟨_, he, ?_⟩
  clear he q
  have s4 := k14.size
  have s1 := hk1.size
  have kk : Kp (p :: ownB v) w w5 := (hk1.trans k14.any).st hk5 (fun z hz => by
    rcases List.mem_cons.1 hz with rfl | hz
    · exact Or.inl List.mem_cons_self
    · rcases hv1 z (ownB_mem hz) with hh | hh
      · exact Or.inl (List.mem_cons_of_mem _ (ownB_of hh))
      · exact Or.inr hh)
  have hX5 := hX4.kpP (hP1.kp0 k14) hk5
  have hv5' : ∀ g, v5.ownBlock = some g → v.ownBlock = some g ∨ w.heap.size ≤ g := fun g hg => by
    rcases hv5 g hg with hh | hh
    · exact hv1 g hh
    · exact Or.inr (by omega)
  by_cases hz : addZ room (ms1.map Em.en) h xs[i].t = 0
  · rw [if_pos hz] at hs'
    rw [hz]
    have h00 : (0 : Int) = 0 := rfl
    repeat (first|apply cD|apply cE|refine cV rfl rfl rfl rfl (by first|((first|apply qpk|apply qei)<;>(first|exact rfl|exact dct (by first|assumption|omega)|fail))|fail) ?_)
    refine cZ rfl (by exact rho_of rfl) rfl ?_
    repeat (first|apply cB|apply cD|apply cE|apply cU|refine cV rfl rfl rfl rfl (by first|((first|apply qmv|apply qas|apply qad)<;>(first|exact rfl|exact Ar.mk (by omega)|fail))|fail) ?_)
    refine NG.round (i + 1, (v5, ms5), n + 1) (by (repeat' (first | exact True.intro | exact rfl | refine And.intro ?_ ?_))) ⟨by simp only; omega, kk, hP5, by simp only; rw [hm5]; exact hs'.symm, hv5', hX5⟩ (by simp only; omega)
  · rw [if_neg hz] at hs'
    generalize addZ room (ms1.map Em.en) h xs[i].t = z at hz
    repeat (first|apply cD|apply cE|refine cV rfl rfl rfl rfl (by first|((first|apply qpk|apply qei)<;>(first|exact rfl|exact dcf (by first|assumption|omega)|fail))|fail) ?_)
    refine dA rfl (by exact rho_of rfl) rfl ?_
    repeat (first|apply cB|apply cD|apply cE|apply cF|apply cU|refine cV rfl rfl rfl rfl (by first|((first|apply qmv|apply qad)<;>(first|exact rfl|exact Ar.mk (by omega)|fail))|fail) ?_)
    refine NG.round (i + 1, (v5, ms5), n) (by (repeat' (first | exact True.intro | exact rfl | refine And.intro ?_ ?_))) ⟨by simp only; omega, kk, hP5, by simp only; rw [hm5]; exact hs'.symm, hv5', hX5⟩ (by simp only; omega)
end Go.Proofs.YtgbgnlboogalgaaGreat
namespace Go.Proofs.YtgbgnlboogalgaaGreat
open Go.Proofs
set_option linter.unusedVariables false
open Classical in
noncomputable def enEq (a b : En) : Bool := decide (a = b)
open Classical in
noncomputable def ensEq (a b : List En) : Bool := decide (a = b)
theorem enEq_t {a b : En} (h : a = b) : enEq a b = true := by simp [enEq, h]
theorem enEq_f {a b : En} (h : a ≠ b) : enEq a b = false := by simp [enEq, h]
theorem ensEq_t {a b : List En} (h : a = b) : ensEq a b = true := by simp [ensEq, h]
theorem ensEq_f {a b : List En} (h : a ≠ b) : ensEq a b = false := by simp [ensEq, h]
theorem ens_ne {l m : List Em} (hlm : l.length = m.length) {i : Nat} (hi : i < l.length) (h : l[i].en ≠ (m[i]'(by omega)).en) : l.map Em.en ≠ m.map Em.en := fun e => by
  have := congrArg (fun x => x[i]?) e
  simp only [List.getElem?_map, List.getElem?_eq_getElem hi, List.getElem?_eq_getElem (show i < m.length by omega), Option.map_some, Option.some.injEq] at this
  exact h this
theorem ens_eq {l m : List Em} (hlm : l.length = m.length) (h : ∀ j (hj : j < l.length) (hj' : j < m.length), l[j].en = m[j].en) : l.map Em.en = m.map Em.en := by
  apply List.ext_getElem?
  intro i
  by_cases hi : i < l.length
  · rw [List.getElem?_map, List.getElem?_map, List.getElem?_eq_getElem hi, List.getElem?_eq_getElem (show i < m.length by omega), Option.map_some, Option.map_some, h i hi (by omega)]
  · rw [List.getElem?_eq_none (by simpa using hi), List.getElem?_eq_none (by rw [List.length_map]; omega)]
attribute [local irreducible] CG NG SG Vals Der Row Blk MapIs IterAt nameT wrongT
set_option maxHeartbeats 32000000 in
theorem clone_spec {w : World} {base p : Nat} {v : Value} {room : Int} {ms : List Em} (hP : Pl w base p v room ms) (hI : PInv room (ms.map Em.en)) (hr : room ≤ 1024) :
    Calls Tryz.prog 41 #[.pointer (some ⟨p, 0, none⟩)] w (fun e w' => ∃ p' v' ms', e = .returned (.pointer (some ⟨p', 0, none⟩)) ∧ w.heap.size ≤ p' ∧ Kp [] w w' ∧ (∀ base', base' ≤ w.heap.size → Pl w' base' p' v' room ms') ∧ ms'.map Em.en = ms.map Em.en) := by
  refine enter1 Tryz.func41 rfl Tryz.ntmps41 rfl ?_
  have hll : ms.length ≤ 1024 := by have := hI.len; rw [List.length_map] at this; omega
  obtain ⟨q0, -⟩ := hP.rows
  repeat (first|apply cA|apply cB|apply cD|apply cE|refine cV rfl rfl rfl rfl (by first|((first|apply qep|apply qmv|apply qas|apply qep)<;>(exact rfl))|fail) ?_)
  refine dA rfl (by exact rho_of rfl) rfl ?_
  repeat (first|apply cA|apply cB|apply cE|apply cF|refine cV rfl rfl rfl rfl (by first|((first|apply qmv|apply qlc|apply qfa|apply qnc)<;>(first|exact rfl|assumption|exact List.not_mem_nil))|fail) ?_)
  refine cV rfl rfl rfl rfl (vals_build rfl (bpool room)) ?_
  refine SG.box rfl rfl rfl (by exact rho_of rfl) (fun p' w1 hk1 hp' hB1 => ?_)
  have hB1 : Blk w1 p' (.cells #[.int .i64 room, .slice none 0 0] 72) := hB1
  clear q0
  have hP1 := hP.kp0 hk1
  obtain ⟨a, c, rfl, hc, hS⟩ := hP1.sl
  obtain ⟨-, q1⟩ := hP1.rows
  repeat (first|apply cA|apply cB|apply cD|apply cE|apply cG|refine cV rfl rfl rfl rfl (by first|((first|apply qmv|apply qas|apply qlc|apply qfa|apply qnc|apply qln)<;>(first|exact rfl|assumption|exact List.not_mem_nil))|fail) ?_)
  clear q1
  refine CG.loop (X := Nat × (Value × List Em)) (fun x => [(3, .pointer (some ⟨p', 0, none⟩)), (17, .slice a ms.length c), (18, .int .i64 (ms.length : Int)), (19, .int .i64 (x.1 : Int))])
    (fun x w' => x.1 ≤ ms.length ∧ Kp [] w w' ∧ Blk w' p' (.cells #[.int .i64 room, x.2.1] 72) ∧ w'.ownsRow w.heap.size 74 22 x.2.1 x.2.2.length (flt ec x.2.2) ∧ (∀ e ∈ x.2.2, e.x.In 0 w') ∧ x.2.2.map Em.en = (ms.map Em.en).take x.1)
    (fun x => ms.length - x.1) (0, (.slice none 0 0, [])) ⟨Nat.zero_le _, hk1, hB1, own_nil, fun e h => (by cases h), rfl⟩ (by (repeat' (first | exact True.intro | exact rfl | refine And.intro ?_ ?_))) ?_
  rintro ⟨i, vr, es⟩ w2 ⟨hi, hk2, hB2, ho2, hin2, hes⟩
  simp only at hi hB2 ho2 hin2 hes
  refine CG.to [(3, .pointer (some ⟨p', 0, none⟩)), (17, .slice a ms.length c), (18, .int .i64 (ms.length : Int)), (19, .int .i64 (i : Int))] (by (repeat' (first | exact True.intro | exact rfl | refine And.intro ?_ ?_))) ?_
  have hel : es.length = i := by
    have := congrArg List.length hes
    rw [List.length_map, List.length_take, List.length_map, Nat.min_eq_left (by omega)] at this
    exact this
  by_cases hlt : i < ms.length
  rotate_left
  · have g1 : ¬ (i : Int) < (ms.length : Int) := by omega
    rw [List.take_of_length_le (by rw [List.length_map]; omega)] at hes
    repeat (first|apply cA|apply cB|apply cD|apply cE|refine cV rfl rfl rfl rfl (by first|(apply qls<;>(first|exact rfl|exact dcf (by first|assumption|omega)|fail))|fail) ?_)
    refine dA rfl (by exact rho_of rfl) rfl ?_
    repeat (first|apply cA|apply cB|apply cD|apply cE|apply cH|apply cJ|apply cM|refine cQ rfl ?_|refine cV rfl rfl rfl rfl (by first|((first|apply qmv|apply qas)<;>(exact rfl))|fail) ?_)
    refine ret1 (Or.inl rfl) Tryz.results41 (by first | exact ResV.tmp rfl | exact ResV.agg rfl rfl (by assumption) (by first | exact dc_length _ | exact nc_length _ | exact rc_length _ _ _ | exact ec_length _ | exact dl_length _ _ _ _ | rfl) | exact ResV.cell rfl rfl (by assumption)) ?_
    exact ⟨p', vr, es, rfl, hp', hk2, fun base' hb => ⟨hB2, own_mono ho2 hb, fun e he => (hin2 e he).mono (Nat.zero_le _), Nat.le_trans hb hp'⟩, hes⟩
  have g1 : (i : Int) < (ms.length : Int) := by omega
  have hP2 := hP.kp0 hk2
  obtain ⟨a', c', e', -, hS2⟩ := hP2.sl
  cases e'
  obtain ⟨g, o1, rfl, hri⟩ := hS2.at hlt
  have hxi := hP2.ins _ (List.getElem_mem hlt)
  have s2 := hk2.size
  repeat (first|apply cA|apply cB|apply cD|apply cE|refine cV rfl rfl rfl rfl (by first|(apply qls<;>(first|exact rfl|exact dct (by first|assumption|omega)|fail))|fail) ?_)
  refine cZ rfl (by exact rho_of rfl) rfl ?_
  repeat (first|apply cA|apply cB|apply cE|apply cF|apply cG|refine cV rfl rfl rfl rfl (by first|((first|apply qla|apply qix)<;>(first|exact rfl|exact Ar.mk (by omega)|assumption|exact List.not_mem_nil|apply ec_length|fail))|fail) ?_)
  refine SG.alloc rfl rfl rfl (fun b5 w3 hk3 hb5 hB5 => ?_)
  refine SG.setAll (l := ec ms[i]) rfl rfl (by exact rho_of rfl) (by exact rho_of rfl) hB5 (ec_length _) rfl (ec_one _) (fun w4 hk4 hB5 => ?_)
  have k24 : Kp [] w2 w4 := hk3.trans_new hk4 (new1 (by omega))
  have r5 : Row w4 b5 0 (ec ms[i]) := Row.all hB5 rfl
  obtain ⟨u0, -, -, -, u4, u5⟩ := ec_rows r5
  simp only [Nat.zero_add] at u4 u5
  clear hri r5
  have hB4 := hB2.kp0 k24
  have ho4 := own_kp0 ho2 k24
  have hin4 : ∀ e ∈ es, e.x.In 0 w4 := fun e he => (hin2 e he).kp0 k24
  have hx4 := hxi.kp0 k24
  have k4 := hk2.trans k24
  have hn4 : p' ∉ ownB vr := fun hm => own_neb ho4 (by decide) hB4 p' (ownB_mem hm) List.mem_cons_self
  obtain ⟨-, qv⟩ : Row w4 p' 0 [.int .i64 room] ∧ Row w4 p' 1 [vr] := ⟨Row.of hB4 [] [vr] rfl rfl, Row.of hB4 [.int .i64 room] [] rfl rfl⟩
  obtain ⟨a2, c2, rfl, -, -⟩ := Sl.own (l := es) ec_length ho4 rfl
  have hSl : ∀ z ∈ ownB (.slice a2 es.length c2), z < w4.heap.size := fun z hz => own_lt ho4 z (ownB_mem hz)
  have hnb5 : b5 ∉ ownB (.slice a2 es.length c2) := fun hm => by
    have := own_lt ho2 b5 (ownB_mem hm)
    omega
  have hO : Oth base w4 (ownB (.slice a2 es.length c2)) := Oth.own ho4 (by have := hP.base_le; omega) (by decide)
  have hO0 : Oth 0 w4 (ownB (.slice a2 es.length c2)) := Oth.own ho4 (Nat.zero_le _) (by decide)
  have s4 := k4.size
  obtain ⟨F', hF'⟩ : ∃ F' : {y : Tm // y.t = ms[i].x.t} → World → Prop, F' = fun y W => y.1.In 0 W ∧ (∀ b off, y.1.a1 = some ⟨b, off, none⟩ → w4.heap.size ≤ b) ∧ (∀ b off, y.1.a2 = some ⟨b, off, none⟩ → w4.heap.size ≤ b) := ⟨_, rfl⟩
  have hst : ∀ y, Stab (ownB (.slice a2 es.length c2)) (F' y) := fun y W W' hk h => by
    rw [hF'] at h ⊢
    obtain ⟨h1, h2, h3⟩ := h
    have n1 : ∀ b off, y.1.a1 = some ⟨b, off, none⟩ → b ∉ ownB (.slice a2 es.length c2) := fun b off e hm => by have := h2 b off e; have := hSl b hm; omega
    have n2 : ∀ b off, y.1.a2 = some ⟨b, off, none⟩ → b ∉ ownB (.slice a2 es.length c2) := fun b off e hm => by have := h3 b off e; have := hSl b hm; omega
    exact ⟨⟨h1.b.kp hk n1, h1.s.kp hk n2, h1.t1.kp hk (fun _ => n1), h1.t2.kp hk (fun _ => n2), h1.l1, h1.l2⟩, h2, h3⟩
  repeat (first|apply cD|apply cE)
  refine CG.tailg mixed 15 [0, 1, 2, 3, 4, 5, 6, 8, 9, 10, 11, 7, 12, 13, 14] [7, 13, 14] (ownB (.slice a2 es.length c2)) (fun w' => w'.ownsRow w.heap.size 74 22 (.slice a2 es.length c2) es.length (flt ec es)) (by kernel_rfl) ho4 (fun _ _ hk h => own_kp0 h hk) ?_
  repeat (refine cY rfl rfl rfl (by first|((first|apply qmv|apply qlc|apply qla|apply qfa|apply qnc)<;>(first|exact rfl|assumption|apply dc_length|apply txc_length))|fail) ?_)
  refine Der.callGR (X := {y : Tm // y.t = ms[i].x.t}) (vs := [txv ms[i].x]) (fun y => txv y.1) F' (fun _ W => W.ownsRow w.heap.size 74 22 (.slice a2 es.length c2) es.length (flt ec es)) rfl rfl rfl rfl (by repeat' (first | exact True.intro | exact rho_of rfl | refine And.intro ?_ ?_)) hst (fun _ _ _ hk h => own_kp0 h hk) (fun _ _ _ h => h) (fun W hk _ hR => (tclone_spec (hx4.kpO hk hO)).mono (fun e W' hh => ?_)) (fun y => ?_)
  · obtain ⟨y, hy, he, hin, hky, g1, g2⟩ := hh
    refine ⟨⟨y, hy⟩, he, ?_, own_kp0 hR hky, hky.any⟩
    rw [hF']
    exact ⟨hin, fun b off e => Nat.le_trans hk.size (g1 b off e), fun b off e => Nat.le_trans hk.size (g2 b off e)⟩
  refine cY rfl rfl rfl (vals_build (vs := [(0, txv y.1), (1, dv (nameT ms[i].x.t)), (2, .int .i64 ms[i].since)]) rfl (fun W => bent W y.1 (nameT ms[i].x.t) ms[i].since)) ?_
  refine Der.buildR (cs := (txc y.1 ++ (dc (nameT ms[i].x.t) ++ [Value.int .i64 ms[i].since])).toArray) (E := 74) rfl rfl rfl rfl rfl (fun W => bsentD y.1 (nameT ms[i].x.t) ms[i].since W) hSl (fun W W' hk h => ⟨trivial, hst y W W' hk h.2⟩) (fun _ _ hk h => own_kp0 h hk) (fun bn => ?_)
  have eec : ec ⟨y.1, ms[i].since⟩ = txc y.1 ++ (dc (nameT ms[i].x.t) ++ [Value.int .i64 ms[i].since]) := by
    have := y.2
    unfold ec
    rw [this]
  refine Der.appendR (base := w.heap.size) (e := 74) (i := Tryz.t74) (f := ty.i74) (v := .slice a2 es.length c2) (nn := es.length) (xs := flt ec es) (b := bn) (off := 0) (m := 1) (c := 1) (news := txc y.1 ++ (dc (nameT ms[i].x.t) ++ [Value.int .i64 ms[i].since])) rfl rfl rfl rfl (by exact rho_of rfl) (by exact rho_of rfl) rfl rfl rfl (fun W hk hF => Row.all hF.2.2 rfl) (by rw [← eec, ec_length]; rfl) (by rw [← eec]; exact ec_one _) (by simp only [maxLen]; omega) (by show (es.length + 1) * 96 ≤ _; omega) s4 (fun _ h => h) (fun W W' hk hF => ⟨⟨trivial, hst y W W' hk hF.1.2⟩, hF.2.1, hF.2.2.kp hk (fun hm => by have := hSl _ hm; have := hF.2.1; omega)⟩) (fun v5 => ?_)
  refine Der.tl (fun w5 hk5 hF ho5 => ?_)
  obtain ⟨⟨⟨-, hFy⟩, -⟩, hv5⟩ := hF
  rw [hF'] at hFy
  have ho5 : w5.ownsRow w.heap.size 74 22 v5 (es ++ [(⟨y.1, ms[i].since⟩ : Em)]).length (flt ec (es ++ [(⟨y.1, ms[i].since⟩ : Em)])) := by
    rw [flt_append, flt_one, eec, List.length_append]
    exact ho5
  have hB5' := hB4.kp hk5 hn4
  have hn5 : ∀ b, v5.ownBlock = some b → b ∉ [p'] := own_neb ho5 (by decide) hB5'
  obtain ⟨a5, c5, rfl, -, -⟩ := Sl.own ec_length ho5 rfl
  clear qv u0 u4 u5
  refine cV rfl rfl rfl rfl (by first|(apply qnc<;>(exact rfl))|fail) ?_
  refine cV rfl rfl rfl rfl (by first|(apply qfa<;>(exact rfl))|fail) ?_
  refine SG.setMid [.int .i64 room] [.slice a2 es.length c2] [] rfl rfl (by exact rho_of rfl) (by exact rho_of rfl) hB5' rfl rfl rfl rfl rfl (fun w6 hk6 hB6 => ?_)
  have hO6 : Oth 0 w5 [p'] := Oth.cons (Nat.zero_le _) (Oth.cells hB5' (by decide)) Oth.nil
  repeat (first|apply cB|apply cD|apply cE|apply cU|refine cV rfl rfl rfl rfl (by first|((first|apply qmv|apply qad)<;>(first|exact rfl|exact Ar.mk (by omega)|fail))|fail) ?_)
  refine NG.round (i + 1, (_, es ++ [(⟨y.1, ms[i].since⟩ : Em)])) (by (repeat' (first | exact True.intro | exact rfl | refine And.intro ?_ ?_))) ⟨by simp only; omega, (k4.trans_new hk5 (fun z hz => Or.inr (own_geB ho4 z (ownB_mem hz)))).trans_new hk6 (new1 hp'), hB6, own_kpB ho5 hk6 hn5, fun e he => ?_, ?_⟩ (by simp only; omega)
  · rcases List.mem_append.1 he with he | he
    · exact ((hin4 e he).kpO hk5 hO0).kpO hk6 hO6
    · rw [List.mem_singleton] at he
      subst he
      exact hFy.1.kpO hk6 hO6
  · simp only
    rw [List.map_append, hes, List.take_succ_eq_append_getElem (by simpa using hlt), List.getElem_map]
    have : Em.en ⟨y.1, ms[i].since⟩ = ms[i].en := by
      unfold Em.en
      rw [y.2]
    simp only [List.map_cons, List.map_nil, this]
set_option maxHeartbeats 16000000 in
theorem same1_spec {w : World} {n m : Nat} {e o : Em} (he : e.x.In n w) (ho : o.x.In m w) : Ret Tryz.prog 68 #[ev e, ev o] w (.bool (enEq e.en o.en)) := by
  refine enter2 Tryz.func68 rfl Tryz.ntmps68 rfl ?_
  repeat (first|apply cA|apply cB)
  refine SG.box rfl rfl rfl (by exact rho_of rfl) (fun b1 w1 hk1 hb1 hB1 => ?_)
  refine SG.box rfl rfl rfl (by exact rho_of rfl) (fun b2 w2 hk2 hb2 hB2 => ?_)
  have hB1 : Blk w1 b1 (.cells (ec e).toArray 74) := hB1
  have hB2 : Blk w2 b2 (.cells (ec o).toArray 74) := hB2
  obtain ⟨q0, -, -, -, -, q5⟩ := ec_rows (Row.all (hB1.kp0 hk2) rfl)
  obtain ⟨r0, -, -, -, -, r5⟩ := ec_rows (Row.all hB2 rfl)
  simp only [Nat.zero_add] at q5 r5
  have k2 := hk1.trans hk2
  by_cases g : e.since = o.since
  case neg =>
    rw [enEq_f (fun h => g (congrArg En.since h))]
    repeat (first | first|apply cA|apply cB|apply cD|apply cE|apply cH|refine cV rfl rfl rfl rfl (by first|((first|apply qmv|apply qas|apply qlc|apply qfa|apply qpk|apply qei)<;>(first|exact rfl|assumption|exact dcf (by first|assumption|omega)|exact List.not_mem_nil|fail))|fail) ?_ | refine cX rfl rfl ?_)
    refine ret1 (Or.inl rfl) Tryz.results68 (by first | exact ResV.tmp rfl | exact ResV.agg rfl rfl (by assumption) (by first | exact dc_length _ | exact nc_length _ | exact rc_length _ _ _ | exact ec_length _ | exact dl_length _ _ _ _ | rfl) | exact ResV.cell rfl rfl (by assumption)) ?_
    exact ⟨rfl, k2⟩
  have e1 : txEq e.x.t o.x.t = enEq e.en o.en := by
    by_cases h : e.x.t = o.x.t
    · rw [txEq_t h, enEq_t (by unfold Em.en; rw [h, g])]
    · rw [txEq_f h, enEq_f (fun hh => h (congrArg En.t hh))]
  rw [← e1]
  repeat (first|apply cA|apply cB|apply cD|apply cE|refine cV rfl rfl rfl rfl (by first|((first|apply qmv|apply qas|apply qlc|apply qla|apply qfa|apply qei)<;>(first|exact rfl|assumption|exact dct (by first|assumption|omega)|exact List.not_mem_nil|apply txc_length|fail))|fail) ?_)
  refine SG.ret rfl rfl rfl (vs := [txv e.x, txv o.x]) (by repeat' (first | exact True.intro | exact rho_of rfl | refine And.intro ?_ ?_)) (tsame_spec (he.kp0 k2) (ho.kp0 k2)) (fun w3 hk3 => ?_)
  repeat (first|apply cD|apply cE|apply cH|refine cV rfl rfl rfl rfl (by first|((first|apply qas|apply qpk)<;>(exact rfl))|fail) ?_)
  refine ret1 (Or.inl rfl) Tryz.results68 (by first | exact ResV.tmp rfl | exact ResV.agg rfl rfl (by assumption) (by first | exact dc_length _ | exact nc_length _ | exact rc_length _ _ _ | exact ec_length _ | exact dl_length _ _ _ _ | rfl) | exact ResV.cell rfl rfl (by assumption)) ?_
  exact ⟨rfl, k2.trans hk3⟩
set_option maxHeartbeats 16000000 in
theorem eqf_spec {w : World} {n1 n2 : Nat} {a b : Option Addr} {l m : List Em} (c d : Nat) (h : Sl ec 22 w a l) (h' : Sl ec 22 w b m) (hl : l.length ≤ 100000) (hp : ∀ e ∈ l, e.x.In n1 w) (hq : ∀ e ∈ m, e.x.In n2 w) : Ret Tryz.prog 67 #[.slice a l.length c, .slice b m.length d, fnv 68 []] w (.bool (ensEq (l.map Em.en) (m.map Em.en))) := by
  refine enter3 Tryz.func67 rfl Tryz.ntmps67 rfl ?_
  by_cases hlen : (l.length : Int) = (m.length : Int)
  case neg =>
    rw [ensEq_f (fun h => hlen (by have := congrArg List.length h; simp only [List.length_map] at this; omega))]
    repeat (first|apply cA|apply cB|apply cD|apply cE|refine cV rfl rfl rfl rfl (by first|((first|apply qmv|apply qas|apply qni|apply qln)<;>(first|exact rfl|exact dcf (by first|assumption|omega)|fail))|fail) ?_)
    refine cZ rfl (by exact rho_of rfl) rfl ?_
    repeat (first|apply cA|apply cB|apply cD|apply cE|apply cH|apply cK|refine cV rfl rfl rfl rfl (by first|(apply qas<;>(exact rfl))|fail) ?_)
    refine ret1 (Or.inl rfl) Tryz.results67 (by first | exact ResV.tmp rfl | exact ResV.agg rfl rfl (by assumption) (by first | exact dc_length _ | exact nc_length _ | exact rc_length _ _ _ | exact ec_length _ | exact dl_length _ _ _ _ | rfl) | exact ResV.cell rfl rfl (by assumption)) ?_
    exact ⟨rfl, Kp.refl _ _⟩
  have hlm : l.length = m.length := by omega
  repeat (first|apply cA|apply cB|apply cD|apply cE|refine cV rfl rfl rfl rfl (by first|((first|apply qmv|apply qas|apply qni|apply qln)<;>(first|exact rfl|exact dct (by first|assumption|omega)|fail))|fail) ?_)
  refine dA rfl (by exact rho_of rfl) rfl ?_
  repeat (first|apply cA|apply cB|apply cD|apply cE|apply cF|apply cG|refine cV rfl rfl rfl rfl (by first|((first|apply qmv|apply qln)<;>(exact rfl))|fail) ?_)
  refine CG.loop (X := Nat) (fun x => [(1, .slice b m.length d), (2, fnv 68 []), (15, .slice a l.length c), (16, .int .i64 (l.length : Int)), (17, .int .i64 (x : Int))])
    (fun x w' => x ≤ l.length ∧ Kp [] w w' ∧ ∀ j (hj : j < l.length) (hj' : j < m.length), j < x → l[j].en = m[j].en)
    (fun x => l.length - x) 0 ⟨Nat.zero_le _, Kp.refl _ _, fun j hj hj' h0 => absurd h0 (Nat.not_lt_zero _)⟩ (by (repeat' (first | exact True.intro | exact rfl | refine And.intro ?_ ?_))) ?_
  rintro i w1 ⟨hi, hk1, hall⟩
  refine CG.to [(1, .slice b m.length d), (2, fnv 68 []), (15, .slice a l.length c), (16, .int .i64 (l.length : Int)), (17, .int .i64 (i : Int))] (by (repeat' (first | exact True.intro | exact rfl | refine And.intro ?_ ?_))) ?_
  by_cases hlt : i < l.length
  rotate_left
  · have g1 : ¬ (i : Int) < (l.length : Int) := by omega
    rw [ensEq_t (ens_eq hlm (fun j hj hj' => hall j hj hj' (by omega)))]
    repeat (first|apply cA|apply cB|apply cD|apply cE|refine cV rfl rfl rfl rfl (by first|(apply qls<;>(first|exact rfl|exact dcf (by first|assumption|omega)|fail))|fail) ?_)
    refine dA rfl (by exact rho_of rfl) rfl ?_
    repeat (first|apply cA|apply cB|apply cD|apply cE|apply cH|apply cJ|apply cM|refine cQ rfl ?_|refine cV rfl rfl rfl rfl (by first|(apply qas<;>(exact rfl))|fail) ?_)
    refine ret1 (Or.inl rfl) Tryz.results67 (by first | exact ResV.tmp rfl | exact ResV.agg rfl rfl (by assumption) (by first | exact dc_length _ | exact nc_length _ | exact rc_length _ _ _ | exact ec_length _ | exact dl_length _ _ _ _ | rfl) | exact ResV.cell rfl rfl (by assumption)) ?_
    exact ⟨rfl, hk1⟩
  have g1 : (i : Int) < (l.length : Int) := by omega
  have g2 : (i : Int) < (m.length : Int) := by omega
  have hlt' : i < m.length := by omega
  obtain ⟨b1, o1, rfl, hr1⟩ := (h.kp0 hk1).at hlt
  repeat (first|apply cA|apply cB|apply cD|apply cE|refine cV rfl rfl rfl rfl (by first|(apply qls<;>(first|exact rfl|exact dct (by first|assumption|omega)|fail))|fail) ?_)
  refine cZ rfl (by exact rho_of rfl) rfl ?_
  repeat (first|apply cA|apply cB|apply cE|apply cF|apply cG|refine cV rfl rfl rfl rfl (by first|((first|apply qmv|apply qla|apply qix)<;>(first|exact rfl|exact Ar.mk (by omega)|assumption|exact List.not_mem_nil|apply ec_length|fail))|fail) ?_)
  refine SG.alloc rfl rfl rfl (fun b8 w2 hk2 hb8 hB8 => ?_)
  repeat (first|refine cV rfl rfl rfl rfl (by first|(apply qas<;>(exact rfl))|fail) ?_)
  refine SG.setAll (l := ec l[i]) rfl rfl (by exact rho_of rfl) (by exact rho_of rfl) hB8 (ec_length _) rfl (ec_one _) (fun w3 hk3 hB8 => ?_)
  have k13 : Kp [] w1 w3 := hk2.trans_new hk3 (new1 (by omega))
  clear hr1
  obtain ⟨b2, o2, rfl, hr2⟩ := ((h'.kp0 hk1).kp0 k13).at hlt'
  repeat (first|apply cA|apply cB|apply cD|apply cE|refine cV rfl rfl rfl rfl (by first|((first|apply qmv|apply qla|apply qix)<;>(first|exact rfl|exact Ar.mk (by omega)|assumption|exact List.not_mem_nil|apply ec_length|fail))|fail) ?_)
  refine SG.alloc rfl rfl rfl (fun b9 w4 hk4 hb9 hB9 => ?_)
  refine SG.setAll (l := ec m[i]) rfl rfl (by exact rho_of rfl) (by exact rho_of rfl) hB9 (ec_length _) rfl (ec_one _) (fun w5 hk5 hB9 => ?_)
  have k35 : Kp [] w3 w5 := hk4.trans_new hk5 (new1 (by omega))
  clear hr2
  have r8 : Row w5 b8 0 (ec l[i]) := (Row.all hB8 rfl).kp0 k35
  have r9 : Row w5 b9 0 (ec m[i]) := Row.all hB9 rfl
  have k5 := (hk1.trans k13).trans k35
  repeat (first|apply cA|apply cB|apply cD|apply cE|refine cV rfl rfl rfl rfl (by first|((first|apply qmv|apply qla)<;>(first|exact rfl|assumption|exact List.not_mem_nil|apply ec_length))|fail) ?_)
  refine SG.retVC (Fn := by infer_instance) (vs := [ev l[i], ev m[i]]) (caps := []) rfl rfl rfl (by exact rho_of rfl) (by repeat' (first | exact True.intro | exact rho_of rfl | refine And.intro ?_ ?_)) (same1_spec ((hp _ (List.getElem_mem hlt)).kp0 k5) ((hq _ (List.getElem_mem hlt')).kp0 k5)) (fun w6 hk6 => ?_)
  by_cases hh : l[i].en = m[i].en
  · rw [enEq_t hh]
    repeat (first|apply cD|apply cE|refine cV rfl rfl rfl rfl (by first|(apply qnt<;>(exact rfl))|fail) ?_)
    refine dA rfl (by exact rho_of rfl) rfl ?_
    repeat (first|apply cB|apply cD|apply cE|apply cF|apply cU|refine cV rfl rfl rfl rfl (by first|((first|apply qmv|apply qad)<;>(first|exact rfl|exact Ar.mk (by omega)|fail))|fail) ?_)
    refine NG.round (i + 1) (by (repeat' (first | exact True.intro | exact rfl | refine And.intro ?_ ?_))) ⟨by omega, k5.trans hk6, fun j hj hj' hlt => ?_⟩ (by omega)
    by_cases e : j = i
    · subst e; exact hh
    · exact hall j hj hj' (by omega)
  · rw [enEq_f hh, ensEq_f (ens_ne hlm hlt hh)]
    repeat (first|apply cD|apply cE|refine cV rfl rfl rfl rfl (by first|(apply qnt<;>(exact rfl))|fail) ?_)
    refine cZ rfl (by exact rho_of rfl) rfl ?_
    repeat (first|apply cA|apply cB|apply cD|apply cE|apply cH|apply cK|apply NG.ret_block|refine cV rfl rfl rfl rfl (by first|(apply qas<;>(exact rfl))|fail) ?_)
    refine ret1 (Or.inl rfl) Tryz.results67 (by first | exact ResV.tmp rfl | exact ResV.agg rfl rfl (by assumption) (by first | exact dc_length _ | exact nc_length _ | exact rc_length _ _ _ | exact ec_length _ | exact dl_length _ _ _ _ | rfl) | exact ResV.cell rfl rfl (by assumption)) ?_
    exact ⟨rfl, k5.trans hk6⟩
set_option maxHeartbeats 16000000 in
theorem same_spec {w : World} {base base' p p' : Nat} {v v' : Value} {room room' : Int} {ms ms' : List Em} (hP : Pl w base p v room ms) (hQ : Pl w base' p' v' room' ms') (hl : ms.length ≤ 1024) :
    Ret Tryz.prog 42 #[.pointer (some ⟨p, 0, none⟩), .pointer (some ⟨p', 0, none⟩)] w (.bool (decide (room = room') && ensEq (ms.map Em.en) (ms'.map Em.en))) := by
  refine enter2 Tryz.func42 rfl Tryz.ntmps42 rfl ?_
  obtain ⟨a, c, rfl, hc, hS⟩ := hP.sl
  obtain ⟨a', c', rfl, hc', hS'⟩ := hQ.sl
  obtain ⟨q0, q1⟩ := hP.rows
  obtain ⟨r0, r1⟩ := hQ.rows
  repeat (first|apply cA|apply cB|apply cD|apply cE|refine cV rfl rfl rfl rfl (by first|((first|apply qep|apply qmv|apply qas|apply qpk|apply qep)<;>(exact rfl))|fail) ?_)
  refine dA rfl (by exact rho_of rfl) rfl ?_
  repeat (first|apply cA|apply cE|apply cF)
  by_cases g : room = room'
  · rw [decide_eq_true g, Bool.true_and]
    refine CG.tail mixed 18 [0, 1, 2, 3, 4, 5, 6, 7, 8, 9, 10, 11, 12, 13, 14, 15, 16, 17] (by kernel_rfl) ?_
    repeat (refine cY rfl rfl rfl (by first|((first|apply qmv|apply qlc|apply qfa|apply qnc|apply qei)<;>(first|exact rfl|assumption|exact dct (by first|assumption|omega)|exact List.not_mem_nil|fail))|fail) ?_)
    refine Der.tl (fun w1 hk1 _ _ => ?_)
    refine SG.ret rfl rfl rfl (vs := [.slice a ms.length c, .slice a' ms'.length c', fnv 68 []]) (by repeat' (first | exact True.intro | exact rho_of rfl | refine And.intro ?_ ?_)) (eqf_spec c c' (hS.kp0 hk1) (hS'.kp0 hk1) (by omega) (fun e he => (hP.ins e he).kp0 hk1) (fun e he => (hQ.ins e he).kp0 hk1)) (fun w2 hk2 => ?_)
    repeat (first|apply cD|apply cE|apply cH|refine cV rfl rfl rfl rfl (by first|((first|apply qas|apply qpk)<;>(exact rfl))|fail) ?_)
    refine ret1 (Or.inl rfl) Tryz.results42 (by first | exact ResV.tmp rfl | exact ResV.agg rfl rfl (by assumption) (by first | exact dc_length _ | exact nc_length _ | exact rc_length _ _ _ | exact ec_length _ | exact dl_length _ _ _ _ | rfl) | exact ResV.cell rfl rfl (by assumption)) ?_
    exact ⟨rfl, hk1.trans hk2⟩
  · rw [decide_eq_false g, Bool.false_and]
    refine CG.tail mixed 18 [0, 1, 2, 3, 4, 5, 6, 7, 8, 9, 10, 11, 12, 13, 14, 15, 16, 17] (by kernel_rfl) ?_
    repeat (first | refine cY rfl rfl rfl (by first|((first|apply qmv|apply qlc|apply qfa|apply qnc|apply qei)<;>(first|exact rfl|assumption|exact dcf (by first|assumption|omega)|exact List.not_mem_nil|fail))|fail) ?_ | refine Der.skip rfl rfl ?_)
    refine Der.tl (fun w1 hk1 _ _ => ?_)
    repeat (first | first|apply cD|apply cE|apply cH|refine cV rfl rfl rfl rfl (by first|((first|apply qas|apply qpk)<;>(exact rfl))|fail) ?_ | refine cX rfl rfl ?_)
    refine ret1 (Or.inl rfl) Tryz.results42 (by first | exact ResV.tmp rfl | exact ResV.agg rfl rfl (by assumption) (by first | exact dc_length _ | exact nc_length _ | exact rc_length _ _ _ | exact ec_length _ | exact dl_length _ _ _ _ | rfl) | exact ResV.cell rfl rfl (by assumption)) ?_
    exact ⟨rfl, hk1⟩
end Go.Proofs.YtgbgnlboogalgaaGreat
namespace Go.Proofs.YtgbgnlboogalgaaGreat
open Go.Proofs
set_option linter.unusedVariables false
abbrev bcv (b : Bool) : Value := .bool b
/-- Left out: of a key, from a number on. -/
def exB (L : List (Dg × Int)) (e : En) : Bool := L.any (fun p => decide (p.1 = e.key ∧ p.2 ≤ e.non))
def outL (l : List En) (ns : List Dg) : List (Dg × Int) := (l.filter (fun e => decide (nameT e.t ∈ ns))).map pairE
/-- How many are left to be taken, when so many might have been. -/
def leftZ (most : Int) (c : Nat) : Int := if most ≤ c then (if most ≤ 0 then most else 0) else most - c
def cntN (q : Nat → Bool) (pre : List Nat) : Nat := (pre.filter q).length
def takeG (q : Nat → Bool) (most : Int) (pre : List Nat) (j : Nat) : Bool := q j && decide ((cntN q pre : Int) < most)
attribute [local irreducible] CG NG SG Vals Der Row Blk MapIs IterAt nameT wrongT
end Go.Proofs.YtgbgnlboogalgaaGreat
namespace Go.Proofs.YtgbgnlboogalgaaGreat
open Go.Proofs
set_option linter.unusedVariables false
def keyD (k : UInt8) : Dg := ⟨[k, 0, 0, 0, 0, 0, 0, 0], rfl⟩
def oneT (k : UInt8) (n f : Int) : Tx := ⟨keyD k, n, f, 2, [], []⟩
def oneM (k : UInt8) (n f : Int) : Tm := ⟨oneT k n f, none, 0, none, 0⟩
theorem oneM_in (k : UInt8) (n f : Int) (m : Nat) (w : World) : (oneM k n f).In m w :=
  ⟨Bs.nil, Bs.nil, Or.inr (fun _ _ e => by cases e), Or.inr (fun _ _ e => by cases e), Nat.zero_le _, Nat.zero_le _⟩
theorem wrong_one {k : UInt8} {n f : Int} (h0 : 0 ≤ n) (h1 : n ≤ 1099511627776) (h2 : 0 ≤ f) (h3 : f ≤ 1125899906842624) : wrongT (oneT k n f) = 0 := by
  unfold wrongT
  rw [if_pos ⟨h0, h1, h2, h3, (by show (0 : Int) ≤ 2; decide), (by show (2 : Int) ≤ 2; decide), Nat.zero_le _, Nat.zero_le _⟩, if_neg (by show ¬ (2 : Int) = 0; decide)]
theorem addE_new {room h : Int} {l : List En} {t : Tx} (h1 : ¬ (h < 0 ∨ 1099511627776 < h)) (h2 : wrongT t = 0) (h3 : l.find? (isK t.frm t.non) = none) (h4 : (l.length : Int) < room) : addZ room l h t = 0 ∧ addE room l h t = l ++ [⟨t, h⟩] := by
  have hz := addZ_ok (room := room) h1 h2 h3 (by omega)
  refine ⟨hz, ?_⟩
  unfold addE
  rw [if_pos hz]
  unfold addL
  rw [erase_none h3]
def e1 : En := ⟨oneT 1 0 1, 3⟩
def e2 : En := ⟨oneT 1 1 9, 3⟩
def e3 : En := ⟨oneT 2 0 5, 3⟩
theorem ord_known : ordE [e1, e2, e3] = [e3, e1, e2] := by
  refine Ord.eq ?_
  have hb : ∀ l, e1 ∈ l → ¬ Frst En.key En.non l e2 := fun l h hf => by
    have := hf e1 h (by decide)
    revert this
    decide
  refine .step [e1, e2] e3 [] _ ⟨fun o ho hk => ?_, fun o ho hf => ?_, fun o ho hf => ?_⟩ (.step [] e1 [e2] _ ⟨fun o ho hk => ?_, fun o ho hf => ?_, fun o ho hf => (by cases ho)⟩ (.step [] e2 [] _ ⟨fun o ho hk => ?_, fun o ho hf => ?_, fun o ho hf => (by cases ho)⟩ .nil))
  · simp only [List.cons_append, List.nil_append, List.mem_cons, List.not_mem_nil, or_false] at ho
    rcases ho with rfl | rfl | rfl
    · exact absurd hk (by decide)
    · exact absurd hk (by decide)
    · exact Int.le_refl _
  · have ho' := ho
    simp only [List.cons_append, List.nil_append, List.mem_cons, List.not_mem_nil, or_false] at ho
    rcases ho with rfl | rfl | rfl
    · decide
    · exact absurd hf (hb _ (by simp))
    · exact Int.le_refl _
  · simp only [List.mem_cons, List.not_mem_nil, or_false] at ho
    rcases ho with rfl | rfl
    · decide
    · exact absurd hf (hb _ (by simp))
  · simp only [List.nil_append, List.mem_cons, List.not_mem_nil, or_false] at ho
    rcases ho with rfl | rfl
    · exact Int.le_refl _
    · decide
  · simp only [List.nil_append, List.mem_cons, List.not_mem_nil, or_false] at ho
    rcases ho with rfl | rfl
    · exact Int.le_refl _
    · exact absurd hf (hb _ (by simp))
  · simp only [List.nil_append, List.mem_cons, List.not_mem_nil, or_false] at ho
    subst ho
    exact Int.le_refl _
  · simp only [List.nil_append, List.mem_cons, List.not_mem_nil, or_false] at ho
    subst ho
    exact Int.le_refl _
theorem map3 {xs : List Tm} {a b c : Tx} (h : xs.map (·.t) = [a, b, c]) : ∃ x y z, xs = [x, y, z] ∧ x.t = a ∧ y.t = b ∧ z.t = c := by
  cases xs with
  | nil => cases h
  | cons x xs =>
    cases xs with
    | nil => cases h
    | cons y xs =>
      cases xs with
      | nil => cases h
      | cons z xs =>
        cases xs with
        | nil =>
          simp only [List.map_cons, List.map_nil, List.cons.injEq, and_true] at h
          exact ⟨x, y, z, rfl, h.1, h.2.1, h.2.2⟩
        | cons u xs => simp at h
theorem must5 : (([e3, e1, e2].filter (upB (dueL [e1, e2, e3] 5 2))).map (·.t)).length = 0 := by rw [List.length_map]; decide
theorem must6 : (([e3, e1, e2].filter (upB (dueL [e1, e2, e3] 6 2))).map (·.t)).length = 3 := by rw [List.length_map]; decide
theorem bkey (k : UInt8) (w : World) : (Instr.build 38 #[(0, bv k)]).run Tryz.prog w = .ok (dv (keyD k)) w := by kernel_rfl
theorem bone (k : UInt8) (n f : Int) (w : World) : (Instr.build 40 #[(0, dv (keyD k)), (1, .int .i64 n), (2, .int .i64 f), (3, .int .i64 2)]).run Tryz.prog w = .ok (txv (oneM k n f)) w := by kernel_rfl
theorem bbnd (l : Int) (w : World) : (Instr.build 83 #[(1, .int .i64 l)]).run Tryz.prog w = .ok (.agg #[.int .i64 0, .int .i64 l, .int .i64 0]) w := by kernel_rfl
attribute [local irreducible] CG NG SG Vals Der Row Blk MapIs IterAt DerX DerR wrongT nameT
set_option maxHeartbeats 16000000 in
theorem one_spec (k : UInt8) (n f : Int) (w : World) : Ret Tryz.prog 31 #[bv k, .int .i64 n, .int .i64 f] w (txv (oneM k n f)) := by
  refine enter3 Tryz.func31 rfl Tryz.ntmps31 rfl ?_
  repeat (first|apply cA|apply cB)
  refine SG.alloc rfl rfl rfl (fun b2 w2 hk2 hb2 hB2 => ?_)
  have hB2 : Blk w2 b2 (.cells (txc ⟨⟨zd, 0, 0, 0, [], []⟩, none, 0, none, 0⟩).toArray 40) := hB2
  repeat (first|apply cA|apply cB|apply cD|apply cE|refine cV rfl rfl rfl rfl (by first|(apply qmv<;>(exact rfl))|fail) ?_)
  refine cV rfl rfl rfl rfl (vals_build rfl (bkey k)) ?_
  repeat (first|refine cV rfl rfl rfl rfl (by first|(apply qmv<;>(exact rfl))|fail) ?_)
  refine cV rfl rfl rfl rfl (vals_build rfl (bone k n f)) ?_
  refine SG.setAll (l := txc (oneM k n f)) rfl rfl (by exact rho_of rfl) (by exact rho_of rfl) hB2 (txc_length _) rfl (txc_one _) (fun w3 hk3 hB2 => ?_)
  have hr : Row w3 b2 0 (txc (oneM k n f)) := Row.all hB2 rfl
  repeat (first|apply cD|apply cE|apply cH)
  refine ret1 (Or.inl rfl) Tryz.results31 (ResV.agg rfl rfl hr (txc_length _)) ?_
  exact ⟨rfl, hk2.trans_new hk3 (new1 (by omega))⟩
set_option maxHeartbeats 32000000 in
theorem known_spec (w : World) : Ret Tryz.prog 15 #[] w (.bool true) := by
  refine enter0 Tryz.func15 rfl Tryz.ntmps15 ?_
  have h00 : (0 : Int) = 0 := rfl
  have hnn : ∀ (b : Nat), True := fun _ => trivial
  have a1 := addE_new (room := 4) (h := 3) (l := []) (t := oneT 1 0 1) (by decide) (wrong_one (by decide) (by decide) (by decide) (by decide)) rfl (by decide)
  have a2 := addE_new (room := 4) (h := 3) (l := [e1]) (t := oneT 1 1 9) (by decide) (wrong_one (by decide) (by decide) (by decide) (by decide)) rfl (by decide)
  have a3 := addE_new (room := 4) (h := 3) (l := [e1, e2]) (t := oneT 2 0 5) (by decide) (wrong_one (by decide) (by decide) (by decide) (by decide)) rfl (by decide)
  have i0 : PInv 4 [] := inv_nil (by decide)
  have i1 : PInv 4 [e1] := by
    have := addE_inv (h := 3) (t := oneT 1 0 1) i0
    rw [a1.2] at this
    exact this
  have i2 : PInv 4 [e1, e2] := by
    have := addE_inv (h := 3) (t := oneT 1 1 9) i1
    rw [a2.2] at this
    exact this
  have i3 : PInv 4 [e1, e2, e3] := by
    have := addE_inv (h := 3) (t := oneT 2 0 5) i2
    rw [a3.2] at this
    exact this
  repeat (first|apply cA|apply cB|apply cD|apply cE|refine cV rfl rfl rfl rfl (by first|(apply qas<;>(exact rfl))|fail) ?_)
  refine SG.call rfl rfl rfl (vs := [.int .i64 4]) (by repeat' (first | exact True.intro | exact rho_of rfl | refine And.intro ?_ ?_)) ((new_spec (w := w) (room := 4) (by omega) (by omega)).mono (fun e w1 hh => ?_))
  obtain ⟨p, he, hp, hk1, hP⟩ := hh
  refine ⟨_, he, ?_⟩
  clear he
  have hP := hP w.heap.size (Nat.le_refl _)
  repeat (first|apply cA|apply cB|apply cD|apply cE|refine cV rfl rfl rfl rfl (by first|((first|apply qep|apply qmv|apply qas|apply qpk|apply qni|apply qxt|apply qep)<;>(first|exact rfl|exact dct (by first|assumption|omega)|fail))|fail) ?_)
  refine SG.ret rfl rfl rfl (vs := [bv 1, .int .i64 0, .int .i64 1]) (by repeat' (first | exact True.intro | exact rho_of rfl | refine And.intro ?_ ?_)) (one_spec 1 0 1 w1) (fun w2 hk2 => ?_)
  have hP2 := hP.kp0 hk2
  refine SG.call rfl rfl rfl (vs := [.pointer (some ⟨p, 0, none⟩), .int .i64 3, txv (oneM 1 0 1)]) (by repeat' (first | exact True.intro | exact rho_of rfl | refine And.intro ?_ ?_)) ((add_spec (h := 3) hP2 (oneM_in 1 0 1 _ _) i0 (by omega)).mono (fun e w3 hh => ?_))
  obtain ⟨he, v3, ms3, hP3, hm3, hk3, hv3⟩ := hh
  rw [show addZ 4 (List.map Em.en []) 3 (oneM 1 0 1).t = 0 from a1.1] at he
  rw [show addE 4 (List.map Em.en []) 3 (oneM 1 0 1).t = [e1] from a1.2] at hm3
  refine ⟨_, he, ?_⟩
  clear he
  have k3 : Kp [] w w3 := (hk1.trans hk2).trans_new hk3 (fun z hz => by
    rcases List.mem_cons.1 hz with rfl | hz
    · exact Or.inr hp
    · exact absurd (ownB_mem hz) (fun h => by cases h))
  have g3 : ∀ g, v3.ownBlock = some g → w.heap.size ≤ g := fun g hg => own_geB hP3.own g hg
  repeat (first|refine cV rfl rfl rfl rfl (by first|((first|apply qmv|apply qpk|apply qni)<;>(first|exact rfl|exact dct (by first|assumption|omega)|fail))|fail) ?_)
  refine SG.ret rfl rfl rfl (vs := [bv 1, .int .i64 1, .int .i64 9]) (by repeat' (first | exact True.intro | exact rho_of rfl | refine And.intro ?_ ?_)) (one_spec 1 1 9 w3) (fun w4 hk4 => ?_)
  have hP4 := hP3.kp0 hk4
  refine SG.call rfl rfl rfl (vs := [.pointer (some ⟨p, 0, none⟩), .int .i64 3, txv (oneM 1 1 9)]) (by repeat' (first | exact True.intro | exact rho_of rfl | refine And.intro ?_ ?_)) ((add_spec (h := 3) hP4 (oneM_in 1 1 9 _ _) (by rw [hm3]; exact i1) (by omega)).mono (fun e w5 hh => ?_))
  obtain ⟨he, v5, ms5, hP5, hm5, hk5, hv5⟩ := hh
  rw [hm3, show addZ 4 [e1] 3 (oneM 1 1 9).t = 0 from a2.1] at he
  rw [hm3, show addE 4 [e1] 3 (oneM 1 1 9).t = [e1, e2] from a2.2] at hm5
  refine ⟨_, he, ?_⟩
  clear he
  have k5 : Kp [] w w5 := (k3.trans hk4).trans_new hk5 (fun z hz => by
    rcases List.mem_cons.1 hz with rfl | hz
    · exact Or.inr hp
    · exact Or.inr (g3 z (ownB_mem hz)))
  have g5 : ∀ g, v5.ownBlock = some g → w.heap.size ≤ g := fun g hg => own_geB hP5.own g hg
  repeat (first|refine cV rfl rfl rfl rfl (by first|((first|apply qmv|apply qpk|apply qni)<;>(first|exact rfl|exact dct (by first|assumption|omega)|fail))|fail) ?_)
  refine SG.ret rfl rfl rfl (vs := [bv 2, .int .i64 0, .int .i64 5]) (by repeat' (first | exact True.intro | exact rho_of rfl | refine And.intro ?_ ?_)) (one_spec 2 0 5 w5) (fun w6 hk6 => ?_)
  have hP6 := hP5.kp0 hk6
  refine SG.call rfl rfl rfl (vs := [.pointer (some ⟨p, 0, none⟩), .int .i64 3, txv (oneM 2 0 5)]) (by repeat' (first | exact True.intro | exact rho_of rfl | refine And.intro ?_ ?_)) ((add_spec (h := 3) hP6 (oneM_in 2 0 5 _ _) (by rw [hm5]; exact i2) (by omega)).mono (fun e w7 hh => ?_))
  obtain ⟨he, v7, ms7, hP7, hm7, hk7, hv7⟩ := hh
  rw [hm5, show addZ 4 [e1, e2] 3 (oneM 2 0 5).t = 0 from a3.1] at he
  rw [hm5, show addE 4 [e1, e2] 3 (oneM 2 0 5).t = [e1, e2, e3] from a3.2] at hm7
  refine ⟨_, he, ?_⟩
  clear he
  have k7 : Kp [] w w7 := (k5.trans hk6).trans_new hk7 (fun z hz => by
    rcases List.mem_cons.1 hz with rfl | hz
    · exact Or.inr hp
    · exact Or.inr (g5 z (ownB_mem hz)))
  have i7 : PInv 4 (ms7.map Em.en) := by rw [hm7]; exact i3
  repeat (first|apply cD|apply cE|refine cV rfl rfl rfl rfl (by first|((first|apply qpk|apply qni)<;>(first|exact rfl|exact dct (by first|assumption|omega)|fail))|fail) ?_)
  refine dA rfl (by exact rho_of rfl) rfl ?_
  repeat (first|apply cA|apply cB|apply cE|apply cF|refine cV rfl rfl rfl rfl (by first|(apply qmv<;>(exact rfl))|fail) ?_)
  refine SG.call rfl rfl rfl (vs := [.pointer (some ⟨p, 0, none⟩)]) (by repeat' (first | exact True.intro | exact rho_of rfl | refine And.intro ?_ ?_)) ((all_spec hP7 i7 (by omega)).mono (fun e w8 hh => ?_))
  obtain ⟨v8, xs, he, hk8, hX, hxs⟩ := hh
  refine ⟨_, he, ?_⟩
  clear he
  rw [hm7, ord_known] at hxs
  obtain ⟨x1, x2, x3, rfl, t1, t2, t3⟩ := map3 hxs
  have t1 : x1.t = (oneM 2 0 5).t := t1
  have t2 : x2.t = (oneM 1 0 1).t := t2
  have t3 : x3.t = (oneM 1 1 9).t := t3
  obtain ⟨a, c, rfl, hc, hS⟩ := hX.sl
  have in1 := hX.ins x1 (by simp)
  have in2 := hX.ins x2 (by simp)
  have in3 := hX.ins x3 (by simp)
  obtain ⟨b, o, rfl, r1⟩ := hS.at (i := 0) (by simp)
  have r2 : Row w8 b (o + 1 * 13) (txc x2) := hS.row (i := 1) rfl
  have r3 : Row w8 b (o + 2 * 13) (txc x3) := hS.row (i := 2) rfl
  have r1 : Row w8 b (o + 0 * 13) (txc x1) := r1
  have gl : (([x1, x2, x3] : List Tm).length : Int) = 3 := rfl
  have hP8 := hP7.kp0 hk8
  repeat (first|apply cA|apply cD|apply cE|refine cV rfl rfl rfl rfl (by first|(apply qas<;>(exact rfl))|fail) ?_)
  refine CG.tailg mixed 34 [0, 1, 2, 3, 4, 5, 6, 7, 8, 9, 10, 11, 12, 13, 14, 15, 16, 17, 18, 19, 20, 21, 22, 23, 24, 25, 26, 27, 28, 29, 30, 31, 32, 33] [27] [] (fun _ => True) (by kernel_rfl) trivial (fun _ _ _ _ => trivial) ?_
  repeat (refine cY rfl rfl rfl (by first|((first|apply qmv|apply qla|apply qic|apply qei|apply qln)<;>(first|exact rfl|exact Ar.mk (by omega)|assumption|exact dct (by first|assumption|omega)|exact List.not_mem_nil|apply txc_length|fail))|fail) ?_)
  refine Der.call rfl rfl rfl (vs := [bv 2, .int .i64 0, .int .i64 5]) (by repeat' (first | exact True.intro | exact rho_of rfl | refine And.intro ?_ ?_)) (fun W hk _ => one_spec 2 0 5 W) ?_
  refine Der.call rfl rfl rfl (vs := [txv x1, txv (oneM 2 0 5)]) (v := .bool true) (by repeat' (first | exact True.intro | exact rho_of rfl | refine And.intro ?_ ?_)) (fun W hk _ => by have := tsame_spec (in1.kp0 hk) (oneM_in 2 0 5 0 W); rw [txEq_t t1] at this; exact this) ?_
  repeat (refine cY rfl rfl rfl (by first|((first|apply qmv|apply qla|apply qic|apply qpk)<;>(first|exact rfl|exact Ar.mk (by omega)|assumption|exact List.not_mem_nil|apply txc_length|fail))|fail) ?_)
  refine Der.call rfl rfl rfl (vs := [bv 1, .int .i64 0, .int .i64 1]) (by repeat' (first | exact True.intro | exact rho_of rfl | refine And.intro ?_ ?_)) (fun W hk _ => one_spec 1 0 1 W) ?_
  refine Der.call rfl rfl rfl (vs := [txv x2, txv (oneM 1 0 1)]) (v := .bool true) (by repeat' (first | exact True.intro | exact rho_of rfl | refine And.intro ?_ ?_)) (fun W hk _ => by have := tsame_spec (in2.kp0 hk) (oneM_in 1 0 1 0 W); rw [txEq_t t2] at this; exact this) ?_
  repeat (refine cY rfl rfl rfl (by first|((first|apply qmv|apply qla|apply qic|apply qpk)<;>(first|exact rfl|exact Ar.mk (by omega)|assumption|exact List.not_mem_nil|apply txc_length|fail))|fail) ?_)
  refine Der.call rfl rfl rfl (vs := [bv 1, .int .i64 1, .int .i64 9]) (by repeat' (first | exact True.intro | exact rho_of rfl | refine And.intro ?_ ?_)) (fun W hk _ => one_spec 1 1 9 W) ?_
  refine Der.call rfl rfl rfl (vs := [txv x3, txv (oneM 1 1 9)]) (v := .bool true) (by repeat' (first | exact True.intro | exact rho_of rfl | refine And.intro ?_ ?_)) (fun W hk _ => by have := tsame_spec (in3.kp0 hk) (oneM_in 1 1 9 0 W); rw [txEq_t t3] at this; exact this) ?_
  repeat (refine cY rfl rfl rfl (by first|((first|apply qmv|apply qpk)<;>(exact rfl))|fail) ?_)
  refine cY rfl rfl rfl (vals_build rfl (bbnd 2)) ?_
  refine Der.callG (X := Option Addr × Nat) (vs := [.pointer (some ⟨p, 0, none⟩), .int .i64 5, .agg #[.int .i64 0, .int .i64 2, .int .i64 0]]) (fun q => .slice q.1 0 q.2) (fun _ _ => True) rfl rfl rfl rfl (by repeat' (first | exact True.intro | exact rho_of rfl | refine And.intro ?_ ?_)) (fun _ _ _ _ _ => trivial) (fun _ _ _ _ => trivial) (fun W hk _ => (must_spec (h := 5) (f := 0) (l := 2) (s := 0) (hP8.kp0 hk) i7 (by omega) ⟨by decide, by decide⟩ ⟨by decide, by decide⟩).mono (fun e W' hh => ?_)) (fun q => ?_)
  · obtain ⟨v', ys, he, hk', hY, hys⟩ := hh
    have hyl : ys.length = 0 := by
      have := congrArg List.length hys
      rw [hm7, ord_known, must5, List.length_map] at this
      exact this
    obtain ⟨a', c', rfl, -, -⟩ := hY.sl
    rw [hyl] at he
    exact ⟨(a', c'), he, trivial, hk'⟩
  repeat (refine cY rfl rfl rfl (by first|((first|apply qmv|apply qpk|apply qei|apply qln)<;>(first|exact rfl|exact dct (by first|assumption|omega)|fail))|fail) ?_)
  refine cY rfl rfl rfl (vals_build rfl (bbnd 2)) ?_
  refine Der.tl (fun w9 hk9 _ _ => ?_)
  refine SG.call rfl rfl rfl (vs := [.pointer (some ⟨p, 0, none⟩), .int .i64 6, .agg #[.int .i64 0, .int .i64 2, .int .i64 0]]) (by repeat' (first | exact True.intro | exact rho_of rfl | refine And.intro ?_ ?_)) ((must_spec (h := 6) (f := 0) (l := 2) (s := 0) (hP8.kp0 hk9) i7 (by omega) ⟨by decide, by decide⟩ ⟨by decide, by decide⟩).mono (fun e w10 hh => ?_))
  obtain ⟨v', ys, he, hk', hY, hys⟩ := hh
  have hyl : ys.length = 3 := by
    have := congrArg List.length hys
    rw [hm7, ord_known, must6, List.length_map] at this
    exact this
  obtain ⟨a', c', rfl, -, -⟩ := hY.sl
  rw [hyl] at he
  refine ⟨_, he, ?_⟩
  repeat (first|apply cD|apply cE|apply cH|refine cV rfl rfl rfl rfl (by first|((first|apply qas|apply qpk|apply qei|apply qln)<;>(first|exact rfl|exact dct (by first|assumption|omega)|fail))|fail) ?_)
  refine ret1 (Or.inl rfl) Tryz.results15 (by first | exact ResV.tmp rfl | exact ResV.agg rfl rfl (by assumption) (by first | exact dc_length _ | exact nc_length _ | exact rc_length _ _ _ | exact ec_length _ | exact dl_length _ _ _ _ | rfl) | exact ResV.cell rfl rfl (by assumption)) ?_
  exact ⟨rfl, ((k7.trans hk8).trans hk9).trans hk'⟩
end Go.Proofs.YtgbgnlboogalgaaGreat
namespace Go.Proofs.YtgbgnlboogalgaaGreat
open Go.Proofs
set_option linter.unusedVariables false
/-- An act in memory. -/
structure Am where
  kind : Int
  h : Int
  a : Option Addr
  c : Nat
  xs : List Tm
def amc (x : Am) : List Value := [.int .i64 x.kind, .int .i64 x.h, .slice x.a x.xs.length x.c]
def amv (x : Am) : Value := .agg (amc x).toArray
theorem amc_rows {w : World} {b : Nat} {T : TypeId} {x : Am} (h : Blk w b (.cells (amc x).toArray T)) : Row w b 0 [.int .i64 x.kind] ∧ Row w b 1 [.int .i64 x.h] ∧ Row w b 2 [.slice x.a x.xs.length x.c] :=
  ⟨Row.of h [] [.int .i64 x.h, .slice x.a x.xs.length x.c] rfl rfl, Row.of h [.int .i64 x.kind] [.slice x.a x.xs.length x.c] rfl rfl, Row.of h [.int .i64 x.kind, .int .i64 x.h] [] rfl rfl⟩
attribute [local irreducible] CG NG SG Vals Der Row Blk MapIs IterAt DerX DerR wrongT nameT
end Go.Proofs.YtgbgnlboogalgaaGreat
namespace Go.Proofs.YtgbgnlboogalgaaGreat
open Go.ChangeShapes Go.WideShapes Go.ChangeAt Go.RowKit
set_option linter.unusedVariables false
set_option maxRecDepth 100000 in
theorem am_of {H : Type} {enc : TypeId × Value → H} {w : World} {cs : List Value} {fuel : Nat} {y : DataW H × List MemPlace} (h : DataW.trod enc Tryz.prog w 0 (fun _ => true) true fuel 56 cs = some y) : ∃ x : Am, cs = amc x ∧ TxsR w w.heap.size x.a x.xs ∧ fit64 x.kind ∧ fit64 x.h := by
  obtain ⟨xs, m, _, _, hl, hlen, hf⟩ := DataW.trod_struct Tryz.underlying56 h
  rw [cellsA] at hl
  match xs, hlen with
  | [y0, y1, y2], _ =>
    have h0 : DataW.trod enc Tryz.prog w 0 (fun _ => true) true m 3 ((cs.drop 0).take (Tryz.prog.cellsOf 3)) = some y0 := hf 0 _ rfl
    have h1 : DataW.trod enc Tryz.prog w 0 (fun _ => true) true m 3 ((cs.drop 1).take (Tryz.prog.cellsOf 3)) = some y1 := hf 1 _ rfl
    have h2 : DataW.trod enc Tryz.prog w 0 (fun _ => true) true m 22 ((cs.drop 2).take (Tryz.prog.cellsOf 22)) = some y2 := hf 2 _ rfl
    rw [cells3] at h0 h1
    rw [cellsTs] at h2
    obtain ⟨n0, e0, _, f0⟩ := DataW.trod_int Tryz.underlying3 h0
    obtain ⟨n1, e1, _, f1⟩ := DataW.trod_int Tryz.underlying3 h1
    obtain ⟨a, n, c, e2, -, -, hs, -⟩ := sl_cell Tryz.underlying22 (by rw [cellsT]; omega) h2
    obtain ⟨l, rfl, hX⟩ := txs_of hs
    refine ⟨⟨n0, n1, a, c, l⟩, ?_, hX, fit_of f0, fit_of f1⟩
    have hd : cs.drop (2 + 1) = [] := List.drop_of_length_le (by omega)
    have e : cs = cs.drop 0 := rfl
    rw [e, cut_drop cs 0 1, e0, cut_drop cs (0 + 1) 1, e1, cut_drop cs (0 + 1 + 1) 1, e2, hd]
    simp [amc]
end Go.Proofs.YtgbgnlboogalgaaGreat
namespace Go.Proofs.YtgbgnlboogalgaaGreat
open Go.ChangeShapes Go.WideShapes Go.ChangeAt Go.RowKit
set_option linter.unusedVariables false
theorem acts_of {H : Type} {enc : TypeId × Value → H} {w : World} {a : Option Addr} {n : Nat} (h : SlOf enc Tryz.prog w 56 a n) : ∃ l : List Am, l.length = n ∧ Sl amc 3 w a l ∧ ∀ x ∈ l, TxsR w w.heap.size x.a x.xs := by
  obtain ⟨l, h1, h2, h3⟩ := elems_of amc (fun x => TxsR w w.heap.size x.a x.xs) h (fun cs fuel y hy => by
    obtain ⟨x, e, hr, -, -⟩ := am_of hy
    exact ⟨x, e, hr⟩)
  rw [cellsA] at h2
  exact ⟨l, h1, h2, h3⟩
end Go.Proofs.YtgbgnlboogalgaaGreat
namespace Go.Proofs.YtgbgnlboogalgaaGreat
open Go.Proofs
set_option linter.unusedVariables false
attribute [local irreducible] CG NG SG Vals Der Row Blk MapIs IterAt DerX DerR wrongT nameT
end Go.Proofs.YtgbgnlboogalgaaGreat
namespace Go.Proofs.YtgbgnlboogalgaaGreat
set_option linter.unusedVariables false
def isT (k : Dg) (n : Int) (t : Tx) : Bool := decide (t.frm = k ∧ t.non = n)
noncomputable def ordT (ts : List Tx) : List Tx := ordL Tx.frm Tx.non Tx.fee ts
open Classical in
noncomputable def goodT (room : Int) (L : List Tx) (t : Tx) : Prop := wrongT t = 0 ∧ match L.find? (isT t.frm t.non) with
  | some o => ¬ o = t ∧ ¬ t.fee ≤ o.fee
  | none => ¬ room ≤ L.length
open Classical in
noncomputable def addT (room : Int) (L : List Tx) (t : Tx) : List Tx := if goodT room L t then L.filter (fun x => !isT t.frm t.non x) ++ [t] else L
noncomputable def fillT (ts : List Tx) : List Tx := ts.foldl (addT 30) []
def nk (k : Dg) (t : Tx) : Bool := decide (t.frm ≠ k)
end Go.Proofs.YtgbgnlboogalgaaGreat
namespace Go.Proofs.YtgbgnlboogalgaaGreat
set_option linter.unusedVariables false
section
variable {l : List En} {m : Nat}
noncomputable def firstX (l : List En) (m : Nat) : List Tx := ((ordE l).take m).map (·.t)
noncomputable def backX (l : List En) (m : Nat) : List En := doneL l (firstX l m) ++ (firstX l m).map (fun t => ⟨t, 5⟩)
end
end Go.Proofs.YtgbgnlboogalgaaGreat
namespace Go.Proofs.YtgbgnlboogalgaaGreat
set_option linter.unusedVariables false
def wK (e : Wm) : Dg := e.x.t.frm
def wN (e : Wm) : Int := e.x.t.non
def wF (e : Wm) : Int := e.x.t.fee
theorem ordW_E {ws r : List Wm} (h : Ord wK wN wF ws r) : r.map Wm.en = ordE (ws.map Wm.en) := by
  have h2 := Ord.map (key := En.key) (non := En.non) (fee := En.fee) Wm.en (l := ws) (r := r) h
  exact h2.eq.symm
/-- None of the first k of the same key has a smaller number. -/
def FstK (l : List Wm) (e : Wm) (k : Nat) : Prop := ∀ j (hj : j < l.length), j < k → ¬ (wK l[j] = wK e ∧ wN l[j] < wN e)
theorem FstK.zero (l : List Wm) (e : Wm) : FstK l e 0 := fun j _ h => absurd h (Nat.not_lt_zero j)
theorem FstK.succ {l : List Wm} {e : Wm} {k : Nat} (hk : k < l.length) : FstK l e (k + 1) ↔ FstK l e k ∧ ¬ (wK l[k] = wK e ∧ wN l[k] < wN e) := by
  constructor
  · intro h
    exact ⟨fun j hj hlt => h j hj (by omega), h k hk (by omega)⟩
  · rintro ⟨h1, h2⟩ j hj hlt
    by_cases e' : j = k
    · subst e'; exact h2
    · exact h1 j hj (by omega)
theorem FstK.full {l : List Wm} {e : Wm} : FstK l e l.length ↔ Frst wK wN l e := by
  constructor
  · intro h o ho hk
    obtain ⟨j, hj, rfl⟩ := List.getElem_of_mem ho
    have := h j hj hj
    by_cases hn : wN l[j] < wN e
    · exact absurd ⟨hk, hn⟩ this
    · omega
  · intro h j hj _ hh
    have := h l[j] (List.getElem_mem hj) hh.1
    omega
/-- Of the first i, the one that is taken first. -/
inductive InW (l : List Wm) (i : Nat) : Int → Prop
  | no : (∀ j (hj : j < l.length), j < i → ¬ Frst wK wN l l[j]) → InW l i (-1)
  | att (b : Nat) (hb : b < l.length) : b < i → Frst wK wN l l[b] → (∀ j (hj : j < l.length), j < i → Frst wK wN l l[j] → wF l[j] ≤ wF l[b] ∧ (j < b → wF l[j] < wF l[b])) → InW l i (b : Int)
theorem InW.init (l : List Wm) : InW l 0 (-1) := .no (fun j _ h => absurd h (Nat.not_lt_zero j))
theorem InW.skip {l : List Wm} {i : Nat} {z : Int} (h : InW l i z) (hi : i < l.length) (hf : ¬ Frst wK wN l l[i]) : InW l (i + 1) z := by
  cases h with
  | no h => exact .no (fun j hj hlt => by
      by_cases e : j = i
      · subst e; exact hf
      · exact h j hj (by omega))
  | att b hb h1 h2 h3 => exact .att b hb (by omega) h2 (fun j hj hlt hfj => by
      by_cases e : j = i
      · subst e; exact absurd hfj hf
      · exact h3 j hj (by omega) hfj)
theorem InW.first {l : List Wm} {i : Nat} (h : InW l i (-1)) (hi : i < l.length) (hf : Frst wK wN l l[i]) : InW l (i + 1) (i : Int) := by
  generalize hz : (-1 : Int) = z at h
  cases h with
  | no h => exact .att i hi (by omega) hf (fun j hj hlt hfj => by
      by_cases e : j = i
      · subst e; exact ⟨Int.le_refl _, fun h => absurd h (Nat.lt_irrefl _)⟩
      · exact absurd hfj (h j hj (by omega)))
  | att b hb h1 h2 h3 => omega
theorem InW.turn {l : List Wm} {i b : Nat} (h : InW l i (b : Int)) (hb : b < l.length) (hi : i < l.length) (hf : Frst wK wN l l[i]) (hg : wF l[b] < wF l[i]) : InW l (i + 1) (i : Int) := by
  generalize hz : (b : Int) = z at h
  cases h with
  | no h => omega
  | att b' hb' h1 h2 h3 =>
    have : b' = b := by omega
    subst this
    exact .att i hi (by omega) hf (fun j hj hlt hfj => by
      by_cases e : j = i
      · subst e; exact ⟨Int.le_refl _, fun h => absurd h (Nat.lt_irrefl _)⟩
      · have := (h3 j hj (by omega) hfj).1
        exact ⟨by omega, fun _ => by omega⟩)
theorem InW.keep {l : List Wm} {i b : Nat} (h : InW l i (b : Int)) (hb : b < l.length) (hi : i < l.length) (hg : ¬ wF l[b] < wF l[i]) : InW l (i + 1) (b : Int) := by
  generalize hz : (b : Int) = z at h
  cases h with
  | no h => omega
  | att b' hb' h1 h2 h3 =>
    have : b' = b := by omega
    subst this
    exact .att b' hb' (by omega) h2 (fun j hj hlt hfj => by
      by_cases e : j = i
      · subst e; exact ⟨by omega, fun h => by omega⟩
      · exact h3 j hj (by omega) hfj)
theorem InW.cases {l : List Wm} {i : Nat} {z : Int} (h : InW l i z) : z = -1 ∨ ∃ (b : Nat) (hb : b < l.length), z = (b : Int) := by
  cases h with
  | no h => exact Or.inl rfl
  | att b hb h1 h2 h3 => exact Or.inr ⟨b, hb, rfl⟩
theorem InW.best {l : List Wm} {z : Int} (h : InW l l.length z) (hne : 0 < l.length) : ∃ (b : Nat) (hb : b < l.length), z = (b : Int) ∧ BestS wK wN wF (l.take b) l[b] (l.drop (b + 1)) := by
  obtain ⟨e, he, hmin⟩ := min_ex wN (l := l) (by intro h; rw [h] at hne; simp at hne)
  cases h with
  | no h =>
    obtain ⟨j, hj, rfl⟩ := List.getElem_of_mem he
    exact absurd (fun o ho _ => hmin o ho) (h j hj hj)
  | att b hb h1 h2 h3 =>
    have hsp : l.take b ++ l[b] :: l.drop (b + 1) = l := by rw [← List.drop_eq_getElem_cons hb, List.take_append_drop]
    refine ⟨b, hb, rfl, ?_, fun e he hf => ?_, fun e he hf => ?_⟩
    · rw [hsp]; exact h2
    · rw [hsp] at he hf
      obtain ⟨j, hj, rfl⟩ := List.getElem_of_mem he
      exact (h3 j hj hj hf).1
    · rw [hsp] at hf
      obtain ⟨j, hj, rfl⟩ := List.getElem_of_mem he
      rw [List.length_take] at hj
      rw [List.getElem_take] at hf ⊢
      exact (h3 j (by omega) (by omega) hf).2 (by omega)
theorem ord_step {ws l out : List Wm} (h : ∀ r, Ord wK wN wF l r → Ord wK wN wF ws (out ++ r)) {b : Nat} (hb : b < l.length) (hB : BestS wK wN wF (l.take b) l[b] (l.drop (b + 1))) : ∀ r, Ord wK wN wF (l.eraseIdx b) r → Ord wK wN wF ws ((out ++ [l[b]]) ++ r) := fun r hr => by
  have hsp : l.take b ++ l[b] :: l.drop (b + 1) = l := by rw [← List.drop_eq_getElem_cons hb, List.take_append_drop]
  have h1 : Ord wK wN wF (l.take b ++ l[b] :: l.drop (b + 1)) (l[b] :: r) := .step _ _ _ _ hB (by rw [← List.eraseIdx_eq_take_drop_succ]; exact hr)
  rw [hsp] at h1
  have h2 := h _ h1
  rw [List.append_assoc]
  exact h2
end Go.Proofs.YtgbgnlboogalgaaGreat
namespace Go.Proofs.YtgbgnlboogalgaaGreat
open Go.Proofs
set_option linter.unusedVariables false
/-- All that waits, in the order. -/
noncomputable def ordW (ws : List Wm) : List Wm := ordL wK wN wF ws
theorem ordW_spec (ws : List Wm) : Ord wK wN wF ws (ordW ws) := ordL_spec ws
theorem ordW_perm (ws : List Wm) : (ordW ws).Perm ws := ordL_perm ws
theorem ordW_len (ws : List Wm) : (ordW ws).length = ws.length := ordL_length ws
theorem ordW_en (ws : List Wm) : (ordW ws).map Wm.en = ordE (ws.map Wm.en) := ordW_E (ordW_spec ws)
theorem own_nilB {w : World} {b base : Nat} (hB : Blk w b (.cells (flt wc []).toArray 67)) (hb : base ≤ b) : w.ownsRow base 67 14 (.slice (some ⟨b, 0, none⟩) 0 0) ([] : List Wm).length (flt wc []) := own_made wc_length hB hb rfl (by simp [maxLen])
attribute [local irreducible] CG NG SG Vals Der Row Blk MapIs IterAt DerX DerR wrongT nameT
set_option maxHeartbeats 32000000 in
theorem rorder_spec {w : World} {n : Nat} {a : Option Addr} {c : Nat} {ws : List Wm} {room : Int} (hP : PD w n a c ws) (hl : ws.length ≤ 1024) : RetO Tryz.prog 67 wc 14 27 #[.agg (pdc room a ws.length c).toArray] w (ordW ws) := by
  refine enter1 Tryz.func27 rfl Tryz.ntmps27 rfl ?_
  repeat (first|apply cA|apply cB)
  refine SG.box rfl rfl rfl (by exact rho_of rfl) (fun b1 w1 hk1 hb1 hB1 => ?_)
  have hB1 : Blk w1 b1 (.cells (pdc room a ws.length c).toArray 29) := hB1
  obtain ⟨-, -, q⟩ := pdc_rows hB1
  have s1 := hk1.size
  clear hB1
  repeat (first|apply cA|apply cB|apply cD|apply cE|refine cV rfl rfl rfl rfl (by first|(apply qas<;>(exact rfl))|fail) ?_)
  refine SG.buildSlice rfl rfl rfl rfl bsw0 (fun b9 w2 hk2 hb9 hB9 => ?_)
  have q := q.kp0 hk2
  have k2 := hk1.trans hk2
  have s2 := k2.size
  repeat (first|refine cV rfl rfl rfl rfl (by first|((first|apply qlc|apply qfa)<;>(first|exact rfl|assumption|exact List.not_mem_nil))|fail) ?_)
  refine SG.appO (enc := wc) (xs := []) (ys := ws) (base := w.heap.size) rfl rfl rfl (by exact rho_of rfl) (by exact rho_of rfl) rfl rfl rfl rfl wc_length wc_one (own_nilB hB9 (by omega)) (hP.sl.kp0 k2) (by simp only [maxLen, List.length_nil]; omega) (by simp only [List.length_nil]; show (_ + _) * 88 ≤ _; omega) s2 (fun v3 w3 hk3 ho3 _ => ?_)
  have ho3 : w3.ownsRow w.heap.size 67 14 v3 ws.length (flt wc ws) := ho3
  have k3 : Kp [] w w3 := k2.trans_new hk3 (own_new (own_nilB hB9 (base := w.heap.size) (by omega)) (Nat.le_refl _))
  clear q hB9
  repeat (first|apply cA|apply cB|apply cD|apply cE|apply cG|refine cV rfl rfl rfl rfl (by first|(apply qas<;>(exact rfl))|fail) ?_)
  refine CG.loop (X := (Value × List Wm) × (Value × List Wm)) (fun x => [(3, x.2.1), (4, x.1.1)])
    (fun x w' => Kp [] w w' ∧ w'.ownsRow w.heap.size 67 14 x.1.1 x.1.2.length (flt wc x.1.2) ∧ w'.ownsRow w.heap.size 67 14 x.2.1 x.2.2.length (flt wc x.2.2) ∧ Apart x.1.1 x.2.1 ∧ (∀ e ∈ x.2.2, e ∈ ws) ∧ x.1.2.length + x.2.2.length = ws.length ∧ ∀ r, Ord wK wN wF x.2.2 r → Ord wK wN wF ws (x.1.2 ++ r))
    (fun x => x.2.2.length) ((.slice none 0 0, []), (v3, ws)) ⟨k3, own_nil, ho3, fun b hb => (by cases hb), fun e h => h, by simp, fun r h => h⟩ (by (repeat' (first | exact True.intro | exact rfl | refine And.intro ?_ ?_))) ?_
  clear ho3 k3 hk3
  rintro ⟨⟨vo, out⟩, ⟨vl, left⟩⟩ w4 ⟨hk4, ho4, hl4, hap, hmem, hlen, hord⟩
  simp only at ho4 hl4 hap hmem hlen hord
  refine CG.to [(3, vl), (4, vo)] (by (repeat' (first | exact True.intro | exact rfl | refine And.intro ?_ ?_))) ?_
  obtain ⟨al, cl, rfl, hcl, hSl⟩ := Sl.own wc_length hl4 rfl
  have s4 := hk4.size
  by_cases h0 : left.length = 0
  · have g1 : ¬ (0 : Int) < (left.length : Int) := by omega
    have e0 : left = [] := List.eq_nil_of_length_eq_zero h0
    have e1 : ordW ws = out := by
      have := hord [] (by rw [e0]; exact .nil)
      rw [List.append_nil] at this
      exact this.eq
    repeat (first|apply cA|apply cB|apply cD|apply cE|refine cV rfl rfl rfl rfl (by first|((first|apply qmv|apply qln|apply qgt)<;>(first|exact rfl|exact dcf (by first|assumption|omega)|fail))|fail) ?_)
    refine dA rfl (by exact rho_of rfl) rfl ?_
    repeat (first|apply cA|apply cB|apply cD|apply cE|apply cH|apply cJ|apply cM|refine cQ rfl ?_|refine cV rfl rfl rfl rfl (by first|((first|apply qmv|apply qas)<;>(exact rfl))|fail) ?_)
    refine ret1 (Or.inl rfl) Tryz.results27 (by first | exact ResV.tmp rfl | exact ResV.agg rfl rfl (by assumption) (by first | exact dc_length _ | exact nc_length _ | exact rc_length _ _ _ | exact ec_length _ | exact dl_length _ _ _ _ | rfl) | exact ResV.cell rfl rfl (by assumption)) ?_
    exact ⟨vo, rfl, by rw [e1]; exact ho4, hk4⟩
  have g1 : (0 : Int) < (left.length : Int) := by omega
  repeat (first|apply cA|apply cB|apply cD|apply cE|refine cV rfl rfl rfl rfl (by first|((first|apply qmv|apply qln|apply qgt)<;>(first|exact rfl|exact dct (by first|assumption|omega)|fail))|fail) ?_)
  refine cZ rfl (by exact rho_of rfl) rfl ?_
  repeat (first|apply cA|apply cB|apply cD|apply cE|apply cF|apply cG|refine cV rfl rfl rfl rfl (by first|(apply qas<;>(exact rfl))|fail) ?_)
  refine CG.loop (X := Nat × Int) (fun x => [(3, .slice al left.length cl), (4, vo), (5, .int .i64 x.2), (6, .int .i64 (x.1 : Int))]) (fun x w' => x.1 ≤ left.length ∧ Kp [] w4 w' ∧ InW left x.1 x.2) (fun x => left.length - x.1) (0, -1) ⟨Nat.zero_le _, Kp.refl _ _, InW.init _⟩ (by (repeat' (first | exact True.intro | exact rfl | refine And.intro ?_ ?_))) ?_
  rintro ⟨i, z⟩ w5 ⟨hi, hk5, hIn⟩
  simp only at hi hIn
  refine CG.to [(3, .slice al left.length cl), (4, vo), (5, .int .i64 z), (6, .int .i64 (i : Int))] (by (repeat' (first | exact True.intro | exact rfl | refine And.intro ?_ ?_))) ?_
  by_cases hlt : i < left.length
  rotate_left
  · have g2 : ¬ (i : Int) < (left.length : Int) := by omega
    have ei : i = left.length := by omega
    subst ei
    obtain ⟨b, hb, rfl, hB⟩ := hIn.best (by omega)
    obtain ⟨bl, ol, rfl, rb⟩ := (hSl.kp0 hk5).at hb
    have gb : (b : Int) < (left.length : Int) := by omega
    repeat (first|apply cA|apply cB|apply cD|apply cE|refine cV rfl rfl rfl rfl (by first|((first|apply qmv|apply qls|apply qln)<;>(first|exact rfl|exact dcf (by first|assumption|omega)|fail))|fail) ?_)
    refine dA rfl (by exact rho_of rfl) rfl ?_
    repeat (first|apply cA|apply cB|apply cE|apply cJ|apply cM|refine cQ rfl ?_|refine cV rfl rfl rfl rfl (by first|((first|apply qmv|apply qla|apply qix)<;>(first|exact rfl|exact Ar.mk (by omega)|assumption|exact List.not_mem_nil|apply wc_length|fail))|fail) ?_)
    refine SG.buildSlice rfl rfl rfl rfl (bsw left[b]) (fun b6 w6 hk6 hb6 hB6 => ?_)
    have hS6 : Sl wc 14 w6 (some ⟨b6, 0, none⟩) [left[b]] := sl_one wc_length hB6
    have k46 := hk5.trans hk6
    have ho6 := own_kp0 ho4 k46
    have hl6 := own_kp0 hl4 k46
    have k6 := hk4.trans k46
    clear rb
    skip
    refine SG.appO (enc := wc) (xs := out) (ys := [left[b]]) (base := w.heap.size) rfl rfl rfl (by exact rho_of rfl) (by exact rho_of rfl) rfl rfl rfl rfl wc_length wc_one ho6 hS6 (by simp only [maxLen, List.length_cons, List.length_nil]; omega) (by simp only [List.length_cons, List.length_nil]; show (_ + _) * 88 ≤ _; omega) k6.size (fun v' w7 hk7 ho7 hv7 => ?_)
    have hl7 := own_apart hap hl6 hk7
    have k7 : Kp [] w w7 := k6.trans_new hk7 (own_new ho6 (Nat.le_refl _))
    obtain ⟨a', c', e', hD7⟩ := PD.own hl7 (fun e he => (hP.ins e (hmem e he)).kp0 k7)
    cases e'
    repeat (first|apply cB|apply cD|apply cE|refine cV rfl rfl rfl rfl (by first|((first|apply qmv|apply qas)<;>(exact rfl))|fail) ?_)
    refine SG.call rfl rfl rfl (vs := [.slice (some ⟨bl, ol, none⟩) left.length cl, .int .i64 (b : Int)]) (by repeat' (first | exact True.intro | exact rho_of rfl | refine And.intro ?_ ?_)) ((without_spec hD7 (by omega) hb).mono (fun e w8 hh => ?_))
    obtain ⟨v8, he, ho8, hk8⟩ := hh
    refine ⟨_, he, ?_⟩
    clear he
    have hel : (left.eraseIdx b).length = left.length - 1 := by rw [List.length_eraseIdx, if_pos hb]
    repeat (first|apply cD|apply cU|refine cV rfl rfl rfl rfl (by first|(apply qas<;>(exact rfl))|fail) ?_)
    refine NG.round ((v', out ++ [left[b]]), (v8, left.eraseIdx b)) (by (repeat' (first | exact True.intro | exact rfl | refine And.intro ?_ ?_))) ⟨k7.trans hk8, own_kp0 ho7 hk8, own_mono ho8 k7.size, fun b h1 h2 => ?_, fun e he => hmem e (List.mem_of_mem_eraseIdx he), ?_, ord_step hord hb hB⟩ (by simp only; omega)
    · have h3 := own_lt ho7 b h1
      have h4 := own_geB ho8 b h2
      omega
    · simp only [List.length_append, List.length_cons, List.length_nil]
      omega
  have g2 : (i : Int) < (left.length : Int) := by omega
  repeat (first|apply cA|apply cB|apply cD|apply cE|refine cV rfl rfl rfl rfl (by first|((first|apply qmv|apply qls|apply qln)<;>(first|exact rfl|exact dct (by first|assumption|omega)|fail))|fail) ?_)
  refine cZ rfl (by exact rho_of rfl) rfl ?_
  repeat (first|apply cA|apply cB|apply cD|apply cE|apply cF|apply cG|refine cV rfl rfl rfl rfl (by first|(apply qas<;>(exact rfl))|fail) ?_)
  refine CG.loop (X := Nat × Bool) (fun x => [(3, .slice al left.length cl), (4, vo), (5, .int .i64 z), (6, .int .i64 (i : Int)), (7, .bool x.2), (8, .int .i64 (x.1 : Int))]) (fun x w' => x.1 ≤ left.length ∧ Kp [] w4 w' ∧ (x.2 = true ↔ FstK left left[i] x.1)) (fun x => left.length - x.1) (0, true) ⟨Nat.zero_le _, hk5, iff_of_true rfl (FstK.zero _ _)⟩ (by (repeat' (first | exact True.intro | exact rfl | refine And.intro ?_ ?_))) ?_
  clear hk5
  rintro ⟨k, fb⟩ w5 ⟨hk, hk5, hF⟩
  simp only at hk hF
  refine CG.to [(3, .slice al left.length cl), (4, vo), (5, .int .i64 z), (6, .int .i64 (i : Int)), (7, .bool fb), (8, .int .i64 (k : Int))] (by (repeat' (first | exact True.intro | exact rfl | refine And.intro ?_ ?_))) ?_
  have hS5 := hSl.kp0 hk5
  obtain ⟨bl, ol, rfl, ri⟩ := hS5.at hlt
  obtain ⟨-, i0, i1, i2, -⟩ := wc_rows ri
  clear ri
  by_cases hkl : k < left.length
  · have g3 : (k : Int) < (left.length : Int) := by omega
    have rk : Row w5 bl (ol + k * 14) (wc left[k]) := hS5.row (List.getElem?_eq_getElem hkl)
    obtain ⟨-, k0, k1, -, -⟩ := wc_rows rk
    clear rk i2
    have hsu := FstK.succ (e := left[i]) hkl
    repeat (first|apply cA|apply cB|apply cD|apply cE|refine cV rfl rfl rfl rfl (by first|((first|apply qmv|apply qls|apply qln)<;>(first|exact rfl|exact dct (by first|assumption|omega)|fail))|fail) ?_)
    refine cZ rfl (by exact rho_of rfl) rfl ?_
    cases fb with
    | false =>
      have hno : ¬ FstK left left[i] k := fun h => Bool.noConfusion (hF.2 h)
      repeat (first|apply cA|apply cE|apply cF|apply cG)
      refine CG.tail mixed 32 [0, 1, 2, 3, 4, 5, 6, 7, 8, 9, 10, 11, 12, 13, 14, 15, 16, 17, 18, 19, 20, 21, 22, 23, 24, 25, 26, 27, 28, 29, 30, 31] (by kernel_rfl) ?_
      repeat (first | refine cY rfl rfl rfl (by first|((first|apply qmv|apply qpk)<;>(exact rfl))|fail) ?_ | refine Der.skip rfl rfl ?_)
      refine Der.tl (fun w6 hk6 _ _ => ?_)
      repeat (first|apply cB|apply cD|apply cE|apply cU|refine cV rfl rfl rfl rfl (by first|((first|apply qmv|apply qas|apply qad)<;>(first|exact rfl|exact Ar.mk (by omega)|fail))|fail) ?_)
      refine NG.round (k + 1, false) (by (repeat' (first | exact True.intro | exact rfl | refine And.intro ?_ ?_))) ⟨by simp only; omega, hk5.trans hk6, by simp only; rw [hsu]; exact iff_of_false (by decide) (fun h => hno h.1)⟩ (by simp only; omega)
    | true =>
      have hyes := hF.1 rfl
      by_cases he : left[k].x.t.frm = left[i].x.t.frm
      · by_cases hn : left[k].x.t.non < left[i].x.t.non
        · repeat (first|apply cA|apply cE|apply cF|apply cG)
          refine CG.tail mixed 32 [0, 1, 2, 3, 4, 5, 6, 7, 8, 9, 10, 11, 12, 13, 14, 15, 16, 17, 18, 19, 20, 21, 22, 23, 24, 25, 26, 27, 28, 29, 30, 31] (by kernel_rfl) ?_
          repeat (refine cY rfl rfl rfl (by first|((first|apply qmv|apply qlc|apply qla|apply qfa|apply qix|apply qpk|apply qls|apply qed|apply qnt)<;>(first|exact rfl|exact Ar.mk (by omega)|assumption|exact dct (by first|assumption|omega)|exact List.not_mem_nil|apply dc_length|fail))|fail) ?_)
          refine Der.tl (fun w6 hk6 _ _ => ?_)
          repeat (first|apply cB|apply cD|apply cE|apply cU|refine cV rfl rfl rfl rfl (by first|((first|apply qmv|apply qas|apply qad)<;>(first|exact rfl|exact Ar.mk (by omega)|fail))|fail) ?_)
          refine NG.round (k + 1, false) (by (repeat' (first | exact True.intro | exact rfl | refine And.intro ?_ ?_))) ⟨by simp only; omega, hk5.trans hk6, by simp only; rw [hsu]; exact iff_of_false (by decide) (fun h => h.2 ⟨he, hn⟩)⟩ (by simp only; omega)
        · repeat (first|apply cA|apply cE|apply cF|apply cG)
          refine CG.tail mixed 32 [0, 1, 2, 3, 4, 5, 6, 7, 8, 9, 10, 11, 12, 13, 14, 15, 16, 17, 18, 19, 20, 21, 22, 23, 24, 25, 26, 27, 28, 29, 30, 31] (by kernel_rfl) ?_
          repeat (refine cY rfl rfl rfl (by first|((first|apply qmv|apply qlc|apply qla|apply qfa|apply qix|apply qpk|apply qls|apply qed|apply qnt)<;>(first|exact rfl|exact Ar.mk (by omega)|assumption|exact dct (by first|assumption|omega)|exact dcf (by first|assumption|omega)|exact List.not_mem_nil|apply dc_length|fail))|fail) ?_)
          refine Der.tl (fun w6 hk6 _ _ => ?_)
          repeat (first|apply cB|apply cD|apply cE|apply cU|refine cV rfl rfl rfl rfl (by first|((first|apply qmv|apply qas|apply qad)<;>(first|exact rfl|exact Ar.mk (by omega)|fail))|fail) ?_)
          refine NG.round (k + 1, true) (by (repeat' (first | exact True.intro | exact rfl | refine And.intro ?_ ?_))) ⟨by simp only; omega, hk5.trans hk6, iff_of_true rfl (hsu.2 ⟨hyes, fun h => hn h.2⟩)⟩ (by simp only; omega)
      · repeat (first|apply cA|apply cE|apply cF|apply cG)
        refine CG.tail mixed 32 [0, 1, 2, 3, 4, 5, 6, 7, 8, 9, 10, 11, 12, 13, 14, 15, 16, 17, 18, 19, 20, 21, 22, 23, 24, 25, 26, 27, 28, 29, 30, 31] (by kernel_rfl) ?_
        repeat (first | refine cY rfl rfl rfl (by first|((first|apply qmv|apply qla|apply qfa|apply qix|apply qpk|apply qed|apply qnt)<;>(first|exact rfl|exact Ar.mk (by omega)|assumption|exact dcf (by first|assumption|omega)|exact List.not_mem_nil|apply dc_length|fail))|fail) ?_ | refine Der.skip rfl rfl ?_)
        refine Der.tl (fun w6 hk6 _ _ => ?_)
        repeat (first|apply cB|apply cD|apply cE|apply cU|refine cV rfl rfl rfl rfl (by first|((first|apply qmv|apply qas|apply qad)<;>(first|exact rfl|exact Ar.mk (by omega)|fail))|fail) ?_)
        refine NG.round (k + 1, true) (by (repeat' (first | exact True.intro | exact rfl | refine And.intro ?_ ?_))) ⟨by simp only; omega, hk5.trans hk6, iff_of_true rfl (hsu.2 ⟨hyes, fun h => he h.1⟩)⟩ (by simp only; omega)
  have g3 : ¬ (k : Int) < (left.length : Int) := by omega
  have ek : k = left.length := by omega
  subst ek
  rw [FstK.full] at hF
  clear i0 i1
  repeat (first|apply cA|apply cB|apply cD|apply cE|refine cV rfl rfl rfl rfl (by first|((first|apply qmv|apply qls|apply qln)<;>(first|exact rfl|exact dcf (by first|assumption|omega)|fail))|fail) ?_)
  refine dA rfl (by exact rho_of rfl) rfl ?_
  cases fb with
  | false =>
    have hno : ¬ Frst wK wN left left[i] := fun h => Bool.noConfusion (hF.2 h)
    repeat (first|apply cA|apply cE|apply cJ|apply cM|refine cQ rfl ?_)
    refine CG.tail mixed 19 [0, 1, 2, 3, 4, 5, 6, 7, 8, 9, 10, 11, 12, 13, 14, 15, 16, 17, 18] (by kernel_rfl) ?_
    repeat (first | refine cY rfl rfl rfl (by first|(apply qmv<;>(exact rfl))|fail) ?_ | refine Der.skip rfl rfl ?_)
    refine Der.tl (fun w6 hk6 _ _ => ?_)
    repeat (first|apply cD|apply cE|refine cV rfl rfl rfl rfl (by first|(apply qpk<;>(exact rfl))|fail) ?_)
    refine dA rfl (by exact rho_of rfl) rfl ?_
    repeat (first|apply cB|apply cD|apply cE|apply cF|apply cU|refine cV rfl rfl rfl rfl (by first|((first|apply qmv|apply qas|apply qad)<;>(first|exact rfl|exact Ar.mk (by omega)|fail))|fail) ?_)
    refine NG.round (i + 1, z) (by (repeat' (first | exact True.intro | exact rfl | refine And.intro ?_ ?_))) ⟨by simp only; omega, hk5.trans hk6, hIn.skip hlt hno⟩ (by simp only; omega)
  | true =>
    have hyes := hF.1 rfl
    rcases hIn.cases with rfl | ⟨b, hb, rfl⟩
    · have g4 : (-1 : Int) < 0 := by omega
      repeat (first|apply cA|apply cE|apply cJ|apply cM|refine cQ rfl ?_)
      refine CG.tail mixed 19 [0, 1, 2, 3, 4, 5, 6, 7, 8, 9, 10, 11, 12, 13, 14, 15, 16, 17, 18] (by kernel_rfl) ?_
      repeat (first | refine cY rfl rfl rfl (by first|((first|apply qmv|apply qpk|apply qls)<;>(first|exact rfl|exact dct (by first|assumption|omega)|fail))|fail) ?_ | refine Der.skip rfl rfl ?_)
      refine Der.tl (fun w6 hk6 _ _ => ?_)
      repeat (first|apply cD|apply cE|refine cV rfl rfl rfl rfl (by first|(apply qpk<;>(exact rfl))|fail) ?_)
      refine cZ rfl (by exact rho_of rfl) rfl ?_
      repeat (first|apply cB|apply cD|apply cE|apply cU|refine cV rfl rfl rfl rfl (by first|((first|apply qmv|apply qas|apply qad)<;>(first|exact rfl|exact Ar.mk (by omega)|fail))|fail) ?_)
      refine NG.round (i + 1, (i : Int)) (by (repeat' (first | exact True.intro | exact rfl | refine And.intro ?_ ?_))) ⟨by simp only; omega, hk5.trans hk6, hIn.first hlt hyes⟩ (by simp only; omega)
    · have g4 : ¬ (b : Int) < 0 := by omega
      have g5 : (b : Int) < (left.length : Int) := by omega
      have rb : Row w5 bl (ol + b * 14) (wc left[b]) := hS5.row (List.getElem?_eq_getElem hb)
      obtain ⟨-, -, -, b2, -⟩ := wc_rows rb
      clear rb
      by_cases hg : left[b].x.t.fee < left[i].x.t.fee
      · repeat (first|apply cA|apply cE|apply cJ|apply cM|refine cQ rfl ?_)
        refine CG.tail mixed 19 [0, 1, 2, 3, 4, 5, 6, 7, 8, 9, 10, 11, 12, 13, 14, 15, 16, 17, 18] (by kernel_rfl) ?_
        repeat (refine cY rfl rfl rfl (by first|((first|apply qmv|apply qlc|apply qfa|apply qix|apply qpk|apply qls|apply qgt)<;>(first|exact rfl|exact Ar.mk (by omega)|assumption|exact dct (by first|assumption|omega)|exact dcf (by first|assumption|omega)|exact List.not_mem_nil|fail))|fail) ?_)
        refine Der.tl (fun w6 hk6 _ _ => ?_)
        repeat (first|apply cD|apply cE|refine cV rfl rfl rfl rfl (by first|(apply qpk<;>(exact rfl))|fail) ?_)
        refine cZ rfl (by exact rho_of rfl) rfl ?_
        repeat (first|apply cB|apply cD|apply cE|apply cU|refine cV rfl rfl rfl rfl (by first|((first|apply qmv|apply qas|apply qad)<;>(first|exact rfl|exact Ar.mk (by omega)|fail))|fail) ?_)
        refine NG.round (i + 1, (i : Int)) (by (repeat' (first | exact True.intro | exact rfl | refine And.intro ?_ ?_))) ⟨by simp only; omega, hk5.trans hk6, hIn.turn hb hlt hyes hg⟩ (by simp only; omega)
      · repeat (first|apply cA|apply cE|apply cJ|apply cM|refine cQ rfl ?_)
        refine CG.tail mixed 19 [0, 1, 2, 3, 4, 5, 6, 7, 8, 9, 10, 11, 12, 13, 14, 15, 16, 17, 18] (by kernel_rfl) ?_
        repeat (refine cY rfl rfl rfl (by first|((first|apply qmv|apply qlc|apply qfa|apply qix|apply qpk|apply qls|apply qgt)<;>(first|exact rfl|exact Ar.mk (by omega)|assumption|exact dcf (by first|assumption|omega)|exact List.not_mem_nil|fail))|fail) ?_)
        refine Der.tl (fun w6 hk6 _ _ => ?_)
        repeat (first|apply cD|apply cE|refine cV rfl rfl rfl rfl (by first|(apply qpk<;>(exact rfl))|fail) ?_)
        refine dA rfl (by exact rho_of rfl) rfl ?_
        repeat (first|apply cB|apply cD|apply cE|apply cF|apply cU|refine cV rfl rfl rfl rfl (by first|((first|apply qmv|apply qas|apply qad)<;>(first|exact rfl|exact Ar.mk (by omega)|fail))|fail) ?_)
        refine NG.round (i + 1, (b : Int)) (by (repeat' (first | exact True.intro | exact rfl | refine And.intro ?_ ?_))) ⟨by simp only; omega, hk5.trans hk6, hIn.keep hb hlt hg⟩ (by simp only; omega)
end Go.Proofs.YtgbgnlboogalgaaGreat
namespace Go.Proofs.YtgbgnlboogalgaaGreat
open Go.Proofs
set_option linter.unusedVariables false
theorem row_at {w : World} {b off i : Nat} {l : List Value} {v : Value} (h : Row w b off l) (hv : l[i]? = some v) : Row w b (off + i * 1) [v] := by
  obtain ⟨cs, T, f, h1, h2⟩ := h
  refine ⟨cs, T, f, h1, fun j u hj => ?_⟩
  cases j with
  | zero =>
    simp at hj
    subst hj
    rw [show off + i * 1 + 0 = off + i from by omega]
    exact h2 i v hv
  | succ j => simp at hj
attribute [local irreducible] CG NG SG Vals Der Row Blk MapIs IterAt addI xorI orI andI shlI shrI mulI
set_option maxHeartbeats 8000000 in
theorem rnum_spec (d : Dg) (w : World) : Ret Tryz.prog 77 #[dv d] w (.int .u64 (num d : Int)) := by
  refine enter1 Tryz.func77 rfl Tryz.ntmps77 rfl ?_
  repeat (first|apply cA|apply cB|apply cD|apply cE|apply cF|apply cG|apply cH|apply cJ|apply cM|refine cQ rfl ?_|apply cU|refine cV rfl rfl rfl rfl (by first|(apply qb64<;>(first|exact rfl|assumption|exact Ar.mk (by omega)|exact dct (by first|assumption|omega)|exact dcf (by first|assumption|omega)|exact List.not_mem_nil|apply dc_length|fail))|((first|apply quad|apply quml|apply quxo|apply qia0|apply qia|apply qmv|apply qas|apply qlc|apply qge|apply qsb)<;>(first|exact rfl|assumption|exact Ar.mk (by omega)|exact dct (by first|assumption|omega)|exact dcf (by first|assumption|omega)|exact List.not_mem_nil|apply dc_length|fail))|fail) ?_)
  refine SG.box rfl rfl rfl (by exact rho_of rfl) (fun b1 w1 hk1 hb1 hB1 => ?_)
  have hB1 : Blk w1 b1 (.cells (dc d).toArray 24) := hB1
  have hr := Row.all hB1 (l := dc d) rfl
  repeat (first|apply cA|apply cB|apply cD|apply cE|apply cF|apply cG|apply cH|apply cJ|apply cM|refine cQ rfl ?_|apply cU|refine cV rfl rfl rfl rfl (by first|(apply qb64<;>(first|exact rfl|assumption|exact Ar.mk (by omega)|exact dct (by first|assumption|omega)|exact dcf (by first|assumption|omega)|exact List.not_mem_nil|apply dc_length|fail))|((first|apply quad|apply quml|apply quxo|apply qia0|apply qia|apply qmv|apply qas|apply qlc|apply qge|apply qsb)<;>(first|exact rfl|assumption|exact Ar.mk (by omega)|exact dct (by first|assumption|omega)|exact dcf (by first|assumption|omega)|exact List.not_mem_nil|apply dc_length|fail))|fail) ?_)
  have h8 : val (d.1.drop 8) = 0 := by rw [List.drop_of_length_le (by rw [d.2]; omega)]; rfl
  refine CG.loop (X := Nat) (fun j => [(1, .pointer (some ⟨b1, 0, none⟩)), (3, .int .u64 (val (d.1.drop j) : Int)), (4, .int .i64 ((j : Int) - 1))])
    (fun j w' => j ≤ 8 ∧ w' = w1) (fun j => j) 8 ⟨by omega, rfl⟩ (by rw [h8]; (repeat' (first | exact True.intro | exact rfl | refine And.intro ?_ ?_))) ?_
  rintro j w2 ⟨hj, rfl⟩
  cases j with
  | zero =>
    have g1 : ¬ (0 : Int) ≤ ((0 : Nat) : Int) - 1 := by omega
    have e0 : val (d.1.drop 0) = num d := rfl
    rw [e0]
    generalize ((0 : Nat) : Int) - 1 = m at g1 ⊢
    repeat (first|apply cA|apply cB|apply cD|apply cE|apply cF|apply cG|apply cH|apply cJ|apply cM|refine cQ rfl ?_|apply cU|refine cV rfl rfl rfl rfl (by first|(apply qb64<;>(first|exact rfl|assumption|exact Ar.mk (by omega)|exact dct (by first|assumption|omega)|exact dcf (by first|assumption|omega)|exact List.not_mem_nil|apply dc_length|fail))|((first|apply quad|apply quml|apply quxo|apply qia0|apply qia|apply qmv|apply qas|apply qlc|apply qge|apply qsb)<;>(first|exact rfl|assumption|exact Ar.mk (by omega)|exact dct (by first|assumption|omega)|exact dcf (by first|assumption|omega)|exact List.not_mem_nil|apply dc_length|fail))|fail) ?_)
    refine dA rfl (by exact rho_of rfl) rfl ?_
    repeat (first|apply cA|apply cB|apply cD|apply cE|apply cF|apply cG|apply cH|apply cJ|apply cM|refine cQ rfl ?_|apply cU|refine cV rfl rfl rfl rfl (by first|(apply qb64<;>(first|exact rfl|assumption|exact Ar.mk (by omega)|exact dct (by first|assumption|omega)|exact dcf (by first|assumption|omega)|exact List.not_mem_nil|apply dc_length|fail))|((first|apply quad|apply quml|apply quxo|apply qia0|apply qia|apply qmv|apply qas|apply qlc|apply qge|apply qsb)<;>(first|exact rfl|assumption|exact Ar.mk (by omega)|exact dct (by first|assumption|omega)|exact dcf (by first|assumption|omega)|exact List.not_mem_nil|apply dc_length|fail))|fail) ?_)
    refine ret1 (Or.inl rfl) Tryz.results77 (by first | exact ResV.tmp rfl | exact ResV.agg rfl rfl (by assumption) (by first | exact dc_length _ | exact nc_length _ | exact rc_length _ _ _ | exact ec_length _ | exact dl_length _ _ _ _ | rfl) | exact ResV.cell rfl rfl (by assumption)) ?_
    exact ⟨rfl, hk1⟩
  | succ k =>
    have hk8 : k < d.1.length := by rw [d.2]; omega
    have ek : ((k + 1 : Nat) : Int) - 1 = (k : Int) := by omega
    have g1 : (0 : Int) ≤ (k : Int) := by omega
    have hv := val_drop (l := d.1) (i := k) hk8
    have hlt : val (d.1.drop (k + 1)) * 256 + d.1[k].toNat < 18446744073709551616 := by
      rw [← hv]
      have h1 := val_lt (d.1.drop k)
      have h2 : (256 : Nat) ^ (d.1.drop k).length ≤ 256 ^ 8 := Nat.pow_le_pow_right (by omega) (by rw [List.length_drop, d.2]; omega)
      have h3 : (256 : Nat) ^ 8 = 18446744073709551616 := rfl
      rw [← h3]
      exact Nat.lt_of_lt_of_le h1 h2
    have e1 := addmul_nat hlt
    rw [← hv] at e1
    clear hlt
    have hrk := row_at hr (i := k) (v := bv d.1[k]) (by simp [dc, hk8])
    rw [ek]
    repeat (first|apply cA|apply cB|apply cD|apply cE|apply cF|apply cG|apply cH|apply cJ|apply cM|refine cQ rfl ?_|apply cU|refine cV rfl rfl rfl rfl (by first|(apply qb64<;>(first|exact rfl|assumption|exact Ar.mk (by omega)|exact dct (by first|assumption|omega)|exact dcf (by first|assumption|omega)|exact List.not_mem_nil|apply dc_length|fail))|((first|apply quad|apply quml|apply quxo|apply qia0|apply qia|apply qmv|apply qas|apply qlc|apply qge|apply qsb)<;>(first|exact rfl|assumption|exact Ar.mk (by omega)|exact dct (by first|assumption|omega)|exact dcf (by first|assumption|omega)|exact List.not_mem_nil|apply dc_length|fail))|fail) ?_)
    refine cZ rfl (by exact rho_of rfl) rfl ?_
    repeat (first|apply cA|apply cB|apply cD|apply cE|apply cF|apply cG|apply cH|apply cJ|apply cM|refine cQ rfl ?_|apply cU|refine cV rfl rfl rfl rfl (by first|(apply qb64<;>(first|exact rfl|assumption|exact Ar.mk (by omega)|exact dct (by first|assumption|omega)|exact dcf (by first|assumption|omega)|exact List.not_mem_nil|apply dc_length|fail))|((first|apply quad|apply quml|apply quxo|apply qia0|apply qia|apply qmv|apply qas|apply qlc|apply qge|apply qsb)<;>(first|exact rfl|assumption|exact Ar.mk (by omega)|exact dct (by first|assumption|omega)|exact dcf (by first|assumption|omega)|exact List.not_mem_nil|apply dc_length|fail))|fail) ?_)
    rw [e1]
    refine NG.round k (by (repeat' (first | exact True.intro | exact rfl | refine And.intro ?_ ?_))) ⟨by omega, rfl⟩ (by omega)
set_option maxHeartbeats 8000000 in
theorem rout_spec (s : Hs) (w : World) : Ret Tryz.prog 53 #[.agg (hsl s).toArray] w (dv (givesI s)) := by
  refine enter1 Tryz.func53 rfl Tryz.ntmps53 rfl ?_
  obtain ⟨n, hn, hn2⟩ := xorI_nat s.a s.c
  have hg : givesI s = frm n := by unfold givesI; rw [hn]; rfl
  rw [hg]
  have hspec := fun w => rfrom_spec n hn2 w
  clear hn2 hg
  repeat (first|apply cA|apply cB|apply cD|apply cE|apply cF|apply cG|apply cH|apply cJ|apply cM|refine cQ rfl ?_|apply cU|refine cV rfl rfl rfl rfl (by first|(apply qb64<;>(first|exact rfl|assumption|exact Ar.mk (by omega)|exact dct (by first|assumption|omega)|exact dcf (by first|assumption|omega)|exact List.not_mem_nil|apply dc_length|fail))|((first|apply quad|apply quml|apply quxo|apply qia0|apply qia|apply qmv|apply qas|apply qlc|apply qge|apply qsb)<;>(first|exact rfl|assumption|exact Ar.mk (by omega)|exact dct (by first|assumption|omega)|exact dcf (by first|assumption|omega)|exact List.not_mem_nil|apply dc_length|fail))|fail) ?_)
  refine SG.box rfl rfl rfl (by exact rho_of rfl) (fun b1 w1 hk1 hb1 hB1 => ?_)
  have hB1 : Blk w1 b1 (.cells (hsl s).toArray 109) := hB1
  refine SG.alloc rfl rfl rfl (fun b2 w2 hk2 hb2 hB2 => ?_)
  have hB2 : Blk w2 b2 (.cells (dc zd).toArray 24) := hB2
  obtain ⟨r0, r1, r2, r3, _⟩ := hs_rows (hB1.kp0 hk2)
  repeat (first|apply cA|apply cB|apply cD|apply cE|apply cF|apply cG|apply cH|apply cJ|apply cM|refine cQ rfl ?_|apply cU|refine cV rfl rfl rfl rfl (by first|(apply qb64<;>(first|exact rfl|assumption|exact Ar.mk (by omega)|exact dct (by first|assumption|omega)|exact dcf (by first|assumption|omega)|exact List.not_mem_nil|apply dc_length|fail))|((first|apply quad|apply quml|apply quxo|apply qia0|apply qia|apply qmv|apply qas|apply qlc|apply qge|apply qsb)<;>(first|exact rfl|assumption|exact Ar.mk (by omega)|exact dct (by first|assumption|omega)|exact dcf (by first|assumption|omega)|exact List.not_mem_nil|apply dc_length|fail))|fail) ?_)
  rw [hn]
  refine SG.ret rfl rfl rfl (by repeat' (first | exact True.intro | exact rho_of rfl | refine And.intro ?_ ?_)) (hspec w2) (fun w3 hk3 => ?_)
  refine SG.setAll (old := dc zd) (l := dc (frm n)) rfl rfl (by exact rho_of rfl) (by exact rho_of rfl) (hB2.kp0 hk3) (dc_length _) (dc_length _) (dc_one _) (fun w4 hk4 hB4 => ?_)
  have hr4 : Row w4 b2 0 (dc (frm n)) := Row.all hB4 rfl
  have s1 := hk1.size
  repeat (first|apply cA|apply cB|apply cD|apply cE|apply cF|apply cG|apply cH|apply cJ|apply cM|refine cQ rfl ?_|apply cU|refine cV rfl rfl rfl rfl (by first|(apply qb64<;>(first|exact rfl|assumption|exact Ar.mk (by omega)|exact dct (by first|assumption|omega)|exact dcf (by first|assumption|omega)|exact List.not_mem_nil|apply dc_length|fail))|((first|apply quad|apply quml|apply quxo|apply qia0|apply qia|apply qmv|apply qas|apply qlc|apply qge|apply qsb)<;>(first|exact rfl|assumption|exact Ar.mk (by omega)|exact dct (by first|assumption|omega)|exact dcf (by first|assumption|omega)|exact List.not_mem_nil|apply dc_length|fail))|fail) ?_)
  refine ret1 (Or.inl rfl) Tryz.results53 (by first | exact ResV.tmp rfl | exact ResV.agg rfl rfl (by assumption) (by first | exact dc_length _ | exact nc_length _ | exact rc_length _ _ _ | exact ec_length _ | exact dl_length _ _ _ _ | rfl) | exact ResV.cell rfl rfl (by assumption)) ?_
  exact ⟨rfl, ((hk1.trans hk2).trans hk3).trans_new hk4 (new1 (by omega))⟩
def padAll (l : List UInt8) : List UInt8 := l ++ 1 :: List.replicate (7 - l.length % 8) 0
theorem padAll_length (l : List UInt8) : (padAll l).length = (l.length / 8 + 1) * 8 := by simp [padAll]; omega
theorem eights_prefix (r : List UInt8) : ∀ (k : Nat) (s : Hs) (l : List UInt8), k * 8 ≤ l.length → eightsI s (l ++ r) k = eightsI s l k
  | 0, _, _, _ => rfl
  | k + 1, s, l, h => by
    have h8 : 8 ≤ l.length := by omega
    rw [eightsI, eightsI, List.take_append_of_le_length h8, List.drop_append_of_le_length h8]
    exact eights_prefix r k _ _ (by rw [List.length_drop]; omega)
theorem eights_pad (s : Hs) (l : List UInt8) : eightsI s (padAll l) (l.length / 8 + 1) = takeI (eightsI s l (l.length / 8)) (val (l.drop (l.length / 8 * 8) ++ [1]) : Int) := by
  rw [eights_step]
  have e1 : eightsI s (padAll l) (l.length / 8) = eightsI s l (l.length / 8) := eights_prefix _ _ _ _ (by omega)
  have e2 : (padAll l).drop (l.length / 8 * 8) = padL (l.drop (l.length / 8 * 8)) := by
    unfold padAll padL
    rw [List.drop_append_of_le_length (by omega), List.length_drop, show l.length - l.length / 8 * 8 = l.length % 8 from by omega]
  have e3 : (l.drop (l.length / 8 * 8)).length < 8 := by rw [List.length_drop]; omega
  rw [e1, e2, List.take_of_length_le (by rw [pad_length e3]; omega), pad_val]
def fillp (r : List UInt8) (k : Nat) : List Value := (r.take k).map bv ++ List.replicate (8 - k) (bv 0)
theorem fillp_length {r : List UInt8} {k : Nat} (h : r.length = 8) (hk : k ≤ 8) : (fillp r k).length = 8 := by simp [fillp]; omega
theorem fillp_zero (r : List UInt8) : fillp r 0 = dc zd := rfl
theorem fillp_all {r : List UInt8} (h : r.length = 8) : fillp r 8 = dc (⟨r, h⟩ : Dg) := by simp [fillp, dc, List.take_of_length_le (Nat.le_of_eq h)]
theorem fillp_step {r : List UInt8} {k : Nat} (hr : r.length = 8) (h : k < 8) : spl (fillp r k) k [bv (r[k]'(by omega))] = fillp r (k + 1) := by
  have hrp : List.replicate (8 - k) (bv 0) = [bv 0] ++ List.replicate (8 - (k + 1)) (bv 0) := by
    rw [show 8 - k = (8 - (k + 1)) + 1 from by omega, List.replicate_succ]
    rfl
  have := spl_mid (pre := (r.take k).map bv) (old := [bv 0]) (post := List.replicate (8 - (k + 1)) (bv 0)) (l := [bv (r[k]'(by omega))]) rfl
  rw [← hrp] at this
  simp only [List.length_map, List.length_take, Nat.min_eq_left (show k ≤ r.length by omega)] at this
  unfold fillp
  rw [this, show r.take (k + 1) = r.take k ++ [r[k]'(by omega)] from List.take_succ_eq_append_getElem (by omega), List.map_append, List.append_assoc]
  rfl
theorem bs0 (w : World) : (Instr.buildSlice 23 0 #[]).run Tryz.prog w = .ok (.slice (some ⟨w.heap.size, 0, none⟩) 0 0) { w with heap := w.heap.push (.cells #[] 5) } := by kernel_rfl
end Go.Proofs.YtgbgnlboogalgaaGreat
namespace Go.Proofs.YtgbgnlboogalgaaGreat
open Go.Proofs
set_option linter.unusedVariables false
/-- What stands behind the bytes after k zeros. -/
def padK (l : List UInt8) (k : Nat) : List UInt8 := l ++ 1 :: List.replicate k 0
theorem padK_length (l : List UInt8) (k : Nat) : (padK l k).length = l.length + 1 + k := by simp [padK]; omega
theorem padK_step (l : List UInt8) (k : Nat) : padK l k ++ [0] = padK l (k + 1) := by
  unfold padK
  rw [List.append_assoc, List.cons_append, ← List.replicate_succ']
attribute [local irreducible] CG NG SG Vals Der Row Blk MapIs IterAt addI xorI orI andI shlI shrI mulI
set_option maxHeartbeats 16000000 in
theorem rbytes_spec {w : World} {s : Hs} {a : Option Addr} {c : Nat} {l : List UInt8} (hS : Sl by1 1 w a l) (hl : l.length ≤ 100000000) :
    Ret Tryz.prog 54 #[.agg (hsl s).toArray, .slice a l.length c] w (.agg (hsl (bytesI s l)).toArray) := by
  refine enter2 Tryz.func54 rfl Tryz.ntmps54 rfl ?_
  repeat (first|apply cA|apply cB|apply cD|apply cE|apply cF|apply cG|apply cH|apply cJ|apply cM|refine cQ rfl ?_|apply cU|refine cV rfl rfl rfl rfl (by first|(apply qi64<;>(first|exact rfl|assumption|exact Ar.mk (by omega)|exact dct (by first|assumption|omega)|exact dcf (by first|assumption|omega)|exact List.not_mem_nil|apply dc_length|exact nm1 (by omega)|fail))|((first|apply qri|apply qia|apply qmv|apply qas|apply qlc|apply qla|apply qix|apply qls|apply qni|apply qad|apply qln)<;>(first|exact rfl|assumption|exact Ar.mk (by omega)|exact dct (by first|assumption|omega)|exact dcf (by first|assumption|omega)|exact List.not_mem_nil|apply dc_length|exact nm1 (by omega)|fail))|fail) ?_)
  refine SG.box rfl rfl rfl (by exact rho_of rfl) (fun b1 w1 hk1 hb1 hB1 => ?_)
  have hB1 : Blk w1 b1 (.cells (hsl s).toArray 109) := hB1
  refine SG.alloc rfl rfl rfl (fun b2 w2 hk2 hb2 hB2 => ?_)
  have hB2 : Blk w2 b2 (.cells (hsl ⟨0, 0, 0, 0⟩).toArray 109) := hB2
  have l1 := hB1.lt
  have l2 := hB2.lt
  have s1 := hk1.size
  have s2 := hk2.size
  have hB1 := hB1.kp0 hk2
  have k2 := hk1.trans hk2
  repeat (first|apply cA|apply cB|apply cD|apply cE|apply cF|apply cG|apply cH|apply cJ|apply cM|refine cQ rfl ?_|apply cU|refine cV rfl rfl rfl rfl (by first|(apply qi64<;>(first|exact rfl|assumption|exact Ar.mk (by omega)|exact dct (by first|assumption|omega)|exact dcf (by first|assumption|omega)|exact List.not_mem_nil|apply dc_length|exact nm1 (by omega)|fail))|((first|apply qri|apply qia|apply qmv|apply qas|apply qlc|apply qla|apply qix|apply qls|apply qni|apply qad|apply qln)<;>(first|exact rfl|assumption|exact Ar.mk (by omega)|exact dct (by first|assumption|omega)|exact dcf (by first|assumption|omega)|exact List.not_mem_nil|apply dc_length|exact nm1 (by omega)|fail))|fail) ?_)
  refine SG.buildSlice rfl rfl rfl rfl bs0 (fun b9 w3 hk3 hb9 hB9 => ?_)
  have ho0 : w3.ownsRow w2.heap.size 5 1 (.slice (some ⟨b9, 0, none⟩) 0 0) ([] : List UInt8).length (flt by1 []) := own_made by1_len hB9 hb9 rfl (by simp [maxLen])
  repeat (first|apply cA|apply cB|apply cD|apply cE|apply cF|apply cG|apply cH|apply cJ|apply cM|refine cQ rfl ?_|apply cU|refine cV rfl rfl rfl rfl (by first|(apply qi64<;>(first|exact rfl|assumption|exact Ar.mk (by omega)|exact dct (by first|assumption|omega)|exact dcf (by first|assumption|omega)|exact List.not_mem_nil|apply dc_length|exact nm1 (by omega)|fail))|((first|apply qri|apply qia|apply qmv|apply qas|apply qlc|apply qla|apply qix|apply qls|apply qni|apply qad|apply qln)<;>(first|exact rfl|assumption|exact Ar.mk (by omega)|exact dct (by first|assumption|omega)|exact dcf (by first|assumption|omega)|exact List.not_mem_nil|apply dc_length|exact nm1 (by omega)|fail))|fail) ?_)
  refine SG.appO (enc := by1) (xs := []) (ys := l) (base := w2.heap.size) rfl rfl rfl (by exact rho_of rfl) (by exact rho_of rfl) rfl rfl rfl rfl by1_len by1_one ho0 ((hS.kp0 k2).kp0 hk3) (by simp only [maxLen, List.length_nil]; omega) (by show (0 + l.length) * 1 ≤ _; omega) hk3.size (fun v4 w4 hk4 ho4 _ => ?_)
  have k4 : Kp [] w2 w4 := hk3.trans_new hk4 (own_new ho0 (Nat.le_refl _))
  rw [List.nil_append] at ho4
  refine SG.buildSlice rfl rfl rfl rfl (bs1 1) (fun b5 w5 hk5 hb5 hB5 => ?_)
  have hS5 : Sl by1 1 w5 (some ⟨b5, 0, none⟩) [(1 : UInt8)] := Sl.of_blk (pre := []) (post := []) by1_len (l := [1]) (T := 5) hB5
  refine SG.appO (enc := by1) (xs := l) (ys := [1]) (base := w2.heap.size) rfl rfl rfl (by exact rho_of rfl) (by exact rho_of rfl) rfl rfl rfl rfl by1_len by1_one (own_kp0 ho4 hk5) hS5 (by simp only [maxLen, List.length_cons, List.length_nil]; omega) (by show (l.length + 1) * 1 ≤ _; omega) (Nat.le_trans k4.size hk5.size) (fun v6 w6 hk6 ho6 _ => ?_)
  have k6 : Kp [] w2 w6 := (k4.trans hk5).trans_new hk6 (own_new (own_kp0 ho4 hk5) (Nat.le_refl _))
  have ho6 : w6.ownsRow w2.heap.size 5 1 v6 (padK l 0).length (flt by1 (padK l 0)) := ho6
  clear ho0 ho4 hS5 hB5 hB9
  repeat (first|apply cA|apply cB|apply cD|apply cE|apply cF|apply cG|apply cH|apply cJ|apply cM|refine cQ rfl ?_|apply cU|refine cV rfl rfl rfl rfl (by first|(apply qi64<;>(first|exact rfl|assumption|exact Ar.mk (by omega)|exact dct (by first|assumption|omega)|exact dcf (by first|assumption|omega)|exact List.not_mem_nil|apply dc_length|exact nm1 (by omega)|fail))|((first|apply qri|apply qia|apply qmv|apply qas|apply qlc|apply qla|apply qix|apply qls|apply qni|apply qad|apply qln)<;>(first|exact rfl|assumption|exact Ar.mk (by omega)|exact dct (by first|assumption|omega)|exact dcf (by first|assumption|omega)|exact List.not_mem_nil|apply dc_length|exact nm1 (by omega)|fail))|fail) ?_)
  refine CG.loop (X := Value × Nat) (fun x => [(1, .slice a l.length c), (2, .pointer (some ⟨b1, 0, none⟩)), (4, .pointer (some ⟨b2, 0, none⟩)), (5, x.1)])
    (fun x w' => x.2 ≤ 7 - l.length % 8 ∧ Kp [] w2 w' ∧ w'.ownsRow w2.heap.size 5 1 x.1 (padK l x.2).length (flt by1 (padK l x.2))) (fun x => 7 - l.length % 8 - x.2) (v6, 0) ⟨by simp only; omega, k6, ho6⟩ (by (repeat' (first | exact True.intro | exact rfl | refine And.intro ?_ ?_))) ?_
  rintro ⟨v7, k⟩ w7 ⟨hk, k7, ho7⟩
  simp only at hk ho7
  refine CG.to [(1, .slice a l.length c), (2, .pointer (some ⟨b1, 0, none⟩)), (4, .pointer (some ⟨b2, 0, none⟩)), (5, v7)] (by (repeat' (first | exact True.intro | exact rfl | refine And.intro ?_ ?_))) ?_
  clear ho6 k6
  have hpl := padK_length l k
  obtain ⟨a7, c7, rfl, hc7, hS7⟩ := Sl.own by1_len ho7 rfl
  by_cases hlt : k < 7 - l.length % 8
  · have g1 : ¬ ((padK l k).length : Int) % 8 = 0 := by omega
    repeat (first|apply cA|apply cB|apply cD|apply cE|apply cF|apply cG|apply cH|apply cJ|apply cM|refine cQ rfl ?_|apply cU|refine cV rfl rfl rfl rfl (by first|(apply qi64<;>(first|exact rfl|assumption|exact Ar.mk (by omega)|exact dct (by first|assumption|omega)|exact dcf (by first|assumption|omega)|exact List.not_mem_nil|apply dc_length|exact nm1 (by omega)|fail))|((first|apply qri|apply qia|apply qmv|apply qas|apply qlc|apply qla|apply qix|apply qls|apply qni|apply qad|apply qln)<;>(first|exact rfl|assumption|exact Ar.mk (by omega)|exact dct (by first|assumption|omega)|exact dcf (by first|assumption|omega)|exact List.not_mem_nil|apply dc_length|exact nm1 (by omega)|fail))|fail) ?_)
    refine cZ rfl (by exact rho_of rfl) rfl ?_
    repeat (first|apply cA|apply cB|apply cD|apply cE|apply cF|apply cG|apply cH|apply cJ|apply cM|refine cQ rfl ?_|apply cU|refine cV rfl rfl rfl rfl (by first|(apply qi64<;>(first|exact rfl|assumption|exact Ar.mk (by omega)|exact dct (by first|assumption|omega)|exact dcf (by first|assumption|omega)|exact List.not_mem_nil|apply dc_length|exact nm1 (by omega)|fail))|((first|apply qri|apply qia|apply qmv|apply qas|apply qlc|apply qla|apply qix|apply qls|apply qni|apply qad|apply qln)<;>(first|exact rfl|assumption|exact Ar.mk (by omega)|exact dct (by first|assumption|omega)|exact dcf (by first|assumption|omega)|exact List.not_mem_nil|apply dc_length|exact nm1 (by omega)|fail))|fail) ?_)
    refine SG.buildSlice rfl rfl rfl rfl (bs1 0) (fun b8 w8 hk8 hb8 hB8 => ?_)
    have hS8 : Sl by1 1 w8 (some ⟨b8, 0, none⟩) [(0 : UInt8)] := Sl.of_blk (pre := []) (post := []) by1_len (l := [0]) (T := 5) hB8
    refine SG.appO (enc := by1) (xs := padK l k) (ys := [0]) (base := w2.heap.size) rfl rfl rfl (by exact rho_of rfl) (by exact rho_of rfl) rfl rfl rfl rfl by1_len by1_one (own_kp0 ho7 hk8) hS8 (by simp only [maxLen, List.length_cons, List.length_nil]; omega) (by show ((padK l k).length + 1) * 1 ≤ _; omega) (Nat.le_trans k7.size hk8.size) (fun v9 w9 hk9 ho9 _ => ?_)
    rw [padK_step] at ho9
    repeat (first|apply cA|apply cB|apply cD|apply cE|apply cF|apply cG|apply cH|apply cJ|apply cM|refine cQ rfl ?_|apply cU|refine cV rfl rfl rfl rfl (by first|(apply qi64<;>(first|exact rfl|assumption|exact Ar.mk (by omega)|exact dct (by first|assumption|omega)|exact dcf (by first|assumption|omega)|exact List.not_mem_nil|apply dc_length|exact nm1 (by omega)|fail))|((first|apply qri|apply qia|apply qmv|apply qas|apply qlc|apply qla|apply qix|apply qls|apply qni|apply qad|apply qln)<;>(first|exact rfl|assumption|exact Ar.mk (by omega)|exact dct (by first|assumption|omega)|exact dcf (by first|assumption|omega)|exact List.not_mem_nil|apply dc_length|exact nm1 (by omega)|fail))|fail) ?_)
    refine NG.round (v9, k + 1) (by (repeat' (first | exact True.intro | exact rfl | refine And.intro ?_ ?_))) ⟨by simp only; omega, (k7.trans hk8).trans_new hk9 (own_new (own_kp0 ho7 hk8) (Nat.le_refl _)), ho9⟩ (by simp only; omega)
  · have ek : k = 7 - l.length % 8 := by omega
    have epad : padK l k = padAll l := by rw [ek]; rfl
    have g1 : ((padK l k).length : Int) % 8 = 0 := by omega
    rw [epad] at hS7 hpl g1 ho7 ⊢
    have hB17 := hB1.kp0 k7
    have hB27 := hB2.kp0 k7
    have hlen := padAll_length l
    generalize hM : l.length / 8 + 1 = M at hlen
    have hnew : ∀ b off, a7 = some ⟨b, off, none⟩ → w2.heap.size ≤ b := fun b off e => by
      rcases ho7.2 with ⟨h1, _⟩ | ⟨g, cap, cur, h1, h2, _⟩
      · simp only [Value.slice.injEq] at h1
        rw [h1.1] at e
        cases e
      · simp only [Value.slice.injEq] at h1
        rw [h1.1] at e
        cases e
        exact h2
    clear ho7
    repeat (first|apply cA|apply cB|apply cD|apply cE|apply cF|apply cG|apply cH|apply cJ|apply cM|refine cQ rfl ?_|apply cU|refine cV rfl rfl rfl rfl (by first|(apply qi64<;>(first|exact rfl|assumption|exact Ar.mk (by omega)|exact dct (by first|assumption|omega)|exact dcf (by first|assumption|omega)|exact List.not_mem_nil|apply dc_length|exact nm1 (by omega)|fail))|((first|apply qri|apply qia|apply qmv|apply qas|apply qlc|apply qla|apply qix|apply qls|apply qni|apply qad|apply qln)<;>(first|exact rfl|assumption|exact Ar.mk (by omega)|exact dct (by first|assumption|omega)|exact dcf (by first|assumption|omega)|exact List.not_mem_nil|apply dc_length|exact nm1 (by omega)|fail))|fail) ?_)
    refine dA rfl (by exact rho_of rfl) rfl ?_
    repeat (first|apply cA|apply cB|apply cD|apply cE|apply cF|apply cG|apply cH|apply cJ|apply cM|refine cQ rfl ?_|apply cU|refine cV rfl rfl rfl rfl (by first|(apply qi64<;>(first|exact rfl|assumption|exact Ar.mk (by omega)|exact dct (by first|assumption|omega)|exact dcf (by first|assumption|omega)|exact List.not_mem_nil|apply dc_length|exact nm1 (by omega)|fail))|((first|apply qri|apply qia|apply qmv|apply qas|apply qlc|apply qla|apply qix|apply qls|apply qni|apply qad|apply qln)<;>(first|exact rfl|assumption|exact Ar.mk (by omega)|exact dct (by first|assumption|omega)|exact dcf (by first|assumption|omega)|exact List.not_mem_nil|apply dc_length|exact nm1 (by omega)|fail))|fail) ?_)
    refine CG.loop (X := Nat) (fun q => [(1, .slice a l.length c), (2, .pointer (some ⟨b1, 0, none⟩)), (4, .pointer (some ⟨b2, 0, none⟩)), (5, .slice a7 (padAll l).length c7), (6, .int .i64 ((q * 8 : Nat) : Int))])
      (fun q w' => q ≤ M ∧ Kp [b1] w7 w' ∧ Blk w' b1 (.cells (hsl (eightsI s (padAll l) q)).toArray 109)) (fun q => M - q) 0 ⟨by omega, Kp.refl _ _, hB17⟩ (by rw [Nat.zero_mul]; (repeat' (first | exact True.intro | exact rfl | refine And.intro ?_ ?_))) ?_
    rintro q w8 ⟨hq, k8, hB8⟩
    by_cases hqM : q < M
    · have g2 : ((q * 8 : Nat) : Int) < ((padAll l).length : Int) := by omega
      have h8 : (((padAll l).drop (q * 8)).take 8).length = 8 := by simp; omega
      obtain ⟨b7, off, rfl, _⟩ := hS7.at (i := q * 8) (by omega)
      have hb7 := hnew b7 off rfl
      have hS8 := hS7.kp k8 (fun b3 off3 e => by cases e; exact nm1 (by omega))
      generalize hr : ((padAll l).drop (q * 8)).take 8 = r at h8
      have l7 : b7 < w7.heap.size := by
        obtain ⟨_, _, e, hrow⟩ := hS7.at (i := q * 8) (by omega)
        cases e
        exact hrow.lt
      have s8 := k8.size
      repeat (first|apply cA|apply cB|apply cD|apply cE|apply cF|apply cG|apply cH|apply cJ|apply cM|refine cQ rfl ?_|apply cU|refine cV rfl rfl rfl rfl (by first|(apply qi64<;>(first|exact rfl|assumption|exact Ar.mk (by omega)|exact dct (by first|assumption|omega)|exact dcf (by first|assumption|omega)|exact List.not_mem_nil|apply dc_length|exact nm1 (by omega)|fail))|((first|apply qri|apply qia|apply qmv|apply qas|apply qlc|apply qla|apply qix|apply qls|apply qni|apply qad|apply qln)<;>(first|exact rfl|assumption|exact Ar.mk (by omega)|exact dct (by first|assumption|omega)|exact dcf (by first|assumption|omega)|exact List.not_mem_nil|apply dc_length|exact nm1 (by omega)|fail))|fail) ?_)
      refine cZ rfl (by exact rho_of rfl) rfl ?_
      repeat (first|apply cA|apply cB|apply cD|apply cE|apply cF|apply cG|apply cH|apply cJ|apply cM|refine cQ rfl ?_|apply cU|refine cV rfl rfl rfl rfl (by first|(apply qi64<;>(first|exact rfl|assumption|exact Ar.mk (by omega)|exact dct (by first|assumption|omega)|exact dcf (by first|assumption|omega)|exact List.not_mem_nil|apply dc_length|exact nm1 (by omega)|fail))|((first|apply qri|apply qia|apply qmv|apply qas|apply qlc|apply qla|apply qix|apply qls|apply qni|apply qad|apply qln)<;>(first|exact rfl|assumption|exact Ar.mk (by omega)|exact dct (by first|assumption|omega)|exact dcf (by first|assumption|omega)|exact List.not_mem_nil|apply dc_length|exact nm1 (by omega)|fail))|fail) ?_)
      refine cV rfl rfl rfl rfl (vals_build rfl bz8) ?_
      refine SG.alloc rfl rfl rfl (fun b3 w9 hk9 hb3 hB3 => ?_)
      have hB3 : Blk w9 b3 (.cells (dc zd).toArray 24) := hB3
      refine SG.setAll (old := dc zd) (l := dc zd) rfl rfl (by exact rho_of rfl) (by exact rho_of rfl) hB3 (dc_length _) (dc_length _) (dc_one _) (fun w10 hk10 hB3 => ?_)
      have l3 := hB3.lt
      have s9 := hk9.size
      have hS10 := (hS8.kp0 hk9).kp hk10 (fun b4 off4 e => by cases e; exact nm1 (by omega))
      repeat (first|apply cA|apply cB|apply cD|apply cE|apply cF|apply cG|apply cH|apply cJ|apply cM|refine cQ rfl ?_|apply cU|refine cV rfl rfl rfl rfl (by first|(apply qi64<;>(first|exact rfl|assumption|exact Ar.mk (by omega)|exact dct (by first|assumption|omega)|exact dcf (by first|assumption|omega)|exact List.not_mem_nil|apply dc_length|exact nm1 (by omega)|fail))|((first|apply qri|apply qia|apply qmv|apply qas|apply qlc|apply qla|apply qix|apply qls|apply qni|apply qad|apply qln)<;>(first|exact rfl|assumption|exact Ar.mk (by omega)|exact dct (by first|assumption|omega)|exact dcf (by first|assumption|omega)|exact List.not_mem_nil|apply dc_length|exact nm1 (by omega)|fail))|fail) ?_)
      refine CG.loop (X := Nat) (fun k => [(1, .slice a l.length c), (2, .pointer (some ⟨b1, 0, none⟩)), (4, .pointer (some ⟨b2, 0, none⟩)), (5, .slice (some ⟨b7, off, none⟩) (padAll l).length c7), (6, .int .i64 ((q * 8 : Nat) : Int)), (7, .pointer (some ⟨b3, 0, none⟩)), (8, .int .i64 (k : Int))])
        (fun k w' => k ≤ 8 ∧ Kp [b3] w10 w' ∧ Blk w' b3 (.cells (fillp r k).toArray 24)) (fun k => 8 - k) 0 ⟨by omega, Kp.refl _ _, by rw [fillp_zero]; exact hB3⟩ (by (repeat' (first | exact True.intro | exact rfl | refine And.intro ?_ ?_))) ?_
      rintro k w11 ⟨hk8, k11, hB11⟩
      by_cases hk : k < 8
      · have g3 : (k : Int) < 8 := by omega
        have hS11 := hS10.kp k11 (fun b4 off4 e => by cases e; exact nm1 (by omega))
        have hg : (padAll l)[q * 8 + k]? = some (r[k]'(by omega)) := by
          rw [← List.getElem?_eq_getElem, ← hr, List.getElem?_take_of_lt hk, List.getElem?_drop]
        have hrow := hS11.row hg
        have hrow : Row w11 b7 (off + (q * 8 + k) * 1) [bv (r[k]'(by omega))] := hrow
        have ez : ((q * 8 : Nat) : Int) + (k : Int) = ((q * 8 + k : Nat) : Int) := by omega
        repeat (first|apply cA|apply cB|apply cD|apply cE|apply cF|apply cG|apply cH|apply cJ|apply cM|refine cQ rfl ?_|apply cU|refine cV rfl rfl rfl rfl (by first|(apply qi64<;>(first|exact rfl|assumption|exact Ar.mk (by omega)|exact dct (by first|assumption|omega)|exact dcf (by first|assumption|omega)|exact List.not_mem_nil|apply dc_length|exact nm1 (by omega)|fail))|((first|apply qri|apply qia|apply qmv|apply qas|apply qlc|apply qla|apply qix|apply qls|apply qni|apply qad|apply qln)<;>(first|exact rfl|assumption|exact Ar.mk (by omega)|exact dct (by first|assumption|omega)|exact dcf (by first|assumption|omega)|exact List.not_mem_nil|apply dc_length|exact nm1 (by omega)|fail))|fail) ?_)
        refine cZ rfl (by exact rho_of rfl) rfl ?_
        repeat (first|apply cA|apply cB|apply cD|apply cE|apply cF|apply cG|apply cH|apply cJ|apply cM|refine cQ rfl ?_|apply cU|refine cV rfl rfl rfl rfl (by first|(apply qi64<;>(first|exact rfl|assumption|exact Ar.mk (by omega)|exact dct (by first|assumption|omega)|exact dcf (by first|assumption|omega)|exact List.not_mem_nil|apply dc_length|exact nm1 (by omega)|fail))|((first|apply qri|apply qia|apply qmv|apply qas|apply qlc|apply qla|apply qix|apply qls|apply qni|apply qad|apply qln)<;>(first|exact rfl|assumption|exact Ar.mk (by omega)|exact dct (by first|assumption|omega)|exact dcf (by first|assumption|omega)|exact List.not_mem_nil|apply dc_length|exact nm1 (by omega)|fail))|fail) ?_)
        rw [ez]
        repeat (first|apply cA|apply cB|apply cD|apply cE|apply cF|apply cG|apply cH|apply cJ|apply cM|refine cQ rfl ?_|apply cU|refine cV rfl rfl rfl rfl (by first|(apply qi64<;>(first|exact rfl|assumption|exact Ar.mk (by omega)|exact dct (by first|assumption|omega)|exact dcf (by first|assumption|omega)|exact List.not_mem_nil|apply dc_length|exact nm1 (by omega)|fail))|((first|apply qri|apply qia|apply qmv|apply qas|apply qlc|apply qla|apply qix|apply qls|apply qni|apply qad|apply qln)<;>(first|exact rfl|assumption|exact Ar.mk (by omega)|exact dct (by first|assumption|omega)|exact dcf (by first|assumption|omega)|exact List.not_mem_nil|apply dc_length|exact nm1 (by omega)|fail))|fail) ?_)
        refine SG.store rfl rfl (by exact rho_of rfl) (by exact rho_of rfl) hB11 rfl (by show 0 + k * 1 + 1 ≤ (fillp r k).toArray.size; simp [fillp_length h8 hk8]; omega) rfl (fun w12 hk12 hB12 => ?_)
        have hB12 : Blk w12 b3 (.cells (spl (fillp r k) (0 + k * 1) [bv (r[k]'(by omega))]).toArray 24) := hB12
        rw [show 0 + k * 1 = k from by omega, fillp_step h8 hk] at hB12
        repeat (first|apply cA|apply cB|apply cD|apply cE|apply cF|apply cG|apply cH|apply cJ|apply cM|refine cQ rfl ?_|apply cU|refine cV rfl rfl rfl rfl (by first|(apply qi64<;>(first|exact rfl|assumption|exact Ar.mk (by omega)|exact dct (by first|assumption|omega)|exact dcf (by first|assumption|omega)|exact List.not_mem_nil|apply dc_length|exact nm1 (by omega)|fail))|((first|apply qri|apply qia|apply qmv|apply qas|apply qlc|apply qla|apply qix|apply qls|apply qni|apply qad|apply qln)<;>(first|exact rfl|assumption|exact Ar.mk (by omega)|exact dct (by first|assumption|omega)|exact dcf (by first|assumption|omega)|exact List.not_mem_nil|apply dc_length|exact nm1 (by omega)|fail))|fail) ?_)
        refine NG.round (k + 1) (by (repeat' (first | exact True.intro | exact rfl | refine And.intro ?_ ?_))) ⟨by omega, k11.trans hk12, hB12⟩ (by omega)
      · have g3 : ¬ (k : Int) < 8 := by omega
        have e8 : k = 8 := by omega
        subst e8
        rw [fillp_all h8] at hB11
        have hrd : Row w11 b3 0 (dc (⟨r, h8⟩ : Dg)) := Row.all hB11 rfl
        have hBs := ((hB8.kp0 hk9).kp hk10 (nm1 (by omega))).kp k11 (nm1 (by omega))
        have hrs := Row.all (l := hsl (eightsI s (padAll l) q)) hBs rfl
        repeat (first|apply cA|apply cB|apply cD|apply cE|apply cF|apply cG|apply cH|apply cJ|apply cM|refine cQ rfl ?_|apply cU|refine cV rfl rfl rfl rfl (by first|(apply qi64<;>(first|exact rfl|assumption|exact Ar.mk (by omega)|exact dct (by first|assumption|omega)|exact dcf (by first|assumption|omega)|exact List.not_mem_nil|apply dc_length|exact nm1 (by omega)|fail))|((first|apply qri|apply qia|apply qmv|apply qas|apply qlc|apply qla|apply qix|apply qls|apply qni|apply qad|apply qln)<;>(first|exact rfl|assumption|exact Ar.mk (by omega)|exact dct (by first|assumption|omega)|exact dcf (by first|assumption|omega)|exact List.not_mem_nil|apply dc_length|exact nm1 (by omega)|fail))|fail) ?_)
        refine dA rfl (by exact rho_of rfl) rfl ?_
        repeat (first|apply cA|apply cB|apply cD|apply cE|apply cF|apply cG|apply cH|apply cJ|apply cM|refine cQ rfl ?_|apply cU|refine cV rfl rfl rfl rfl (by first|(apply qi64<;>(first|exact rfl|assumption|exact Ar.mk (by omega)|exact dct (by first|assumption|omega)|exact dcf (by first|assumption|omega)|exact List.not_mem_nil|apply dc_length|exact nm1 (by omega)|fail))|((first|apply qri|apply qia|apply qmv|apply qas|apply qlc|apply qla|apply qix|apply qls|apply qni|apply qad|apply qln)<;>(first|exact rfl|assumption|exact Ar.mk (by omega)|exact dct (by first|assumption|omega)|exact dcf (by first|assumption|omega)|exact List.not_mem_nil|apply dc_length|exact nm1 (by omega)|fail))|fail) ?_)
        refine CG.tail mixed 3 [0, 1, 2] (by kernel_rfl) ?_
        repeat (refine cY rfl rfl rfl (by first|(apply qi64<;>(first|exact rfl|assumption|exact Ar.mk (by omega)|exact dct (by first|assumption|omega)|exact dcf (by first|assumption|omega)|exact List.not_mem_nil|apply dc_length|exact nm1 (by omega)|fail))|((first|apply qri|apply qia|apply qmv|apply qas|apply qlc|apply qla|apply qix|apply qls|apply qni|apply qad|apply qln)<;>(first|exact rfl|assumption|exact Ar.mk (by omega)|exact dct (by first|assumption|omega)|exact dcf (by first|assumption|omega)|exact List.not_mem_nil|apply dc_length|exact nm1 (by omega)|fail))|fail) ?_)
        refine Der.call rfl rfl rfl (vs := [dv (⟨r, h8⟩ : Dg)]) (by repeat' (first | exact True.intro | exact rho_of rfl | refine And.intro ?_ ?_)) (fun w _ _ => rnum_spec ⟨r, h8⟩ w) ?_
        refine Der.tl (fun w12 hk12 _ _ => ?_)
        refine SG.ret rfl rfl rfl (by repeat' (first | exact True.intro | exact rho_of rfl | refine And.intro ?_ ?_)) (rin_spec (eightsI s (padAll l) q) (num (⟨r, h8⟩ : Dg) : Int) w12) (fun w13 hk13 => ?_)
        refine SG.setAll (old := hsl (eightsI s (padAll l) q)) (l := hsl (takeI (eightsI s (padAll l) q) (num (⟨r, h8⟩ : Dg) : Int))) rfl rfl (by exact rho_of rfl) (by exact rho_of rfl) ((hBs.kp0 hk12).kp0 hk13) rfl rfl rfl (fun w14 hk14 hB14 => ?_)
        have ez : ((q * 8 : Nat) : Int) + 8 = (((q + 1) * 8 : Nat) : Int) := by omega
        repeat (first|apply cA|apply cB|apply cD|apply cE|apply cF|apply cG|apply cH|apply cJ|apply cM|refine cQ rfl ?_|apply cU|refine cV rfl rfl rfl rfl (by first|(apply qi64<;>(first|exact rfl|assumption|exact Ar.mk (by omega)|exact dct (by first|assumption|omega)|exact dcf (by first|assumption|omega)|exact List.not_mem_nil|apply dc_length|exact nm1 (by omega)|fail))|((first|apply qri|apply qia|apply qmv|apply qas|apply qlc|apply qla|apply qix|apply qls|apply qni|apply qad|apply qln)<;>(first|exact rfl|assumption|exact Ar.mk (by omega)|exact dct (by first|assumption|omega)|exact dcf (by first|assumption|omega)|exact List.not_mem_nil|apply dc_length|exact nm1 (by omega)|fail))|fail) ?_)
        rw [ez]
        have kk : Kp [b1] w8 w14 := ((((hk9.trans_new hk10 (new1 (by omega))).trans_new k11 (new1 (by omega))).trans hk12).trans hk13).any.trans hk14
        refine NG.round (q + 1) (by (repeat' (first | exact True.intro | exact rfl | refine And.intro ?_ ?_))) ⟨by omega, k8.trans kk, ?_⟩ (by omega)
        rw [eights_step, hr]
        exact hB14
    · have g2 : ¬ ((q * 8 : Nat) : Int) < ((padAll l).length : Int) := by omega
      have eq : q = M := by omega
      subst eq
      have hrs := Row.all (l := hsl (eightsI s (padAll l) q)) hB8 rfl
      repeat (first|apply cA|apply cB|apply cD|apply cE|apply cF|apply cG|apply cH|apply cJ|apply cM|refine cQ rfl ?_|apply cU|refine cV rfl rfl rfl rfl (by first|(apply qi64<;>(first|exact rfl|assumption|exact Ar.mk (by omega)|exact dct (by first|assumption|omega)|exact dcf (by first|assumption|omega)|exact List.not_mem_nil|apply dc_length|exact nm1 (by omega)|fail))|((first|apply qri|apply qia|apply qmv|apply qas|apply qlc|apply qla|apply qix|apply qls|apply qni|apply qad|apply qln)<;>(first|exact rfl|assumption|exact Ar.mk (by omega)|exact dct (by first|assumption|omega)|exact dcf (by first|assumption|omega)|exact List.not_mem_nil|apply dc_length|exact nm1 (by omega)|fail))|fail) ?_)
      refine dA rfl (by exact rho_of rfl) rfl ?_
      repeat (first|apply cA|apply cB|apply cD|apply cE|apply cF|apply cG|apply cH|apply cJ|apply cM|refine cQ rfl ?_|apply cU|refine cV rfl rfl rfl rfl (by first|(apply qi64<;>(first|exact rfl|assumption|exact Ar.mk (by omega)|exact dct (by first|assumption|omega)|exact dcf (by first|assumption|omega)|exact List.not_mem_nil|apply dc_length|exact nm1 (by omega)|fail))|((first|apply qri|apply qia|apply qmv|apply qas|apply qlc|apply qla|apply qix|apply qls|apply qni|apply qad|apply qln)<;>(first|exact rfl|assumption|exact Ar.mk (by omega)|exact dct (by first|assumption|omega)|exact dcf (by first|assumption|omega)|exact List.not_mem_nil|apply dc_length|exact nm1 (by omega)|fail))|fail) ?_)
      refine SG.ret rfl rfl rfl (by repeat' (first | exact True.intro | exact rho_of rfl | refine And.intro ?_ ?_)) (rin_spec (eightsI s (padAll l) q) (l.length : Int) w8) (fun w9 hk9 => ?_)
      refine SG.setAll (old := hsl ⟨0, 0, 0, 0⟩) (l := hsl (bytesI s l)) rfl rfl (by exact rho_of rfl) ?_ (((hB27.kp k8 (nm1 (by omega))).kp0 hk9)) rfl rfl rfl (fun w10 hk10 hB10 => ?_)
      · rw [← hM, eights_pad]
        exact rho_of rfl
      · have hr10 : Row w10 b2 0 (hsl (bytesI s l)) := Row.all hB10 rfl
        repeat (first|apply cA|apply cB|apply cD|apply cE|apply cF|apply cG|apply cH|apply cJ|apply cM|refine cQ rfl ?_|apply cU|refine cV rfl rfl rfl rfl (by first|(apply qi64<;>(first|exact rfl|assumption|exact Ar.mk (by omega)|exact dct (by first|assumption|omega)|exact dcf (by first|assumption|omega)|exact List.not_mem_nil|apply dc_length|exact nm1 (by omega)|fail))|((first|apply qri|apply qia|apply qmv|apply qas|apply qlc|apply qla|apply qix|apply qls|apply qni|apply qad|apply qln)<;>(first|exact rfl|assumption|exact Ar.mk (by omega)|exact dct (by first|assumption|omega)|exact dcf (by first|assumption|omega)|exact List.not_mem_nil|apply dc_length|exact nm1 (by omega)|fail))|fail) ?_)
        refine ret1 (Or.inl rfl) Tryz.results54 (by first | exact ResV.tmp rfl | exact ResV.agg rfl rfl (by assumption) (by first | exact dc_length _ | exact nc_length _ | exact rc_length _ _ _ | exact ec_length _ | exact dl_length _ _ _ _ | rfl) | exact ResV.cell rfl rfl (by assumption)) ?_
        exact ⟨rfl, (((k2.trans k7).trans_new k8 (new1 (by omega))).trans hk9).trans_new hk10 (new1 (by omega))⟩
end Go.Proofs.YtgbgnlboogalgaaGreat
namespace Go.Proofs.YtgbgnlboogalgaaGreat
open Go.Proofs
set_option linter.unusedVariables false
theorem putS_nat (n : Nat) : toB (addI 128 ((n : Int) % 128)) = UInt8.ofNat (128 + n % 128) := by
  have e : (128 : Int) + (n : Int) % 128 = ((128 + n % 128 : Nat) : Int) := by omega
  have e2 : addI 128 ((n : Int) % 128) = ((128 + n % 128 : Nat) : Int) := by
    unfold addI
    rw [e]
    exact wrap64_nat (by omega)
  rw [e2, toB_nat]
attribute [local irreducible] CG NG SG Vals Der Row Blk MapIs IterAt addI xorI orI andI shlI shrI mulI
set_option maxHeartbeats 8000000 in
theorem rof_spec {w : World} {a : Option Addr} {c : Nat} {l : List UInt8} (hS : Sl by1 1 w a l) (hl : l.length ≤ 100000000) : Ret Tryz.prog 22 #[.slice a l.length c] w (dv (ofI l)) := by
  refine enter1 Tryz.func22 rfl Tryz.ntmps22 rfl ?_
  repeat (first|apply cA|apply cB|apply cD|apply cE|apply cF|apply cG|apply cH|apply cJ|apply cM|refine cQ rfl ?_|apply cU|refine cV rfl rfl rfl rfl (by first|(apply q64b<;>(first|exact rfl|assumption|exact Ar.mk (by omega)|exact dct (by first|assumption|omega)|exact dcf (by first|assumption|omega)|exact List.not_mem_nil|apply dc_length|exact nm1 (by omega)|fail))|(apply qi64<;>(first|exact rfl|assumption|exact Ar.mk (by omega)|exact dct (by first|assumption|omega)|exact dcf (by first|assumption|omega)|exact List.not_mem_nil|apply dc_length|exact nm1 (by omega)|fail))|((first|apply quad|apply qqu|apply qru|apply qmv|apply qas|apply qla|apply qix|apply qls|apply qad|apply qln|apply qge)<;>(first|exact rfl|assumption|exact Ar.mk (by omega)|exact dct (by first|assumption|omega)|exact dcf (by first|assumption|omega)|exact List.not_mem_nil|apply dc_length|exact nm1 (by omega)|fail))|fail) ?_)
  refine SG.alloc rfl rfl rfl (fun b2 w1 hk1 hb2 hB2 => ?_)
  have hB2 : Blk w1 b2 (.cells (dc zd).toArray 24) := hB2
  repeat (first|apply cA|apply cB|apply cD|apply cE|apply cF|apply cG|apply cH|apply cJ|apply cM|refine cQ rfl ?_|apply cU|refine cV rfl rfl rfl rfl (by first|(apply q64b<;>(first|exact rfl|assumption|exact Ar.mk (by omega)|exact dct (by first|assumption|omega)|exact dcf (by first|assumption|omega)|exact List.not_mem_nil|apply dc_length|exact nm1 (by omega)|fail))|(apply qi64<;>(first|exact rfl|assumption|exact Ar.mk (by omega)|exact dct (by first|assumption|omega)|exact dcf (by first|assumption|omega)|exact List.not_mem_nil|apply dc_length|exact nm1 (by omega)|fail))|((first|apply quad|apply qqu|apply qru|apply qmv|apply qas|apply qla|apply qix|apply qls|apply qad|apply qln|apply qge)<;>(first|exact rfl|assumption|exact Ar.mk (by omega)|exact dct (by first|assumption|omega)|exact dcf (by first|assumption|omega)|exact List.not_mem_nil|apply dc_length|exact nm1 (by omega)|fail))|fail) ?_)
  refine SG.ret rfl rfl rfl (by repeat' (first | exact True.intro | exact rho_of rfl | refine And.intro ?_ ?_)) (rbegin_spec 1 w1) (fun w2 hk2 => ?_)
  repeat (first|apply cA|apply cB|apply cD|apply cE|apply cF|apply cG|apply cH|apply cJ|apply cM|refine cQ rfl ?_|apply cU|refine cV rfl rfl rfl rfl (by first|(apply q64b<;>(first|exact rfl|assumption|exact Ar.mk (by omega)|exact dct (by first|assumption|omega)|exact dcf (by first|assumption|omega)|exact List.not_mem_nil|apply dc_length|exact nm1 (by omega)|fail))|(apply qi64<;>(first|exact rfl|assumption|exact Ar.mk (by omega)|exact dct (by first|assumption|omega)|exact dcf (by first|assumption|omega)|exact List.not_mem_nil|apply dc_length|exact nm1 (by omega)|fail))|((first|apply quad|apply qqu|apply qru|apply qmv|apply qas|apply qla|apply qix|apply qls|apply qad|apply qln|apply qge)<;>(first|exact rfl|assumption|exact Ar.mk (by omega)|exact dct (by first|assumption|omega)|exact dcf (by first|assumption|omega)|exact List.not_mem_nil|apply dc_length|exact nm1 (by omega)|fail))|fail) ?_)
  refine SG.ret rfl rfl rfl (by repeat' (first | exact True.intro | exact rho_of rfl | refine And.intro ?_ ?_)) (rbytes_spec (s := beginI 1) (c := c) ((hS.kp0 hk1).kp0 hk2) hl) (fun w3 hk3 => ?_)
  refine SG.ret rfl rfl rfl (by repeat' (first | exact True.intro | exact rho_of rfl | refine And.intro ?_ ?_)) (rout_spec _ w3) (fun w4 hk4 => ?_)
  refine SG.setAll (old := dc zd) (l := dc (ofI l)) rfl rfl (by exact rho_of rfl) (by exact rho_of rfl) (((hB2.kp0 hk2).kp0 hk3).kp0 hk4) (dc_length _) (dc_length _) (dc_one _) (fun w5 hk5 hB5 => ?_)
  have hr4 : Row w5 b2 0 (dc (ofI l)) := Row.all hB5 rfl
  repeat (first|apply cA|apply cB|apply cD|apply cE|apply cF|apply cG|apply cH|apply cJ|apply cM|refine cQ rfl ?_|apply cU|refine cV rfl rfl rfl rfl (by first|(apply q64b<;>(first|exact rfl|assumption|exact Ar.mk (by omega)|exact dct (by first|assumption|omega)|exact dcf (by first|assumption|omega)|exact List.not_mem_nil|apply dc_length|exact nm1 (by omega)|fail))|(apply qi64<;>(first|exact rfl|assumption|exact Ar.mk (by omega)|exact dct (by first|assumption|omega)|exact dcf (by first|assumption|omega)|exact List.not_mem_nil|apply dc_length|exact nm1 (by omega)|fail))|((first|apply quad|apply qqu|apply qru|apply qmv|apply qas|apply qla|apply qix|apply qls|apply qad|apply qln|apply qge)<;>(first|exact rfl|assumption|exact Ar.mk (by omega)|exact dct (by first|assumption|omega)|exact dcf (by first|assumption|omega)|exact List.not_mem_nil|apply dc_length|exact nm1 (by omega)|fail))|fail) ?_)
  refine ret1 (Or.inl rfl) Tryz.results22 (by first | exact ResV.tmp rfl | exact ResV.agg rfl rfl (by assumption) (by first | exact dc_length _ | exact nc_length _ | exact rc_length _ _ _ | exact ec_length _ | exact dl_length _ _ _ _ | rfl) | exact ResV.cell rfl rfl (by assumption)) ?_
  exact ⟨rfl, (((hk1.trans hk2).trans hk3).trans hk4).trans_new hk5 (new1 (by omega))⟩
set_option maxHeartbeats 8000000 in
theorem rput_spec (n : Nat) (hn : n < 18446744073709551616) (w : World) : RetO Tryz.prog 5 by1 1 78 #[.int .u64 (n : Int)] w (putU n) := by
  refine enter1 Tryz.func78 rfl Tryz.ntmps78 rfl ?_
  repeat (first|apply cA|apply cB|apply cD|apply cE|apply cF|apply cG|apply cH|apply cJ|apply cM|refine cQ rfl ?_|apply cU|refine cV rfl rfl rfl rfl (by first|(apply q64b<;>(first|exact rfl|assumption|exact Ar.mk (by omega)|exact dct (by first|assumption|omega)|exact dcf (by first|assumption|omega)|exact List.not_mem_nil|apply dc_length|exact nm1 (by omega)|fail))|(apply qi64<;>(first|exact rfl|assumption|exact Ar.mk (by omega)|exact dct (by first|assumption|omega)|exact dcf (by first|assumption|omega)|exact List.not_mem_nil|apply dc_length|exact nm1 (by omega)|fail))|((first|apply quad|apply qqu|apply qru|apply qmv|apply qas|apply qla|apply qix|apply qls|apply qad|apply qln|apply qge)<;>(first|exact rfl|assumption|exact Ar.mk (by omega)|exact dct (by first|assumption|omega)|exact dcf (by first|assumption|omega)|exact List.not_mem_nil|apply dc_length|exact nm1 (by omega)|fail))|fail) ?_)
  refine CG.loop (X := Value × Nat × List UInt8 × Nat) (fun x => [(0, .int .u64 (x.2.2.2 : Int)), (3, x.1)])
    (fun x w' => w'.ownsRow w.heap.size 5 1 x.1 x.2.2.1.length (flt by1 x.2.2.1) ∧ x.2.1 ≤ 10 ∧ x.2.2.1.length = 10 - x.2.1 ∧ x.2.2.2 < 128 ^ (x.2.1 + 1) ∧ x.2.2.1 ++ putN x.2.1 x.2.2.2 = putU n ∧ Kp [] w w' ∧ Ar (0 ≤ (x.2.2.2 : Int) ∧ (x.2.2.2 : Int) < 18446744073709551616 ∧ (0 : Int) < 128)) (fun x => x.2.1) (.slice none 0 0, 10, [], n) ⟨own_nil, Nat.le_refl _, rfl, Nat.lt_of_lt_of_le hn (show 18446744073709551616 ≤ 128 ^ 11 by decide), rfl, Kp.refl _ _, ⟨by simp only; omega⟩⟩ (by (repeat' (first | exact True.intro | exact rfl | refine And.intro ?_ ?_))) ?_
  clear hn
  rintro ⟨v1, f, done, m⟩ w1 ⟨ho1, hf, hd, hm, hp, hk1, hm64⟩
  simp only at ho1 hf hd hm hp hm64
  refine CG.to [(0, .int .u64 (m : Int)), (3, v1)] (by (repeat' (first | exact True.intro | exact rfl | refine And.intro ?_ ?_))) ?_
  have hs1 := hk1.size
  by_cases hlt : m < 128
  · have g1 : ¬ (128 : Int) ≤ (m : Int) := by omega
    have hput : putN f m = [UInt8.ofNat m] := by
      cases f with
      | zero => rfl
      | succ f => simp [putN, hlt]
    rw [hput] at hp
    repeat (first|apply cA|apply cB|apply cD|apply cE|apply cF|apply cG|apply cH|apply cJ|apply cM|refine cQ rfl ?_|apply cU|refine cV rfl rfl rfl rfl (by first|(apply q64b<;>(first|exact rfl|assumption|exact Ar.mk (by omega)|exact dct (by first|assumption|omega)|exact dcf (by first|assumption|omega)|exact List.not_mem_nil|apply dc_length|exact nm1 (by omega)|fail))|(apply qi64<;>(first|exact rfl|assumption|exact Ar.mk (by omega)|exact dct (by first|assumption|omega)|exact dcf (by first|assumption|omega)|exact List.not_mem_nil|apply dc_length|exact nm1 (by omega)|fail))|((first|apply quad|apply qqu|apply qru|apply qmv|apply qas|apply qla|apply qix|apply qls|apply qad|apply qln|apply qge)<;>(first|exact rfl|assumption|exact Ar.mk (by omega)|exact dct (by first|assumption|omega)|exact dcf (by first|assumption|omega)|exact List.not_mem_nil|apply dc_length|exact nm1 (by omega)|fail))|fail) ?_)
    refine dA rfl (by exact rho_of rfl) rfl ?_
    repeat (first|apply cA|apply cB|apply cD|apply cE|apply cF|apply cG|apply cH|apply cJ|apply cM|refine cQ rfl ?_|apply cU|refine cV rfl rfl rfl rfl (by first|(apply q64b<;>(first|exact rfl|assumption|exact Ar.mk (by omega)|exact dct (by first|assumption|omega)|exact dcf (by first|assumption|omega)|exact List.not_mem_nil|apply dc_length|exact nm1 (by omega)|fail))|(apply qi64<;>(first|exact rfl|assumption|exact Ar.mk (by omega)|exact dct (by first|assumption|omega)|exact dcf (by first|assumption|omega)|exact List.not_mem_nil|apply dc_length|exact nm1 (by omega)|fail))|((first|apply quad|apply qqu|apply qru|apply qmv|apply qas|apply qla|apply qix|apply qls|apply qad|apply qln|apply qge)<;>(first|exact rfl|assumption|exact Ar.mk (by omega)|exact dct (by first|assumption|omega)|exact dcf (by first|assumption|omega)|exact List.not_mem_nil|apply dc_length|exact nm1 (by omega)|fail))|fail) ?_)
    rw [toB_nat]
    refine SG.buildSlice rfl rfl rfl rfl (bs1 (UInt8.ofNat m)) (fun b2 w2 hk2 hb2 hB2 => ?_)
    have hS2 : Sl by1 1 w2 (some ⟨b2, 0, none⟩) [UInt8.ofNat m] := Sl.of_blk (pre := []) (post := []) by1_len (l := [UInt8.ofNat m]) (T := 5) hB2
    refine SG.appO (enc := by1) (xs := done) (ys := [UInt8.ofNat m]) (base := w.heap.size) rfl rfl rfl (by exact rho_of rfl) (by exact rho_of rfl) rfl rfl rfl rfl by1_len by1_one (own_kp0 ho1 hk2) hS2 (by simp only [maxLen, List.length_cons, List.length_nil]; omega) (by show (done.length + 1) * 1 ≤ _; omega) (Nat.le_trans hs1 hk2.size) (fun v3 w3 hk3 ho3 hw3 => ?_)
    rw [hp] at ho3
    repeat (first|apply cA|apply cB|apply cD|apply cE|apply cF|apply cG|apply cH|apply cJ|apply cM|refine cQ rfl ?_|apply cU|refine cV rfl rfl rfl rfl (by first|(apply q64b<;>(first|exact rfl|assumption|exact Ar.mk (by omega)|exact dct (by first|assumption|omega)|exact dcf (by first|assumption|omega)|exact List.not_mem_nil|apply dc_length|exact nm1 (by omega)|fail))|(apply qi64<;>(first|exact rfl|assumption|exact Ar.mk (by omega)|exact dct (by first|assumption|omega)|exact dcf (by first|assumption|omega)|exact List.not_mem_nil|apply dc_length|exact nm1 (by omega)|fail))|((first|apply quad|apply qqu|apply qru|apply qmv|apply qas|apply qla|apply qix|apply qls|apply qad|apply qln|apply qge)<;>(first|exact rfl|assumption|exact Ar.mk (by omega)|exact dct (by first|assumption|omega)|exact dcf (by first|assumption|omega)|exact List.not_mem_nil|apply dc_length|exact nm1 (by omega)|fail))|fail) ?_)
    refine ret1 (Or.inl rfl) Tryz.results78 (by first | exact ResV.tmp rfl | exact ResV.agg rfl rfl (by assumption) (by first | exact dc_length _ | exact nc_length _ | exact rc_length _ _ _ | exact ec_length _ | exact dl_length _ _ _ _ | rfl) | exact ResV.cell rfl rfl (by assumption)) ?_
    exact ⟨_, rfl, ho3, (hk1.trans hk2).trans_new hk3 (own_new (own_kp0 ho1 hk2) (Nat.le_refl _))⟩
  · have g1 : (128 : Int) ≤ (m : Int) := by omega
    cases f with
    | zero => simp at hm; omega
    | succ f =>
      have hput : putN (f + 1) m = UInt8.ofNat (128 + m % 128) :: putN f (m / 128) := by simp [putN, hlt]
      rw [hput] at hp
      have e8 := putS_nat m
      have e9 : (m : Int) / 128 = ((m / 128 : Nat) : Int) := by omega
      repeat (first|apply cA|apply cB|apply cD|apply cE|apply cF|apply cG|apply cH|apply cJ|apply cM|refine cQ rfl ?_|apply cU|refine cV rfl rfl rfl rfl (by first|(apply q64b<;>(first|exact rfl|assumption|exact Ar.mk (by omega)|exact dct (by first|assumption|omega)|exact dcf (by first|assumption|omega)|exact List.not_mem_nil|apply dc_length|exact nm1 (by omega)|fail))|(apply qi64<;>(first|exact rfl|assumption|exact Ar.mk (by omega)|exact dct (by first|assumption|omega)|exact dcf (by first|assumption|omega)|exact List.not_mem_nil|apply dc_length|exact nm1 (by omega)|fail))|((first|apply quad|apply qqu|apply qru|apply qmv|apply qas|apply qla|apply qix|apply qls|apply qad|apply qln|apply qge)<;>(first|exact rfl|assumption|exact Ar.mk (by omega)|exact dct (by first|assumption|omega)|exact dcf (by first|assumption|omega)|exact List.not_mem_nil|apply dc_length|exact nm1 (by omega)|fail))|fail) ?_)
      refine cZ rfl (by exact rho_of rfl) rfl ?_
      repeat (first|apply cA|apply cB|apply cD|apply cE|apply cF|apply cG|apply cH|apply cJ|apply cM|refine cQ rfl ?_|apply cU|refine cV rfl rfl rfl rfl (by first|(apply q64b<;>(first|exact rfl|assumption|exact Ar.mk (by omega)|exact dct (by first|assumption|omega)|exact dcf (by first|assumption|omega)|exact List.not_mem_nil|apply dc_length|exact nm1 (by omega)|fail))|(apply qi64<;>(first|exact rfl|assumption|exact Ar.mk (by omega)|exact dct (by first|assumption|omega)|exact dcf (by first|assumption|omega)|exact List.not_mem_nil|apply dc_length|exact nm1 (by omega)|fail))|((first|apply quad|apply qqu|apply qru|apply qmv|apply qas|apply qla|apply qix|apply qls|apply qad|apply qln|apply qge)<;>(first|exact rfl|assumption|exact Ar.mk (by omega)|exact dct (by first|assumption|omega)|exact dcf (by first|assumption|omega)|exact List.not_mem_nil|apply dc_length|exact nm1 (by omega)|fail))|fail) ?_)
      rw [e8]
      refine SG.buildSlice rfl rfl rfl rfl (bs1 (UInt8.ofNat (128 + m % 128))) (fun b2 w2 hk2 hb2 hB2 => ?_)
      have hS2 : Sl by1 1 w2 (some ⟨b2, 0, none⟩) [UInt8.ofNat (128 + m % 128)] := Sl.of_blk (pre := []) (post := []) by1_len (l := [UInt8.ofNat (128 + m % 128)]) (T := 5) hB2
      refine SG.appO (enc := by1) (xs := done) (ys := [UInt8.ofNat (128 + m % 128)]) (base := w.heap.size) rfl rfl rfl (by exact rho_of rfl) (by exact rho_of rfl) rfl rfl rfl rfl by1_len by1_one (own_kp0 ho1 hk2) hS2 (by simp only [maxLen, List.length_cons, List.length_nil]; omega) (by show (done.length + 1) * 1 ≤ _; omega) (Nat.le_trans hs1 hk2.size) (fun v3 w3 hk3 ho3 hw3 => ?_)
      repeat (first|apply cA|apply cB|apply cD|apply cE|apply cF|apply cG|apply cH|apply cJ|apply cM|refine cQ rfl ?_|apply cU|refine cV rfl rfl rfl rfl (by first|(apply q64b<;>(first|exact rfl|assumption|exact Ar.mk (by omega)|exact dct (by first|assumption|omega)|exact dcf (by first|assumption|omega)|exact List.not_mem_nil|apply dc_length|exact nm1 (by omega)|fail))|(apply qi64<;>(first|exact rfl|assumption|exact Ar.mk (by omega)|exact dct (by first|assumption|omega)|exact dcf (by first|assumption|omega)|exact List.not_mem_nil|apply dc_length|exact nm1 (by omega)|fail))|((first|apply quad|apply qqu|apply qru|apply qmv|apply qas|apply qla|apply qix|apply qls|apply qad|apply qln|apply qge)<;>(first|exact rfl|assumption|exact Ar.mk (by omega)|exact dct (by first|assumption|omega)|exact dcf (by first|assumption|omega)|exact List.not_mem_nil|apply dc_length|exact nm1 (by omega)|fail))|fail) ?_)
      rw [e9]
      have hm' := hm64.h
      refine NG.round (v3, f, done ++ [UInt8.ofNat (128 + m % 128)], m / 128) (by (repeat' (first | exact True.intro | exact rfl | refine And.intro ?_ ?_))) ⟨ho3, by simp only; omega, by simp; omega, ?_, by simp only [List.append_assoc, List.singleton_append]; exact hp, (hk1.trans hk2).trans_new hk3 (own_new (own_kp0 ho1 hk2) (Nat.le_refl _)), ⟨by simp only; omega⟩⟩ (by simp only; omega)
      simp only
      rw [Nat.pow_succ] at hm
      exact Nat.div_lt_of_lt_mul (by rw [Nat.mul_comm]; exact hm)
set_option maxHeartbeats 8000000 in
theorem rpb_spec {w : World} {a : Option Addr} {c : Nat} {l : List UInt8} (hS : Sl by1 1 w a l) (hl : l.length ≤ 100000000) : RetO Tryz.prog 5 by1 1 57 #[.slice a l.length c] w (putU l.length ++ l) := by
  refine enter1 Tryz.func57 rfl Tryz.ntmps57 rfl ?_
  have hp := putN_len 10 l.length
  have hsp := fun w => rput_spec l.length (by omega) w
  repeat (first|apply cA|apply cB|apply cD|apply cE|apply cF|apply cG|apply cH|apply cJ|apply cM|refine cQ rfl ?_|apply cU|refine cV rfl rfl rfl rfl (by first|(apply q64b<;>(first|exact rfl|assumption|exact Ar.mk (by omega)|exact dct (by first|assumption|omega)|exact dcf (by first|assumption|omega)|exact List.not_mem_nil|apply dc_length|exact nm1 (by omega)|fail))|(apply qi64<;>(first|exact rfl|assumption|exact Ar.mk (by omega)|exact dct (by first|assumption|omega)|exact dcf (by first|assumption|omega)|exact List.not_mem_nil|apply dc_length|exact nm1 (by omega)|fail))|((first|apply quad|apply qqu|apply qru|apply qmv|apply qas|apply qla|apply qix|apply qls|apply qad|apply qln|apply qge)<;>(first|exact rfl|assumption|exact Ar.mk (by omega)|exact dct (by first|assumption|omega)|exact dcf (by first|assumption|omega)|exact List.not_mem_nil|apply dc_length|exact nm1 (by omega)|fail))|fail) ?_)
  refine SG.call rfl rfl rfl (by repeat' (first | exact True.intro | exact rho_of rfl | refine And.intro ?_ ?_)) ((hsp w).mono (fun e w1 hh => ?_))
  obtain ⟨v1, he, ho1, hk1⟩ := hh
  refine ⟨_, he, ?_⟩
  repeat (first|apply cA|apply cB|apply cD|apply cE|apply cF|apply cG|apply cH|apply cJ|apply cM|refine cQ rfl ?_|apply cU|refine cV rfl rfl rfl rfl (by first|(apply q64b<;>(first|exact rfl|assumption|exact Ar.mk (by omega)|exact dct (by first|assumption|omega)|exact dcf (by first|assumption|omega)|exact List.not_mem_nil|apply dc_length|exact nm1 (by omega)|fail))|(apply qi64<;>(first|exact rfl|assumption|exact Ar.mk (by omega)|exact dct (by first|assumption|omega)|exact dcf (by first|assumption|omega)|exact List.not_mem_nil|apply dc_length|exact nm1 (by omega)|fail))|((first|apply quad|apply qqu|apply qru|apply qmv|apply qas|apply qla|apply qix|apply qls|apply qad|apply qln|apply qge)<;>(first|exact rfl|assumption|exact Ar.mk (by omega)|exact dct (by first|assumption|omega)|exact dcf (by first|assumption|omega)|exact List.not_mem_nil|apply dc_length|exact nm1 (by omega)|fail))|fail) ?_)
  refine SG.appO (enc := by1) (xs := putU l.length) (ys := l) (base := w.heap.size) rfl rfl rfl (by exact rho_of rfl) (by exact rho_of rfl) rfl rfl rfl rfl by1_len by1_one ho1 (hS.kp0 hk1) (by simp only [maxLen]; show (putN 10 l.length).length + _ ≤ _; omega) (by show ((putN 10 l.length).length + _) * 1 ≤ _; omega) hk1.size (fun v3 w3 hk3 ho3 hw3 => ?_)
  repeat (first|apply cA|apply cB|apply cD|apply cE|apply cF|apply cG|apply cH|apply cJ|apply cM|refine cQ rfl ?_|apply cU|refine cV rfl rfl rfl rfl (by first|(apply q64b<;>(first|exact rfl|assumption|exact Ar.mk (by omega)|exact dct (by first|assumption|omega)|exact dcf (by first|assumption|omega)|exact List.not_mem_nil|apply dc_length|exact nm1 (by omega)|fail))|(apply qi64<;>(first|exact rfl|assumption|exact Ar.mk (by omega)|exact dct (by first|assumption|omega)|exact dcf (by first|assumption|omega)|exact List.not_mem_nil|apply dc_length|exact nm1 (by omega)|fail))|((first|apply quad|apply qqu|apply qru|apply qmv|apply qas|apply qla|apply qix|apply qls|apply qad|apply qln|apply qge)<;>(first|exact rfl|assumption|exact Ar.mk (by omega)|exact dct (by first|assumption|omega)|exact dcf (by first|assumption|omega)|exact List.not_mem_nil|apply dc_length|exact nm1 (by omega)|fail))|fail) ?_)
  refine ret1 (Or.inl rfl) Tryz.results57 (by first | exact ResV.tmp rfl | exact ResV.agg rfl rfl (by assumption) (by first | exact dc_length _ | exact nc_length _ | exact rc_length _ _ _ | exact ec_length _ | exact dl_length _ _ _ _ | rfl) | exact ResV.cell rfl rfl (by assumption)) ?_
  exact ⟨_, rfl, ho3, hk1.trans_new hk3 (own_new ho1 (Nat.le_refl _))⟩
end Go.Proofs.YtgbgnlboogalgaaGreat
namespace Go.Proofs.YtgbgnlboogalgaaGreat
open Go.Proofs
set_option linter.unusedVariables false
theorem bytesT_len (t : Tx) : (bytesT t).length ≤ 66 + t.body.length + t.sig.length := by
  have p1 := headT_len t
  have p2 := putU_len' t.sig.length
  simp only [bytesT, putB, List.length_append]
  omega
attribute [local irreducible] CG NG SG Vals Der Row Blk MapIs IterAt addI xorI orI andI shlI shrI mulI DerX DerR
set_option maxHeartbeats 16000000 in
theorem rhead_spec {w : World} {x : Tm} (hx : Bs w x.a1 x.c1 x.t.body) (hl : x.t.body.length ≤ 10000000) : RetO Tryz.prog 5 by1 1 56 #[txv x] w (headT x.t) := by
  refine enter1 Tryz.func56 rfl Tryz.ntmps56 rfl ?_
  have p1 := putU_len' (u64N x.t.kind)
  have p2 := putU_len' (num x.t.frm)
  have p3 := putU_len' (u64N x.t.non)
  have p4 := putU_len' (u64N x.t.fee)
  have p5 := putU_len' x.t.body.length
  have c1 := fun w => rput_spec (u64N x.t.kind) (u64N_lt _) w
  have c2 := fun w => rput_spec (num x.t.frm) (num_lt _) w
  have c3 := fun w => rput_spec (u64N x.t.non) (u64N_lt _) w
  have c4 := fun w => rput_spec (u64N x.t.fee) (u64N_lt _) w
  generalize hk : putU (u64N x.t.kind) = k at p1 c1
  generalize hf : putU (num x.t.frm) = f at p2 c2
  generalize hn : putU (u64N x.t.non) = m at p3 c3
  generalize he : putU (u64N x.t.fee) = g at p4 c4
  repeat (first|apply cA|apply cB)
  refine SG.box rfl rfl rfl (by exact rho_of rfl) (fun b1 w1 hk1 hb1 hB1 => ?_)
  have hB1 : Blk w1 b1 (.cells (txc x).toArray 36) := hB1
  have l1 := hB1.lt
  obtain ⟨-, r0, r1, r2, r3, r4, -⟩ := txc_rows hB1
  have s1 := hk1.size
  repeat (first|apply cA|apply cD|apply cE|refine cV rfl rfl rfl rfl (by first|(apply qas<;>(exact rfl))|fail) ?_)
  refine CG.rows mixed 7 [0, 1, 2, 4, 5, 6, 3] [⟨3, 0, oB w1.heap.size k⟩] (by kernel_rfl) (by kernel_rfl) (by kernel_rfl) (OkL.all (by repeat' (first | exact OkL.nil | refine OkL.cons ?_ ?_ | exact oP_ok | exact bP_ok))) ?_
  repeat (refine DerR.val rfl rfl rfl rfl (by first|((first|apply qlc|apply qla|apply qfa|apply qcv)<;>(first|exact rfl|assumption|exact List.not_mem_nil|apply dc_length))|fail) ?_)
  rw [u64N_eq]
  refine DerR.call rfl rfl rfl rfl (vs := [dv x.t.frm]) (by repeat' (first | exact True.intro | exact rho_of rfl | refine And.intro ?_ ?_)) (fun W hk hF => rnum_spec x.t.frm W) ?_
  refine DerR.callO k rfl rfl rfl rfl (by repeat' (first | exact OkL.nil | refine OkL.cons ?_ ?_ | exact oP_ok | exact bP_ok)) (vs := [.int .u64 (u64N x.t.kind : Int)]) (by repeat' (first | exact True.intro | exact rho_of rfl | refine And.intro ?_ ?_)) (Nat.le_refl _) (fun W hk hF => c1 W) (fun v3 => ?_)
  refine DerR.tl (fun w2 V hok hV => ?_)
  have ho2 : w2.ownsRow w1.heap.size 5 1 v3 k.length (flt by1 k) := hok.get hV (.head _) rfl
  have hk2 := hok.kp
  clear hok hV
  refine SG.call rfl rfl rfl (vs := [.int .u64 (num x.t.frm : Int)]) (by repeat' (first | exact True.intro | exact rho_of rfl | refine And.intro ?_ ?_)) ((c2 w2).mono (fun e w3 hh => ?_))
  obtain ⟨v4, he', ho3, hk3⟩ := hh
  refine ⟨_, he', ?_⟩
  clear he'
  obtain ⟨a3, c3', rfl, -, hS3⟩ := Sl.own by1_len ho3 rfl
  have k13 := hk2.trans hk3
  have ho2 := own_kp0 ho2 hk3
  refine SG.appO (enc := by1) (xs := k) (ys := f) (base := w1.heap.size) rfl rfl rfl (by exact rho_of rfl) (by exact rho_of rfl) rfl rfl rfl rfl by1_len by1_one ho2 hS3 (by simp only [maxLen]; omega) (by show (_ + _) * 1 ≤ _; omega) k13.size (fun v5 w4 hk4 ho4 _ => ?_)
  have k14 : Kp [] w1 w4 := k13.trans_new hk4 (own_new ho2 (Nat.le_refl _))
  have hXl : (k ++ f).length ≤ 22 := by rw [List.length_append]; omega
  have hXe : k ++ f = putU (u64N x.t.kind) ++ putU (num x.t.frm) := by rw [hk, hf]
  generalize k ++ f = X at ho4 hXl hXe
  have r1 := r1.kp0 k14
  have r2 := r2.kp0 k14
  have r4 := r4.kp0 k14
  have hx4 := (hx.kp0 hk1).kp0 k14
  have s4 := k14.size
  clear r0 r3 ho2 ho3 hS3
  have nb1 := own_nb ho4 b1 (by omega)
  repeat (first|apply cA|apply cD|apply cE|refine cV rfl rfl rfl rfl (by first|(apply qas<;>(exact rfl))|fail) ?_)
  refine CG.rows1 (base := w1.heap.size) (enc := by1) (E := 5) (sz := 1) (v := v5) (l := X) mixed 9 [0, 1, 2, 3, 6, 7, 8, 4, 5] [⟨1000, 0, oB w1.heap.size X⟩, ⟨4, 1, oB w1.heap.size m⟩, ⟨5, 0, oB w1.heap.size (X ++ m)⟩] rfl ho4 (by kernel_rfl) (by kernel_rfl) (by repeat' (first | exact OkL.nil | refine OkL.cons ?_ ?_ | exact oP_ok | exact bP_ok)) ?_
  repeat (refine DerR.val rfl rfl rfl rfl (by first|((first|apply qmv|apply qlc|apply qfa|apply qcv)<;>(first|exact rfl|assumption))|fail) ?_)
  rw [u64N_eq]
  skip
  rw [u64N_eq]
  refine DerR.callO m rfl rfl rfl rfl (by repeat' (first | exact OkL.nil | refine OkL.cons ?_ ?_ | exact oP_ok | exact bP_ok)) (vs := [.int .u64 (u64N x.t.non : Int)]) (by repeat' (first | exact True.intro | exact rho_of rfl | refine And.intro ?_ ?_)) s4 (fun W hk hF => c3 W) (fun v6 => ?_)
  refine DerR.append (src := 1000) X m [(1000, X)] by1_len by1_one rfl rfl (by kernel_rfl) ⟨Nat.le_refl _, trivial⟩ rfl rfl rfl (by repeat' (first | exact OkL.nil | refine OkL.cons ?_ ?_ | exact oP_ok | exact bP_ok)) (by exact rho_of rfl) (by exact rho_of rfl) rfl rfl rfl (by simp only [maxLen]; omega) (by show (_ + _) * 1 ≤ _; omega) s4 (.tail _ (.head _)) (by kernel_rfl) (fun W hk hF => oP.sl by1_len (hF.get (.head _) (by kernel_rfl) rfl)) (fun v7 => ?_)
  refine DerR.tl (fun w5 V hok hV => ?_)
  have ho5 : w5.ownsRow w1.heap.size 5 1 v7 (X ++ m).length (flt by1 (X ++ m)) := hok.get hV (.head _) rfl
  have hk5 := hok.kp
  have hx5 := hx4.sl.kpN hk5 (fun hne b off e => own_nb ho4 b (by have := hx.lt hne b off e; omega))
  have r4 := r4.kp hk5 nb1
  have k15 : Kp [] w1 w5 := k14.trans_new hk5 (own_new ho4 (Nat.le_refl _))
  clear hok hV
  refine SG.call rfl rfl rfl (vs := [.int .u64 (u64N x.t.fee : Int)]) (by repeat' (first | exact True.intro | exact rho_of rfl | refine And.intro ?_ ?_)) ((c4 w5).mono (fun e w6 hh => ?_))
  obtain ⟨v8, he', ho6, hk6⟩ := hh
  refine ⟨_, he', ?_⟩
  clear he'
  obtain ⟨a6, c6, rfl, -, hS6⟩ := Sl.own by1_len ho6 rfl
  have k16 := k15.trans hk6
  have ho5 := own_kp0 ho5 hk6
  refine SG.appO (enc := by1) (xs := X ++ m) (ys := g) (base := w1.heap.size) rfl rfl rfl (by exact rho_of rfl) (by exact rho_of rfl) rfl rfl rfl rfl by1_len by1_one ho5 hS6 (by simp only [maxLen, List.length_append]; omega) (by simp only [List.length_append]; show (_ + _) * 1 ≤ _; omega) k16.size (fun v9 w7 hk7 ho7 _ => ?_)
  have nb1 := own_nb ho5 b1 (by omega)
  have k17 : Kp [] w1 w7 := k16.trans_new hk7 (own_new ho5 (Nat.le_refl _))
  have r4 := (r4.kp0 hk6).kp hk7 nb1
  have hx7 := (hx5.kp0 hk6).kpN hk7 (fun hne b off e => own_nb ho5 b (by have := hx.lt hne b off e; omega))
  repeat (first|apply cA|apply cB|apply cD|apply cE|refine cV rfl rfl rfl rfl (by first|((first|apply qmv|apply qas|apply qlc|apply qfa)<;>(first|exact rfl|assumption|exact List.not_mem_nil))|fail) ?_)
  refine SG.call rfl rfl rfl (vs := [x.b]) (by repeat' (first | exact True.intro | exact rho_of rfl | refine And.intro ?_ ?_)) ((rpb_spec (c := x.c1) hx7 (by omega)).mono (fun e w8 hh => ?_))
  obtain ⟨v10, he', ho8, hk8⟩ := hh
  refine ⟨_, he', ?_⟩
  clear he'
  obtain ⟨a8, c8, rfl, -, hS8⟩ := Sl.own by1_len ho8 rfl
  have k18 := k17.trans hk8
  have ho7 := own_kp0 ho7 hk8
  refine SG.appO (enc := by1) (xs := X ++ m ++ g) (ys := putU x.t.body.length ++ x.t.body) (base := w1.heap.size) rfl rfl rfl (by exact rho_of rfl) (by exact rho_of rfl) rfl rfl rfl rfl by1_len by1_one ho7 hS8 (by simp only [maxLen, List.length_append]; omega) (by simp only [List.length_append]; show (_ + _) * 1 ≤ _; omega) k18.size (fun v11 w9 hk9 ho9 _ => ?_)
  repeat (first|apply cD|apply cE|apply cH|refine cV rfl rfl rfl rfl (by first|(apply qas<;>(exact rfl))|fail) ?_)
  refine ret1 (Or.inl rfl) Tryz.results56 (by first | exact ResV.tmp rfl | exact ResV.agg rfl rfl (by assumption) (by first | exact dc_length _ | exact nc_length _ | exact rc_length _ _ _ | exact ec_length _ | exact dl_length _ _ _ _ | rfl) | exact ResV.cell rfl rfl (by assumption)) ?_
  refine ⟨_, rfl, ?_, hk1.trans (k18.trans_new hk9 (own_new ho7 (Nat.le_refl _)))⟩
  have e : headT x.t = X ++ m ++ g ++ (putU x.t.body.length ++ x.t.body) := by rw [hXe, ← hn, ← he]; rfl
  rw [e]
  exact own_mono ho9 s1
set_option maxHeartbeats 16000000 in
theorem rtbytes_spec {w : World} {n0 : Nat} {x : Tm} (hx : x.In n0 w) : RetO Tryz.prog 5 by1 1 23 #[txv x] w (bytesT x.t) := by
  refine enter1 Tryz.func23 rfl Tryz.ntmps23 rfl ?_
  have hl1 := hx.l1
  have hl2 := hx.l2
  have hh1 := headT_len x.t
  have p2 := putU_len' x.t.sig.length
  repeat (first|apply cA|apply cB)
  refine SG.box rfl rfl rfl (by exact rho_of rfl) (fun b1 w1 hk1 hb1 hB1 => ?_)
  have hB1 : Blk w1 b1 (.cells (txc x).toArray 36) := hB1
  have hx1 := hx.kp0 hk1
  obtain ⟨r, -, -, -, -, -, r5⟩ := txc_rows hB1
  repeat (first|apply cA|apply cD|apply cE|refine cV rfl rfl rfl rfl (by first|(apply qas<;>(exact rfl))|fail) ?_)
  refine CG.rows mixed 4 [0, 2, 3, 1] [⟨1, 0, oB w1.heap.size (headT x.t)⟩] (by kernel_rfl) (by kernel_rfl) (by kernel_rfl) (OkL.all (by repeat' (first | exact OkL.nil | refine OkL.cons ?_ ?_ | exact oP_ok | exact bP_ok))) ?_
  repeat (refine DerR.val rfl rfl rfl rfl (by first|((first|apply qlc|apply qla|apply qfa)<;>(first|exact rfl|assumption|exact List.not_mem_nil|apply txc_length))|fail) ?_)
  refine DerR.callO (headT x.t) rfl rfl rfl rfl (by repeat' (first | exact OkL.nil | refine OkL.cons ?_ ?_ | exact oP_ok | exact bP_ok)) (vs := [txv x]) (by repeat' (first | exact True.intro | exact rho_of rfl | refine And.intro ?_ ?_)) (Nat.le_refl _) (fun w hk hF => rhead_spec (hx1.b.kp0 hk) (by omega)) (fun v4 => ?_)
  refine DerR.tl (fun w3 V hok hV => ?_)
  have ho3 : w3.ownsRow w1.heap.size 5 1 v4 (headT x.t).length (flt by1 (headT x.t)) := hok.get hV (.head _) rfl
  have hk3 := hok.kp
  clear hV hok
  refine SG.call rfl rfl rfl (vs := [x.s]) (by repeat' (first | exact True.intro | exact rho_of rfl | refine And.intro ?_ ?_)) ((rpb_spec (c := x.c2) (hx1.s.kp0 hk3).sl (by omega)).mono (fun e w4 hh => ?_))
  obtain ⟨v5, he, ho4, hk4⟩ := hh
  refine ⟨_, he, ?_⟩
  clear he
  obtain ⟨a4, c4, rfl, -, hS4⟩ := Sl.own by1_len ho4 rfl
  have k4 := hk3.trans hk4
  have ho3 := own_kp0 ho3 hk4
  refine SG.appO (enc := by1) (xs := headT x.t) (ys := putU x.t.sig.length ++ x.t.sig) (base := w1.heap.size) rfl rfl rfl (by exact rho_of rfl) (by exact rho_of rfl) rfl rfl rfl rfl by1_len by1_one ho3 hS4 (by simp only [maxLen, List.length_append]; omega) (by simp only [List.length_append]; show (_ + _) * 1 ≤ _; omega) k4.size (fun v6 w5 hk5 ho5 _ => ?_)
  repeat (first|apply cD|apply cE|apply cH|refine cV rfl rfl rfl rfl (by first|(apply qas<;>(exact rfl))|fail) ?_)
  refine ret1 (Or.inl rfl) Tryz.results23 (by first | exact ResV.tmp rfl | exact ResV.agg rfl rfl (by assumption) (by first | exact dc_length _ | exact nc_length _ | exact rc_length _ _ _ | exact ec_length _ | exact dl_length _ _ _ _ | rfl) | exact ResV.cell rfl rfl (by assumption)) ?_
  exact ⟨_, rfl, own_mono ho5 hk1.size, hk1.trans (k4.trans_new hk5 (own_new ho3 (Nat.le_refl _)))⟩
set_option maxHeartbeats 16000000 in
theorem rname_spec {w : World} {n0 : Nat} {x : Tm} (hx : x.In n0 w) : Ret Tryz.prog 7 #[txv x] w (dv (nameT x.t)) := by
  refine enter1 Tryz.func7 rfl Tryz.ntmps7 rfl ?_
  have hl1 := hx.l1
  have hl2 := hx.l2
  have hh1 := bytesT_len x.t
  repeat (first|apply cA|apply cB)
  refine SG.box rfl rfl rfl (by exact rho_of rfl) (fun b1 w1 hk1 hb1 hB1 => ?_)
  have hB1 : Blk w1 b1 (.cells (txc x).toArray 36) := hB1
  refine SG.alloc rfl rfl rfl (fun b2 w2 hk2 hb2 hB2 => ?_)
  have hB2 : Blk w2 b2 (.cells (dc zd).toArray 24) := hB2
  have k2 := hk1.trans hk2
  obtain ⟨r, -⟩ := txc_rows (hB1.kp0 hk2)
  repeat (first|apply cA|apply cB|apply cD|apply cE|refine cV rfl rfl rfl rfl (by first|(apply qla<;>(first|exact rfl|assumption|exact List.not_mem_nil|apply txc_length))|fail) ?_)
  refine SG.call rfl rfl rfl (vs := [txv x]) (by repeat' (first | exact True.intro | exact rho_of rfl | refine And.intro ?_ ?_)) ((rtbytes_spec (hx.kp0 k2)).mono (fun e w3 hh => ?_))
  obtain ⟨v3, he, ho3, hk3⟩ := hh
  refine ⟨_, he, ?_⟩
  clear he
  obtain ⟨a3, c3, rfl, -, hS3⟩ := Sl.own by1_len ho3 rfl
  have k3 := k2.trans hk3
  refine SG.ret rfl rfl rfl (vs := [.slice a3 (bytesT x.t).length c3]) (by repeat' (first | exact True.intro | exact rho_of rfl | refine And.intro ?_ ?_)) (rof_spec (c := c3) hS3 (by omega)) (fun w4 hk4 => ?_)
  have e : ofI (bytesT x.t) = nameT x.t := rfl
  rw [e]
  have s1 := hk1.size
  refine SG.setAll (old := dc zd) (l := dc (nameT x.t)) rfl rfl (by exact rho_of rfl) (by exact rho_of rfl) ((hB2.kp0 hk3).kp0 hk4) (dc_length _) (dc_length _) (dc_one _) (fun w5 hk5 hB5 => ?_)
  have hr5 : Row w5 b2 0 (dc (nameT x.t)) := Row.all hB5 rfl
  repeat (first|apply cD|apply cE|apply cH)
  refine ret1 (Or.inl rfl) Tryz.results7 (by first | exact ResV.tmp rfl | exact ResV.agg rfl rfl (by assumption) (by first | exact dc_length _ | exact nc_length _ | exact rc_length _ _ _ | exact ec_length _ | exact dl_length _ _ _ _ | rfl) | exact ResV.cell rfl rfl (by assumption)) ?_
  exact ⟨rfl, (k3.trans hk4).trans_new hk5 (new1 (by omega))⟩
end Go.Proofs.YtgbgnlboogalgaaGreat
namespace Go.Proofs.YtgbgnlboogalgaaGreat
set_option linter.unusedVariables false
section
variable {P : Program} {n : Nat} {ops : List Oper} {Q : Exit → Act → World → Prop} {w0 : World} {L : Env} {G : List (Nat × GD)} {K : Env → List Fact → Prop} {Γ : List Fact} {i : Nat} {ord : List Nat} {ty : TypeId} {pos : String} {af : Array Edge} {g : Option (Nat × Bool)}
theorem DerX.storeW {m b : Nat} {T : TypeId} {inf : TypeInfo} [f : Inf P T inf] {a x : Operand} {l : List Value} (hg : gdLook G i = some (gP m T))
    (ho : ops[i]? = some ⟨none, .store T a x, ty, pos, af, g⟩) (hw : want ops L ⟨none, .store T a x, ty, pos, af, g⟩ = some true) (hk : (known L a && known L x) = true) (ha : Γ.all (fun p => anc ops i p.1) = true)
    (hpa : rho L a = .pointer (some ⟨b, 0, none⟩)) (hx : rho L x = .agg l.toArray) (hn : l.length = inf.size) (hm : w0.heap.size ≤ m)
    (hF : ∀ w, Kp [] w0 w → Facts ops i Γ w → (m ≤ b ∧ ∃ cs, Blk w b (.cells cs T) ∧ cs.size = inf.size) ∧ allOne l = true)
    (hkeep : ∀ p ∈ G, p.1 ≠ i → ∀ y w w' cs, m ≤ b → Blk w b (.cells cs T) → cs.size = inf.size → Kp [b] w w' → Blk w' b (.cells l.toArray T) → p.2.phi y w → p.2.phi y w')
    (h : DerX P w0 ops G K ord L ((i, fun w => m ≤ b ∧ Blk w b (.cells l.toArray T)) :: Γ)) : DerX P w0 ops G K (i :: ord) L Γ := by
  refine DerX.effD (gP m T) (b, l.toArray) hg ho hw (by simpa [Op.operands] using hk) ha (fun w h1 h2 => ?_) h
  obtain ⟨⟨g1, cs, g2, g3⟩, hone⟩ := hF w h1 h2
  unfold OpRun
  have hsp : (spl cs.toList 0 (Value.agg l.toArray).cells.toList) = l := by
    simp only [Value.cells]
    exact spl_all (by simp; omega)
  have hrun : (execOp (rho L) ⟨none, .store T a x, ty, pos, af, g⟩).run P w = .ok .skip { w with heap := w.heap.setIfInBounds b (.cells l.toArray T) } := by
    have := run_storeAt (P := P) (f := f) (off := 0) (v := .agg l.toArray) g2 (by simpa [Value.cells] using hn) (by simp [Value.cells]; omega) (by simpa [Value.cells] using hone)
    rw [hsp] at this
    simp only [execOp, hx, hpa, Sem.run_bind, this, Result.andThen, Sem.run_pure]
  rw [hrun]
  have hk' := Kp.set w (o' := .cells l.toArray T) g2 rfl rfl
  exact ⟨rfl, ⟨g1, g2.set _⟩, h1.trans_new hk' (new1 (by omega)), fun j y hj hp => gd_all (q := fun D => ∀ y, D.phi y w → D.phi y _) (fun _ _ => trivial) (fun p hp hne y hy => hkeep p hp hne y w _ cs g1 g2 g3 hk' (g2.set _) hy) j hj y hp⟩
end
section
variable {P : Program} {S : List Nat} {w0 : World} {F : World → Prop} {L : Env} {d : Option Nat} {ty : TypeId} {pos : String} {af : Array Edge} {g : Option (Nat × Bool)}
/-- A load of what an effect ahead has left. -/
theorem vals_loadF {T : TypeId} {x : Operand} {dsc : TypeDesc} {inf : TypeInfo} [u : Ut P T dsc] [f : Inf P T inf] {b off : Nat} {l : List Value} (hx : ro L x = some (.pointer (some ⟨b, off, none⟩))) (ha : aggB dsc = true) (hr : ∀ w, Kp S w0 w → F w → Row w b off l) (hl : l.length = inf.size) :
    Vals P S w0 F L ⟨d, .load T x, ty, pos, af, g⟩ (.agg l.toArray) := fun w hk hF => by simp [execOp, rho_of hx, run_loadAt_agg (u := u) (f := f) ha (hr w hk hF) hl]
end
end Go.Proofs.YtgbgnlboogalgaaGreat
namespace Go.Proofs.YtgbgnlboogalgaaGreat
open Go.Proofs
set_option linter.unusedVariables false
def nmW (d : Dg) (e : Wm) : Bool := decide (nameT e.x.t = d)
theorem find_w {ws : List Wm} {d : Dg} : findE (ws.map Wm.en) d = ((ordW ws).find? (nmW d)).map Wm.en := by
  unfold findE
  rw [← ordW_en, List.find?_map]
  rfl
theorem findW_none {ws : List Wm} {d : Dg} (h : ¬ (ordW ws).findIdx (nmW d) < (ordW ws).length) : findE (ws.map Wm.en) d = none := by
  rw [find_w]
  have : (ordW ws).find? (nmW d) = none := by
    rw [List.find?_eq_none]
    intro e he hh
    exact h (List.findIdx_lt_length.2 ⟨e, he, hh⟩)
  rw [this]
  rfl
theorem findW_some {ws : List Wm} {d : Dg} (h : (ordW ws).findIdx (nmW d) < (ordW ws).length) : findE (ws.map Wm.en) d = some (ordW ws)[(ordW ws).findIdx (nmW d)].en := by
  rw [find_w]
  have : (ordW ws).find? (nmW d) = some (ordW ws)[(ordW ws).findIdx (nmW d)] := by
    generalize ordW ws = r at h
    induction r with
    | nil => simp at h
    | cons x r ih =>
      by_cases hx : nmW d x = true
      · simp [List.find?_cons, List.findIdx_cons, hx]
      · have hx : nmW d x = false := by simpa using hx
        have h' : r.findIdx (nmW d) < r.length := by
          simp only [List.findIdx_cons, hx, List.length_cons, cond_false] at h
          omega
        simp only [List.find?_cons, List.findIdx_cons, hx, cond_false, ih h', List.getElem_cons_succ]
  rw [this]
  rfl
attribute [local irreducible] CG NG SG Vals Der Row Blk MapIs IterAt DerX DerR wrongT nameT
set_option maxHeartbeats 16000000 in
theorem rfind_spec {w : World} {n : Nat} {a : Option Addr} {c : Nat} {ws : List Wm} {room : Int} (hP : PD w n a c ws) (hl : ws.length ≤ 1024) (d : Dg) : Ret Tryz.prog 45 #[.agg (pdc room a ws.length c).toArray, dv d] w (.int .i64 (idxZ (nmW d) (ordW ws))) := by
  refine enter2 Tryz.func45 rfl Tryz.ntmps45 rfl ?_
  repeat (first|apply cA|apply cB)
  refine SG.box rfl rfl rfl (by exact rho_of rfl) (fun b2 w1 hk1 hb2 hB2 => ?_)
  refine SG.box rfl rfl rfl (by exact rho_of rfl) (fun b3 w2 hk2 hb3 hB3 => ?_)
  have hB2 : Blk w1 b2 (.cells (pdc room a ws.length c).toArray 29) := hB2
  have hB3 : Blk w2 b3 (.cells (dc d).toArray 24) := hB3
  obtain ⟨p0, -, -⟩ := pdc_rows (hB2.kp0 hk2)
  have r3 : Row w2 b3 0 (dc d) := Row.all hB3 rfl
  have k2 := hk1.trans hk2
  have hln := ordW_len ws
  have hin : ∀ e ∈ ordW ws, e.x.In n w2 := fun e he => (hP.ins e ((ordW_perm ws).mem_iff.1 he)).kp0 k2
  clear hB2 hB3
  repeat (first|apply cA|apply cB|apply cD|apply cE|refine cV rfl rfl rfl rfl (by first|((first|apply qas|apply qla)<;>(first|exact rfl|assumption|exact List.not_mem_nil))|fail) ?_)
  refine SG.call rfl rfl rfl (vs := [.agg (pdc room a ws.length c).toArray]) (by repeat' (first | exact True.intro | exact rho_of rfl | refine And.intro ?_ ?_)) ((rorder_spec (hP.kp0 k2) hl).mono (fun e w3 hh => ?_))
  obtain ⟨v3, he, ho3, hk3⟩ := hh
  refine ⟨_, he, ?_⟩
  clear he p0
  generalize ordW ws = r at hln hin ho3
  obtain ⟨ar, cr, rfl, -, hS3⟩ := Sl.own wc_length ho3 rfl
  have k3 := k2.trans hk3
  have r3 := r3.kp0 hk3
  repeat (first|apply cA|apply cB|apply cD|apply cE|apply cG|refine cV rfl rfl rfl rfl (by first|(apply qas<;>(exact rfl))|fail) ?_)
  refine CG.loop (X := Nat) (fun i => [(3, .pointer (some ⟨b3, 0, none⟩)), (5, .slice ar r.length cr), (6, .int .i64 (i : Int))]) (fun i w' => i ≤ r.length ∧ Kp [] w3 w' ∧ ∀ j (h : j < r.length), j < i → nmW d r[j] = false) (fun i => r.length - i) 0 ⟨Nat.zero_le _, Kp.refl _ _, fun j _ h => absurd h (Nat.not_lt_zero j)⟩ (by (repeat' (first | exact True.intro | exact rfl | refine And.intro ?_ ?_))) ?_
  rintro i w4 ⟨hi, hk4, hno⟩
  refine CG.to [(3, .pointer (some ⟨b3, 0, none⟩)), (5, .slice ar r.length cr), (6, .int .i64 (i : Int))] (by (repeat' (first | exact True.intro | exact rfl | refine And.intro ?_ ?_))) ?_
  by_cases hlt : i < r.length
  rotate_left
  · have g1 : ¬ (i : Int) < (r.length : Int) := by omega
    have e2 : idxZ (nmW d) r = -1 := idxZ_no (fun h => by
      have h1 := List.findIdx_getElem (w := h)
      rw [hno _ h (by omega)] at h1
      cases h1)
    rw [e2]
    repeat (first|apply cA|apply cB|apply cD|apply cE|refine cV rfl rfl rfl rfl (by first|((first|apply qmv|apply qls|apply qln)<;>(first|exact rfl|exact dcf (by first|assumption|omega)|fail))|fail) ?_)
    refine dA rfl (by exact rho_of rfl) rfl ?_
    repeat (first|apply cA|apply cB|apply cD|apply cE|apply cH|apply cJ|apply cM|refine cQ rfl ?_|refine cV rfl rfl rfl rfl (by first|(apply qas<;>(exact rfl))|fail) ?_)
    refine ret1 (Or.inl rfl) Tryz.results45 (by first | exact ResV.tmp rfl | exact ResV.agg rfl rfl (by assumption) (by first | exact dc_length _ | exact nc_length _ | exact rc_length _ _ _ | exact ec_length _ | exact dl_length _ _ _ _ | rfl) | exact ResV.cell rfl rfl (by assumption)) ?_
    exact ⟨rfl, k3.trans hk4⟩
  have g1 : (i : Int) < (r.length : Int) := by omega
  obtain ⟨b1, o1, rfl, hri⟩ := (hS3.kp0 hk4).at hlt
  obtain ⟨q1, -, -, -, -⟩ := wc_rows hri
  have r34 := r3.kp0 hk4
  clear hri
  repeat (first|apply cA|apply cB|apply cD|apply cE|refine cV rfl rfl rfl rfl (by first|((first|apply qmv|apply qls|apply qln)<;>(first|exact rfl|exact dct (by first|assumption|omega)|fail))|fail) ?_)
  refine cZ rfl (by exact rho_of rfl) rfl ?_
  repeat (first|apply cA|apply cE|apply cF|apply cG)
  refine CG.tail mixed 7 [0, 1, 2, 3, 4, 6, 5] (by kernel_rfl) ?_
  repeat (refine cY rfl rfl rfl (by first|((first|apply qmv|apply qla|apply qfa|apply qix)<;>(first|exact rfl|exact Ar.mk (by omega)|assumption|exact List.not_mem_nil|apply dc_length|apply txc_length|fail))|fail) ?_)
  refine Der.call rfl rfl rfl (vs := [txv r[i].x]) (by repeat' (first | exact True.intro | exact rho_of rfl | refine And.intro ?_ ?_)) (fun W hk _ => rname_spec (((hin _ (List.getElem_mem hlt)).kp0 (hk3.trans hk4)).kp0 hk)) ?_
  refine Der.tl (fun w5 hk5 _ _ => ?_)
  by_cases he : nameT r[i].x.t = d
  · have e : nmW d r[i] = true := decide_eq_true he
    have ef : r.findIdx (nmW d) = i := (List.findIdx_eq hlt).2 ⟨e, fun j hj => by rw [hno j (by omega) hj]⟩
    have e2 : idxZ (nmW d) r = (i : Int) := by
      unfold idxZ
      rw [ef, if_pos hlt]
    rw [e2]
    repeat (first|apply cD|apply cE|refine cV rfl rfl rfl rfl (by first|(apply qed<;>(first|exact rfl|exact dct (by first|assumption|omega)|fail))|fail) ?_)
    refine cZ rfl (by exact rho_of rfl) rfl ?_
    repeat (first|apply cA|apply cB|apply cD|apply cE|apply cH|apply cK|apply NG.ret_block|refine cV rfl rfl rfl rfl (by first|((first|apply qmv|apply qas)<;>(exact rfl))|fail) ?_)
    refine ret1 (Or.inl rfl) Tryz.results45 (by first | exact ResV.tmp rfl | exact ResV.agg rfl rfl (by assumption) (by first | exact dc_length _ | exact nc_length _ | exact rc_length _ _ _ | exact ec_length _ | exact dl_length _ _ _ _ | rfl) | exact ResV.cell rfl rfl (by assumption)) ?_
    exact ⟨rfl, (k3.trans hk4).trans hk5⟩
  · have e : nmW d r[i] = false := decide_eq_false he
    repeat (first|apply cD|apply cE|refine cV rfl rfl rfl rfl (by first|(apply qed<;>(first|exact rfl|exact dcf (by first|assumption|omega)|fail))|fail) ?_)
    refine dA rfl (by exact rho_of rfl) rfl ?_
    repeat (first|apply cB|apply cD|apply cE|apply cF|apply cU|refine cV rfl rfl rfl rfl (by first|((first|apply qmv|apply qas|apply qad)<;>(first|exact rfl|exact Ar.mk (by omega)|fail))|fail) ?_)
    refine NG.round (i + 1) (by (repeat' (first | exact True.intro | exact rfl | refine And.intro ?_ ?_))) ⟨by omega, hk4.trans hk5, fun j h hj => ?_⟩ (by omega)
    by_cases e' : j = i
    · subst e'; exact e
    · exact hno j h (by omega)
set_option maxHeartbeats 32000000 in
theorem rdrop_spec {w : World} {n : Nat} {a : Option Addr} {c : Nat} {ws : List Wm} {room : Int} (hP : PD w n a c ws) (hl : ws.length ≤ 1024) (hn0 : n ≤ w.heap.size) (d : Dg) :
    Calls Tryz.prog 33 #[.agg (pdc room a ws.length c).toArray, dv d] w (fun e w' => ∃ a' c' ws', e = .returned (.tuple #[.agg (pdc room a' ws'.length c').toArray, .bool (findE (ws.map Wm.en) d).isSome]) ∧ Kp [] w w' ∧ PD w' n a' c' ws' ∧ ws'.map Wm.en = dropN (ws.map Wm.en) d) := by
  refine enter2 Tryz.func33 rfl Tryz.ntmps33 rfl ?_
  repeat (first|apply cA|apply cB)
  refine SG.box rfl rfl rfl (by exact rho_of rfl) (fun b2 w1 hk1 hb2 hB2 => ?_)
  refine SG.box rfl rfl rfl (by exact rho_of rfl) (fun b3 w2 hk2 hb3 hB3 => ?_)
  refine SG.alloc rfl rfl rfl (fun b4 w3 hk3 hb4 hB4 => ?_)
  have hB2 : Blk w1 b2 (.cells (pdc room a ws.length c).toArray 29) := hB2
  have hB3 : Blk w2 b3 (.cells (dc d).toArray 24) := hB3
  have hB4 : Blk w3 b4 (.cells (pdc 0 none 0 0).toArray 29) := hB4
  have l2 := hB2.lt
  have l3 := hB3.lt
  have hB2 := (hB2.kp0 hk2).kp0 hk3
  obtain ⟨p0, -, p2⟩ := pdc_rows hB2
  have r3 : Row w3 b3 0 (dc d) := (Row.all (l := dc d) hB3 rfl).kp0 hk3
  have k3 := (hk1.trans hk2).trans hk3
  have s1 := hk1.size
  have s2 := hk2.size
  have hP3 := hP.kp0 k3
  have hln := ordW_len ws
  clear hB3
  repeat (first|apply cA|apply cB|apply cD|apply cE|refine cV rfl rfl rfl rfl (by first|((first|apply qas|apply qla)<;>(first|exact rfl|assumption|exact List.not_mem_nil|apply dc_length))|fail) ?_)
  refine SG.ret rfl rfl rfl (vs := [.agg (pdc room a ws.length c).toArray, dv d]) (by repeat' (first | exact True.intro | exact rho_of rfl | refine And.intro ?_ ?_)) (rfind_spec hP3 hl d) (fun w5 hk5 => ?_)
  have k5 := k3.trans hk5
  have hP5 := hP3.kp0 hk5
  have p0 := p0.kp0 hk5
  have p2 := p2.kp0 hk5
  have hB2 := hB2.kp0 hk5
  have hB4 := hB4.kp0 hk5
  by_cases hf : (ordW ws).findIdx (nmW d) < (ordW ws).length
  rotate_left
  · rw [idxZ_no hf, findW_none hf]
    have hdr : dropN (ws.map Wm.en) d = ws.map Wm.en := by unfold dropN; rw [findW_none hf]
    repeat (first|apply cA|apply cB|apply cD|apply cE|refine cV rfl rfl rfl rfl (by first|((first|apply qmv|apply qas|apply qls)<;>(first|exact rfl|exact dct (by first|assumption|omega)|fail))|fail) ?_)
    refine cZ rfl (by exact rho_of rfl) rfl ?_
    repeat (first|apply cA|apply cB|refine cV rfl rfl rfl rfl (by first|(apply qla<;>(first|exact rfl|assumption|exact List.not_mem_nil))|fail) ?_)
    refine SG.setAll (l := pdc room a ws.length c) rfl rfl (by exact rho_of rfl) (by exact rho_of rfl) hB4 rfl rfl rfl (fun w6 hk6 hB46 => ?_)
    have hr6 : Row w6 b4 0 (pdc room a ws.length c) := Row.all hB46 rfl
    repeat (first|apply cD|apply cE|apply cH|apply cK|refine cV rfl rfl rfl rfl (by first|(apply qas<;>(exact rfl))|fail) ?_)
    refine ret2 (Or.inl rfl) Tryz.results33 (ResV.agg rfl rfl hr6 (pdc_length _ _ _ _)) (by first | exact ResV.tmp rfl | exact ResV.agg rfl rfl (by assumption) (by first | exact dc_length _ | exact nc_length _ | exact rc_length _ _ _ | exact ec_length _ | exact dl_length _ _ _ _ | rfl) | exact ResV.cell rfl rfl (by assumption)) ?_
    exact ⟨a, c, ws, rfl, k5.trans_new hk6 (new1 (by omega)), hP5.kpb hk6 hB4 (by decide) (by decide) (by omega), hdr.symm⟩
  rw [idxZ_lt hf, findW_some hf]
  have hfs := findW_some hf
  generalize hi : (ordW ws).findIdx (nmW d) = i at hf hfs
  have hmem := (ordW_perm ws).mem_iff.1 (List.getElem_mem hf)
  have hdr : dropN (ws.map Wm.en) d = (ws.map Wm.en).eraseIdx (likeN (ws.map Wm.en) (ordW ws)[i].en.key (ordW ws)[i].en.non) := by
    unfold dropN
    simp only [← hi]
    rw [findW_some (by rw [hi]; exact hf)]
  have hro := fun W (h : PD W n a c ws) => rorder_spec (room := room) h hl
  generalize ordW ws = r at hf hmem hdr hro hln hfs
  have gi : ¬ (i : Int) < 0 := by omega
  have gi2 : (i : Int) < (r.length : Int) := by omega
  have hj : ws.findIdx (fun e : Wm => isK r[i].x.t.frm r[i].x.t.non e.en) < ws.length := List.findIdx_lt_length.2 ⟨r[i], hmem, isK_iff.2 ⟨rfl, rfl⟩⟩
  have hli := likeW_lt (ws := ws) (k := r[i].x.t.frm) (n := r[i].x.t.non)
  have hlk := fun W (h : PD W n a c ws) => like_spec (room := room) (x := r[i].x) h (by omega)
  rw [idxZ_lt hj] at hlk
  generalize hjj : ws.findIdx (fun e : Wm => isK r[i].x.t.frm r[i].x.t.non e.en) = j at hj hli hlk
  have hdr : dropN (ws.map Wm.en) d = (ws.map Wm.en).eraseIdx j := by rw [hdr]; exact congrArg _ hli
  clear hfs hi hjj hli
  repeat (first|apply cA|apply cB|apply cD|apply cE|refine cV rfl rfl rfl rfl (by first|((first|apply qmv|apply qas|apply qls)<;>(first|exact rfl|exact dcf (by first|assumption|omega)|fail))|fail) ?_)
  refine dA rfl (by exact rho_of rfl) rfl ?_
  repeat (first|apply cA|apply cE|apply cF)
  refine CG.tailg mixed 10 [0, 1, 2, 3, 5, 4, 6, 7, 8, 9] [4] [] (fun _ => True) (by kernel_rfl) trivial (fun _ _ _ h => h) ?_
  repeat (refine cY rfl rfl rfl (by first|((first|apply qmv|apply qlc|apply qla|apply qfa)<;>(first|exact rfl|assumption|exact List.not_mem_nil))|fail) ?_)
  refine Der.callGR (X := Nat × Nat × Nat) (vs := [.agg (pdc room a ws.length c).toArray]) (fun q => .slice (some ⟨q.1, q.2.1, none⟩) r.length q.2.2) (fun q W => Sl wc 14 W (some ⟨q.1, q.2.1, none⟩) r) (fun q W => True) rfl rfl rfl rfl (by repeat' (first | exact True.intro | exact rho_of rfl | refine And.intro ?_ ?_)) (fun q W W' hk h => h.kp0 hk) (fun q W W' hk h => h) (fun _ _ _ h => h) (fun W hk _ hR => ?_) (fun q => ?_)
  · refine (hro W (hP5.kp0 hk)).mono (fun e W' hh => ?_)
    obtain ⟨v', he, ho, hk'⟩ := hh
    obtain ⟨a', c', rfl, -, hS⟩ := Sl.own wc_length ho rfl
    obtain ⟨b1, o1, rfl, -⟩ := hS.at hf
    exact ⟨(b1, o1, c'), he, hS, trivial, hk'⟩
  obtain ⟨b1, o1, c1⟩ := q
  repeat (refine cY rfl rfl rfl (by first|((first|apply qfa|apply qix)<;>(first|exact rfl|exact Ar.mk (by omega)|fail))|fail) ?_)
  refine cY rfl rfl rfl (vals_loadF (l := txc r[i].x) (b := b1) (off := o1 + i * 14) rfl rfl (fun W hk hF => (wc_rows (hF.2.row (List.getElem?_eq_getElem hf))).1) (txc_length _)) ?_
  refine Der.call rfl rfl rfl (vs := [.agg (pdc room a ws.length c).toArray, txv r[i].x]) (by repeat' (first | exact True.intro | exact rho_of rfl | refine And.intro ?_ ?_)) (fun W hk _ => hlk W (hP5.kp0 hk)) ?_
  refine Der.tl (fun w6 hk6 _ _ => ?_)
  have hP6 := hP5.kp0 hk6
  have k6 := k5.trans hk6
  refine SG.call rfl rfl rfl (vs := [.slice a ws.length c, .int .i64 (j : Int)]) (by repeat' (first | exact True.intro | exact rho_of rfl | refine And.intro ?_ ?_)) ((without_spec hP6 (by omega) hj).mono (fun e w7 hh => ?_))
  obtain ⟨v7, he, ho7, hk7⟩ := hh
  refine ⟨_, he, ?_⟩
  clear he
  have k57 := hk6.trans hk7
  have k7 := k5.trans k57
  obtain ⟨a7, c7, rfl, hP7⟩ := PD.own ho7 (fun e he => (hP5.ins e (List.mem_of_mem_eraseIdx he)).kp0 k57)
  have hB27 := hB2.kp0 k57
  have hB47 := hB4.kp0 k57
  clear p0 p2 r3
  repeat (first|refine cV rfl rfl rfl rfl (by first|(apply qfa<;>(exact rfl))|fail) ?_)
  refine SG.setMid [.int .i64 room] [.slice a ws.length c] [] rfl rfl (by exact rho_of rfl) (by exact rho_of rfl) hB27 rfl rfl rfl rfl rfl (fun w8 hk8 hB28 => ?_)
  have hB28 : Blk w8 b2 (.cells (pdc room a7 (ws.eraseIdx j).length c7).toArray 29) := hB28
  obtain ⟨p0, -, -⟩ := pdc_rows hB28
  have hB48 := hB47.kp hk8 (nm1 (by omega))
  repeat (first|apply cA|apply cB|apply cD|apply cE|refine cV rfl rfl rfl rfl (by first|(apply qla<;>(first|exact rfl|assumption|exact List.not_mem_nil))|fail) ?_)
  refine SG.setAll (l := pdc room a7 (ws.eraseIdx j).length c7) rfl rfl (by exact rho_of rfl) (by exact rho_of rfl) hB48 rfl rfl rfl (fun w9 hk9 hB49 => ?_)
  have hr9 : Row w9 b4 0 (pdc room a7 (ws.eraseIdx j).length c7) := Row.all hB49 rfl
  repeat (first|apply cD|apply cE|apply cH|refine cV rfl rfl rfl rfl (by first|(apply qas<;>(exact rfl))|fail) ?_)
  refine ret2 (Or.inl rfl) Tryz.results33 (ResV.agg rfl rfl hr9 (pdc_length _ _ _ _)) (by first | exact ResV.tmp rfl | exact ResV.agg rfl rfl (by assumption) (by first | exact dc_length _ | exact nc_length _ | exact rc_length _ _ _ | exact ec_length _ | exact dl_length _ _ _ _ | rfl) | exact ResV.cell rfl rfl (by assumption)) ?_
  refine ⟨a7, c7, ws.eraseIdx j, rfl, (k7.trans_new hk8 (new1 hb2)).trans_new hk9 (new1 (by omega)), (hP7.kpb hk8 hB27 (by decide) (by decide) (by omega)).kpb hk9 hB48 (by decide) (by decide) (by omega), ?_⟩
  rw [hdr, erase_en]
end Go.Proofs.YtgbgnlboogalgaaGreat
namespace Go.Proofs.YtgbgnlboogalgaaGreat
open Go.Proofs
set_option linter.unusedVariables false
/-- Of the first k one of the same key, with no smaller number. -/
def UpK (ts : List Tm) (e : Wm) (k : Nat) : Prop := ∃ (j : Nat) (hj : j < ts.length), j < k ∧ ts[j].t.frm = wK e ∧ wN e ≤ ts[j].t.non
theorem UpK.zero {ts : List Tm} {e : Wm} : ¬ UpK ts e 0 := fun ⟨_, _, h, _⟩ => absurd h (Nat.not_lt_zero _)
theorem UpK.succ {ts : List Tm} {e : Wm} {k : Nat} (hk : k < ts.length) : UpK ts e (k + 1) ↔ UpK ts e k ∨ (ts[k].t.frm = wK e ∧ wN e ≤ ts[k].t.non) := by
  constructor
  · rintro ⟨j, hj, h1, h2⟩
    by_cases e' : j = k
    · subst e'; exact Or.inr h2
    · exact Or.inl ⟨j, hj, by omega, h2⟩
  · rintro (⟨j, hj, h1, h2⟩ | h2)
    · exact ⟨j, hj, by omega, h2⟩
    · exact ⟨k, hk, by omega, h2⟩
def goneB (ts : List Tm) (e : Wm) : Bool := upB ((ts.map (·.t)).map pairT) e.en
theorem UpK.full {ts : List Tm} {e : Wm} : UpK ts e ts.length ↔ goneB ts e = true := by
  unfold goneB upB
  rw [List.any_eq_true]
  constructor
  · rintro ⟨j, hj, _, h1, h2⟩
    exact ⟨pairT ts[j].t, List.mem_map.2 ⟨ts[j].t, List.mem_map.2 ⟨ts[j], List.getElem_mem hj, rfl⟩, rfl⟩, decide_eq_true ⟨h1, h2⟩⟩
  · rintro ⟨p, h1, h2⟩
    have h2 := of_decide_eq_true h2
    obtain ⟨t, h3, rfl⟩ := List.mem_map.1 h1
    obtain ⟨x, h4, rfl⟩ := List.mem_map.1 h3
    obtain ⟨j, hj, rfl⟩ := List.getElem_of_mem h4
    exact ⟨j, hj, hj, h2.1, h2.2⟩
def stayL (ws : List Wm) (ts : List Tm) : List Wm := ws.filter (fun e => !goneB ts e)
theorem stay_en (ws : List Wm) (ts : List Tm) : (stayL ws ts).map Wm.en = doneL (ws.map Wm.en) (ts.map (·.t)) := by
  unfold stayL doneL
  rw [List.filter_map]
  rfl
theorem filt_succ2 {α : Type} (p : α → Bool) {l : List α} {i : Nat} (hi : i < l.length) : (l.take (i + 1)).filter p = if p l[i] = true then (l.take i).filter p ++ [l[i]] else (l.take i).filter p := by
  rw [List.take_succ_eq_append_getElem hi, List.filter_append]
  by_cases h : p l[i] = true
  · rw [if_pos h, List.filter_cons_of_pos h]; rfl
  · rw [if_neg h, List.filter_cons_of_neg h]; simp
noncomputable def backN (room h : Int) (L : List En) (ts : List Tm) (i : Nat) : List En × Int := ((ts.take i).map (·.t)).foldl (backS room h) (L, 0)
/-- A call of the document's that answers a pool and something else. -/
def gQ (n : Nat) (room : Int) (z : Value) (L : List En) : GD := ⟨Option Addr × Nat × List Wm, (none, 0, []), fun q => .tuple #[.agg (pdc room q.1 q.2.2.length q.2.1).toArray, z], fun q w => PD w n q.1 q.2.1 q.2.2 ∧ q.2.2.map Wm.en = L⟩
theorem gQ_stab {n : Nat} {room : Int} {z : Value} {L : List En} (x : (gQ n room z L).X) : Stab [] ((gQ n room z L).phi x) := fun w w' hk h => ⟨h.1.kp0 hk, h.2⟩
theorem gQ_keep {n b : Nat} {room : Int} {z : Value} {L : List En} {x : (gQ n room z L).X} {w w' : World} {cs : Array Value} (hb : Blk w b (.cells cs 29)) (hn : n ≤ b) (hk : Kp [b] w w') (h : (gQ n room z L).phi x w) : (gQ n room z L).phi x w' := ⟨h.1.kpb hk hb (by decide) (by decide) hn, h.2⟩
attribute [local irreducible] CG NG SG Vals Der Row Blk MapIs IterAt DerX DerR wrongT nameT
set_option maxHeartbeats 32000000 in
theorem rdone_spec {w : World} {n : Nat} {a at' : Option Addr} {c ct : Nat} {ws : List Wm} {ts : List Tm} {room : Int} (hP : PD w n a c ws) (hl : ws.length ≤ 1024) (hT : Sl txc 13 w at' ts) (htl : ts.length ≤ 1000000) (hn0 : n ≤ w.heap.size) :
    Calls Tryz.prog 36 #[.agg (pdc room a ws.length c).toArray, .slice at' ts.length ct] w (fun e w' => ∃ a' c' ws', e = .returned (.tuple #[.agg (pdc room a' ws'.length c').toArray, .int .i64 ((ws.length : Int) - (ws'.length : Int))]) ∧ Kp [] w w' ∧ PD w' n a' c' ws' ∧ ws'.map Wm.en = doneL (ws.map Wm.en) (ts.map (·.t))) := by
  refine enter2 Tryz.func36 rfl Tryz.ntmps36 rfl ?_
  repeat (first|apply cA|apply cB)
  refine SG.box rfl rfl rfl (by exact rho_of rfl) (fun b2 w1 hk1 hb2 hB2 => ?_)
  refine SG.alloc rfl rfl rfl (fun b4 w2 hk2 hb4 hB4 => ?_)
  have hB2 : Blk w1 b2 (.cells (pdc room a ws.length c).toArray 29) := hB2
  have hB4 : Blk w2 b4 (.cells (pdc 0 none 0 0).toArray 29) := hB4
  have l2 := hB2.lt
  have hB2 := hB2.kp0 hk2
  have k2 := hk1.trans hk2
  have s1 := hk1.size
  have s2 := k2.size
  have l4 := hB4.lt
  repeat (first|apply cA|apply cB|apply cD|apply cE|apply cG|refine cV rfl rfl rfl rfl (by first|(apply qas<;>(exact rfl))|fail) ?_)
  refine CG.loop (X := Nat × Value) (fun x => [(1, .slice at' ts.length ct), (2, .pointer (some ⟨b2, 0, none⟩)), (4, .pointer (some ⟨b4, 0, none⟩)), (6, x.2), (7, .int .i64 (x.1 : Int))])
    (fun x w' => x.1 ≤ ws.length ∧ Kp [] w2 w' ∧ w'.ownsRow w2.heap.size 67 14 x.2 ((ws.take x.1).filter (fun e => !goneB ts e)).length (flt wc ((ws.take x.1).filter (fun e => !goneB ts e)))) (fun x => ws.length - x.1) (0, .slice none 0 0) ⟨Nat.zero_le _, Kp.refl _ _, own_nil⟩ (by (repeat' (first | exact True.intro | exact rfl | refine And.intro ?_ ?_))) ?_
  rintro ⟨i, vo⟩ w3 ⟨hi, hk3, ho3⟩
  simp only at hi ho3
  refine CG.to [(1, .slice at' ts.length ct), (2, .pointer (some ⟨b2, 0, none⟩)), (4, .pointer (some ⟨b4, 0, none⟩)), (6, vo), (7, .int .i64 (i : Int))] (by (repeat' (first | exact True.intro | exact rfl | refine And.intro ?_ ?_))) ?_
  have k3 := k2.trans hk3
  have s3 := hk3.size
  have hB23 := hB2.kp0 hk3
  have hB43 := hB4.kp0 hk3
  obtain ⟨-, -, p2⟩ := pdc_rows hB23
  by_cases hlt : i < ws.length
  rotate_left
  · have g1 : ¬ (i : Int) < (ws.length : Int) := by omega
    rw [List.take_of_length_le (by omega)] at ho3
    have ho3 : w3.ownsRow w2.heap.size 67 14 vo (stayL ws ts).length (flt wc (stayL ws ts)) := ho3
    obtain ⟨a3, c3, rfl, hD3⟩ := PD.own ho3 (n := n) (fun e he => (hP.ins e (List.mem_filter.1 he).1).kp0 k3)
    have hsl : (stayL ws ts).length ≤ ws.length := List.length_filter_le _ _
    repeat (first|apply cA|apply cB|apply cD|apply cE|refine cV rfl rfl rfl rfl (by first|((first|apply qmv|apply qlc|apply qfa|apply qls|apply qln)<;>(first|exact rfl|assumption|exact dcf (by first|assumption|omega)|exact List.not_mem_nil|fail))|fail) ?_)
    refine dA rfl (by exact rho_of rfl) rfl ?_
    repeat (first|apply cA|apply cB|apply cD|apply cE|apply cJ|apply cM|refine cQ rfl ?_|refine cV rfl rfl rfl rfl (by first|((first|apply qmv|apply qas|apply qlc|apply qfa|apply qln|apply qsb)<;>(first|exact rfl|exact Ar.mk (by omega)|assumption|exact List.not_mem_nil|fail))|fail) ?_)
    refine SG.setMid [.int .i64 room] [.slice a ws.length c] [] rfl rfl (by exact rho_of rfl) (by exact rho_of rfl) hB23 rfl rfl rfl rfl rfl (fun w4 hk4 hB24 => ?_)
    have hB24 : Blk w4 b2 (.cells (pdc room a3 (stayL ws ts).length c3).toArray 29) := hB24
    clear p2
    obtain ⟨p0, -, -⟩ := pdc_rows hB24
    have hB44 := hB43.kp hk4 (nm1 (by omega))
    repeat (first|apply cA|apply cB|apply cD|apply cE|refine cV rfl rfl rfl rfl (by first|((first|apply qmv|apply qla)<;>(first|exact rfl|assumption|exact List.not_mem_nil))|fail) ?_)
    refine SG.setAll (l := pdc room a3 (stayL ws ts).length c3) rfl rfl (by exact rho_of rfl) (by exact rho_of rfl) hB44 rfl rfl rfl (fun w5 hk5 hB45 => ?_)
    have hr5 : Row w5 b4 0 (pdc room a3 (stayL ws ts).length c3) := Row.all hB45 rfl
    repeat (first|apply cD|apply cE|apply cH|refine cV rfl rfl rfl rfl (by first|(apply qas<;>(exact rfl))|fail) ?_)
    refine ret2 (Or.inl rfl) Tryz.results36 (ResV.agg rfl rfl hr5 (pdc_length _ _ _ _)) (by first | exact ResV.tmp rfl | exact ResV.agg rfl rfl (by assumption) (by first | exact dc_length _ | exact nc_length _ | exact rc_length _ _ _ | exact ec_length _ | exact dl_length _ _ _ _ | rfl) | exact ResV.cell rfl rfl (by assumption)) ?_
    exact ⟨a3, c3, stayL ws ts, rfl, (k3.trans_new hk4 (new1 hb2)).trans_new hk5 (new1 (by omega)), (hD3.kpb hk4 hB23 (by decide) (by decide) (by omega)).kpb hk5 hB44 (by decide) (by decide) (by omega), stay_en ws ts⟩
  have g1 : (i : Int) < (ws.length : Int) := by omega
  have hsf := filt_succ2 (fun e => !goneB ts e) hlt
  repeat (first|apply cA|apply cB|apply cD|apply cE|refine cV rfl rfl rfl rfl (by first|((first|apply qmv|apply qlc|apply qfa|apply qls|apply qln)<;>(first|exact rfl|assumption|exact dct (by first|assumption|omega)|exact List.not_mem_nil|fail))|fail) ?_)
  refine cZ rfl (by exact rho_of rfl) rfl ?_
  repeat (first|apply cA|apply cB|apply cD|apply cE|apply cF|apply cG|refine cV rfl rfl rfl rfl (by first|(apply qas<;>(exact rfl))|fail) ?_)
  refine CG.loop (X := Nat × Bool) (fun x => [(1, .slice at' ts.length ct), (2, .pointer (some ⟨b2, 0, none⟩)), (4, .pointer (some ⟨b4, 0, none⟩)), (6, vo), (7, .int .i64 (i : Int)), (8, .bool x.2), (9, .int .i64 (x.1 : Int))]) (fun x w' => x.1 ≤ ts.length ∧ Kp [] w3 w' ∧ (x.2 = false ↔ UpK ts ws[i] x.1)) (fun x => ts.length - x.1) (0, true) ⟨Nat.zero_le _, Kp.refl _ _, iff_of_false (by decide) UpK.zero⟩ (by (repeat' (first | exact True.intro | exact rfl | refine And.intro ?_ ?_))) ?_
  rintro ⟨k, fb⟩ w4 ⟨hk, hk4, hM⟩
  simp only at hk hM
  refine CG.to [(1, .slice at' ts.length ct), (2, .pointer (some ⟨b2, 0, none⟩)), (4, .pointer (some ⟨b4, 0, none⟩)), (6, vo), (7, .int .i64 (i : Int)), (8, .bool fb), (9, .int .i64 (k : Int))] (by (repeat' (first | exact True.intro | exact rfl | refine And.intro ?_ ?_))) ?_
  have k4 := k3.trans hk4
  have p2 := p2.kp0 hk4
  obtain ⟨bl, ol, rfl, ri⟩ := (hP.sl.kp0 k4).at hlt
  by_cases hkl : k < ts.length
  · have g3 : (k : Int) < (ts.length : Int) := by omega
    obtain ⟨-, i0, i1, -, -⟩ := wc_rows ri
    obtain ⟨bt, ot, rfl, rt⟩ := (hT.kp0 k4).at hkl
    obtain ⟨t0, t1, -⟩ := txc_rowsO rt
    clear ri rt
    have hsu := UpK.succ (e := ws[i]) hkl
    repeat (first|apply cA|apply cB|apply cD|apply cE|refine cV rfl rfl rfl rfl (by first|((first|apply qmv|apply qls|apply qln)<;>(first|exact rfl|exact dct (by first|assumption|omega)|fail))|fail) ?_)
    refine cZ rfl (by exact rho_of rfl) rfl ?_
    cases fb with
    | false =>
      have hyes := hM.1 rfl
      repeat (first|apply cA|apply cE|apply cF|apply cG)
      refine CG.tail mixed 32 [0, 1, 2, 3, 4, 5, 6, 7, 8, 9, 10, 11, 12, 13, 14, 15, 16, 17, 18, 19, 20, 21, 22, 23, 24, 25, 26, 27, 28, 29, 30, 31] (by kernel_rfl) ?_
      repeat (first | refine cY rfl rfl rfl (by first|((first|apply qmv|apply qpk)<;>(exact rfl))|fail) ?_ | refine Der.skip rfl rfl ?_)
      refine Der.tl (fun w6 hk6 _ _ => ?_)
      repeat (first|apply cB|apply cD|apply cE|apply cU|refine cV rfl rfl rfl rfl (by first|((first|apply qmv|apply qas|apply qad)<;>(first|exact rfl|exact Ar.mk (by omega)|fail))|fail) ?_)
      refine NG.round (k + 1, false) (by (repeat' (first | exact True.intro | exact rfl | refine And.intro ?_ ?_))) ⟨by simp only; omega, hk4.trans hk6, iff_of_true rfl (hsu.2 (Or.inl hyes))⟩ (by simp only; omega)
    | true =>
      have hno : ¬ UpK ts ws[i] k := fun h => Bool.noConfusion (hM.2 h)
      by_cases he : ts[k].t.frm = ws[i].x.t.frm
      · by_cases hn : ws[i].x.t.non ≤ ts[k].t.non
        · repeat (first|apply cA|apply cE|apply cF|apply cG)
          refine CG.tail mixed 32 [0, 1, 2, 3, 4, 5, 6, 7, 8, 9, 10, 11, 12, 13, 14, 15, 16, 17, 18, 19, 20, 21, 22, 23, 24, 25, 26, 27, 28, 29, 30, 31] (by kernel_rfl) ?_
          repeat (refine cY rfl rfl rfl (by first|((first|apply qmv|apply qlc|apply qla|apply qfa|apply qix|apply qpk|apply qed|apply qle|apply qnt)<;>(first|exact rfl|exact Ar.mk (by omega)|assumption|exact dct (by first|assumption|omega)|exact List.not_mem_nil|apply dc_length|fail))|fail) ?_)
          refine Der.tl (fun w6 hk6 _ _ => ?_)
          repeat (first|apply cB|apply cD|apply cE|apply cU|refine cV rfl rfl rfl rfl (by first|((first|apply qmv|apply qas|apply qad)<;>(first|exact rfl|exact Ar.mk (by omega)|fail))|fail) ?_)
          refine NG.round (k + 1, false) (by (repeat' (first | exact True.intro | exact rfl | refine And.intro ?_ ?_))) ⟨by simp only; omega, hk4.trans hk6, iff_of_true rfl (hsu.2 (Or.inr ⟨he, hn⟩))⟩ (by simp only; omega)
        · repeat (first|apply cA|apply cE|apply cF|apply cG)
          refine CG.tail mixed 32 [0, 1, 2, 3, 4, 5, 6, 7, 8, 9, 10, 11, 12, 13, 14, 15, 16, 17, 18, 19, 20, 21, 22, 23, 24, 25, 26, 27, 28, 29, 30, 31] (by kernel_rfl) ?_
          repeat (refine cY rfl rfl rfl (by first|((first|apply qmv|apply qlc|apply qla|apply qfa|apply qix|apply qpk|apply qed|apply qle|apply qnt)<;>(first|exact rfl|exact Ar.mk (by omega)|assumption|exact dct (by first|assumption|omega)|exact dcf (by first|assumption|omega)|exact List.not_mem_nil|apply dc_length|fail))|fail) ?_)
          refine Der.tl (fun w6 hk6 _ _ => ?_)
          repeat (first|apply cB|apply cD|apply cE|apply cU|refine cV rfl rfl rfl rfl (by first|((first|apply qmv|apply qas|apply qad)<;>(first|exact rfl|exact Ar.mk (by omega)|fail))|fail) ?_)
          refine NG.round (k + 1, true) (by (repeat' (first | exact True.intro | exact rfl | refine And.intro ?_ ?_))) ⟨by simp only; omega, hk4.trans hk6, iff_of_false (fun h => Bool.noConfusion h) (fun h => (hsu.1 h).elim hno (fun h => hn h.2))⟩ (by simp only; omega)
      · repeat (first|apply cA|apply cE|apply cF|apply cG)
        refine CG.tail mixed 32 [0, 1, 2, 3, 4, 5, 6, 7, 8, 9, 10, 11, 12, 13, 14, 15, 16, 17, 18, 19, 20, 21, 22, 23, 24, 25, 26, 27, 28, 29, 30, 31] (by kernel_rfl) ?_
        repeat (first | refine cY rfl rfl rfl (by first|((first|apply qmv|apply qlc|apply qla|apply qfa|apply qix|apply qpk|apply qed|apply qnt)<;>(first|exact rfl|exact Ar.mk (by omega)|assumption|exact dcf (by first|assumption|omega)|exact List.not_mem_nil|apply dc_length|fail))|fail) ?_ | refine Der.skip rfl rfl ?_)
        refine Der.tl (fun w6 hk6 _ _ => ?_)
        repeat (first|apply cB|apply cD|apply cE|apply cU|refine cV rfl rfl rfl rfl (by first|((first|apply qmv|apply qas|apply qad)<;>(first|exact rfl|exact Ar.mk (by omega)|fail))|fail) ?_)
        refine NG.round (k + 1, true) (by (repeat' (first | exact True.intro | exact rfl | refine And.intro ?_ ?_))) ⟨by simp only; omega, hk4.trans hk6, iff_of_false (fun h => Bool.noConfusion h) (fun h => (hsu.1 h).elim hno (fun h => he h.1))⟩ (by simp only; omega)
  have g3 : ¬ (k : Int) < (ts.length : Int) := by omega
  have ek : k = ts.length := by omega
  subst ek
  rw [UpK.full] at hM
  have k24 := hk3.trans hk4
  repeat (first|apply cA|apply cB|apply cD|apply cE|refine cV rfl rfl rfl rfl (by first|((first|apply qmv|apply qls|apply qln)<;>(first|exact rfl|exact dcf (by first|assumption|omega)|fail))|fail) ?_)
  refine dA rfl (by exact rho_of rfl) rfl ?_
  cases fb with
  | false =>
    have hno : ¬ (!goneB ts ws[i]) = true := by rw [hM.1 rfl]; decide
    rw [if_neg hno] at hsf
    repeat (first|apply cA|apply cB|apply cD|apply cE|apply cJ|apply cM|refine cQ rfl ?_|refine cV rfl rfl rfl rfl (by first|(apply qmv<;>(exact rfl))|fail) ?_)
    refine dA rfl (by exact rho_of rfl) rfl ?_
    repeat (first|apply cB|apply cD|apply cE|apply cF|apply cU|refine cV rfl rfl rfl rfl (by first|((first|apply qmv|apply qas|apply qad)<;>(first|exact rfl|exact Ar.mk (by omega)|fail))|fail) ?_)
    refine NG.round (i + 1, vo) (by (repeat' (first | exact True.intro | exact rfl | refine And.intro ?_ ?_))) ⟨by simp only; omega, k24, ?_⟩ (by simp only; omega)
    simp only
    rw [hsf]
    exact own_kp0 ho3 hk4
  | true =>
    have hyes : (!goneB ts ws[i]) = true := by
      cases h : goneB ts ws[i] with
      | false => rfl
      | true => exact absurd (hM.2 h) (by decide)
    rw [if_pos hyes] at hsf
    have hml : ((ws.take i).filter (fun e => !goneB ts e)).length ≤ 1024 := Nat.le_trans (List.length_filter_le _ _) (by rw [List.length_take]; omega)
    repeat (first|apply cA|apply cB|apply cD|apply cE|apply cJ|apply cM|refine cQ rfl ?_|refine cV rfl rfl rfl rfl (by first|(apply qmv<;>(exact rfl))|fail) ?_)
    refine cZ rfl (by exact rho_of rfl) rfl ?_
    repeat (first|apply cB|refine cV rfl rfl rfl rfl (by first|((first|apply qmv|apply qlc|apply qla|apply qfa|apply qix)<;>(first|exact rfl|exact Ar.mk (by omega)|assumption|exact List.not_mem_nil|apply wc_length|fail))|fail) ?_)
    refine SG.buildSlice rfl rfl rfl rfl (bsw ws[i]) (fun b6 w6 hk6 hb6 hB6 => ?_)
    have hS6 : Sl wc 14 w6 (some ⟨b6, 0, none⟩) [ws[i]] := sl_one wc_length hB6
    have k6 := k24.trans hk6
    have ho6 := own_kp0 (own_kp0 ho3 hk4) hk6
    clear ri
    skip
    refine SG.appO (enc := wc) (xs := (ws.take i).filter (fun e => !goneB ts e)) (ys := [ws[i]]) (base := w2.heap.size) rfl rfl rfl (by exact rho_of rfl) (by exact rho_of rfl) rfl rfl rfl rfl wc_length wc_one ho6 hS6 (by simp only [maxLen, List.length_cons, List.length_nil]; omega) (by simp only [List.length_cons, List.length_nil]; show (_ + _) * 88 ≤ _; omega) k6.size (fun v' w7 hk7 ho7 hv7 => ?_)
    repeat (first|apply cB|apply cD|apply cE|apply cU|refine cV rfl rfl rfl rfl (by first|((first|apply qmv|apply qas|apply qad)<;>(first|exact rfl|exact Ar.mk (by omega)|fail))|fail) ?_)
    refine NG.round (i + 1, v') (by (repeat' (first | exact True.intro | exact rfl | refine And.intro ?_ ?_))) ⟨by simp only; omega, k6.trans_new hk7 (own_new ho6 (Nat.le_refl _)), ?_⟩ (by simp only; omega)
    simp only
    rw [hsf]
    exact ho7
set_option maxHeartbeats 32000000 in
theorem rback_spec {w : World} {n : Nat} {a at' : Option Addr} {c ct : Nat} {ws : List Wm} {ts : List Tm} {room h : Int} (hP : PD w n a c ws) (hI : PInv room (ws.map Wm.en)) (hr : room ≤ 1024) (hT : Sl txc 13 w at' ts) (hin : ∀ x ∈ ts, x.In n w) (htl : ts.length ≤ 1000000) (hn0 : n ≤ w.heap.size) :
    Calls Tryz.prog 39 #[.agg (pdc room a ws.length c).toArray, .int .i64 h, .slice at' ts.length ct] w (fun e w' => ∃ a' c' ws', e = .returned (.tuple #[.agg (pdc room a' ws'.length c').toArray, .int .i64 (backL room (ws.map Wm.en) h (ts.map (·.t))).2]) ∧ Kp [] w w' ∧ PD w' n a' c' ws' ∧ ws'.map Wm.en = (backL room (ws.map Wm.en) h (ts.map (·.t))).1) := by
  refine enter3 Tryz.func39 rfl Tryz.ntmps39 rfl ?_
  repeat (first|apply cA|apply cB)
  refine SG.box rfl rfl rfl (by exact rho_of rfl) (fun b3 w1 hk1 hb3 hB3 => ?_)
  refine SG.alloc rfl rfl rfl (fun b6 w2 hk2 hb6 hB6 => ?_)
  have hB3 : Blk w1 b3 (.cells (pdc room a ws.length c).toArray 29) := hB3
  have hB6 : Blk w2 b6 (.cells (pdc 0 none 0 0).toArray 29) := hB6
  have l3 := hB3.lt
  have hB3 := hB3.kp0 hk2
  have k2 := hk1.trans hk2
  have s1 := hk1.size
  have s2 := k2.size
  have l6 := hB6.lt
  have hP2 := hP.kp0 k2
  repeat (first|apply cA|apply cB|apply cD|apply cE|apply cG|refine cV rfl rfl rfl rfl (by first|(apply qas<;>(exact rfl))|fail) ?_)
  refine CG.loop (X := Nat × Option Addr × Nat × List Wm) (fun x => [(1, .int .i64 h), (2, .slice at' ts.length ct), (3, .pointer (some ⟨b3, 0, none⟩)), (6, .pointer (some ⟨b6, 0, none⟩)), (8, .int .i64 (backN room h (ws.map Wm.en) ts x.1).2), (9, .int .i64 (x.1 : Int))])
    (fun x w' => x.1 ≤ ts.length ∧ Kp [] w w' ∧ PD w' n x.2.1 x.2.2.1 x.2.2.2 ∧ x.2.2.2.map Wm.en = (backN room h (ws.map Wm.en) ts x.1).1 ∧ Blk w' b3 (.cells (pdc room x.2.1 x.2.2.2.length x.2.2.1).toArray 29) ∧ Blk w' b6 (.cells (pdc 0 none 0 0).toArray 29)) (fun x => ts.length - x.1) (0, a, c, ws) ⟨Nat.zero_le _, k2, hP2, rfl, hB3, hB6⟩ (by (repeat' (first | exact True.intro | exact rfl | refine And.intro ?_ ?_))) ?_
  clear hB3 hB6 hP2
  rintro ⟨i, a3, c3, ws3⟩ w3 ⟨hi, hk3, hP3, hws, hB3, hB6⟩
  simp only at hi hP3 hws hB3
  have hI3 : PInv room (ws3.map Wm.en) := by rw [hws]; unfold backN; exact backF_inv _ hI
  have hsn : (0 : Int) ≤ (backN room h (ws.map Wm.en) ts i).2 ∧ (backN room h (ws.map Wm.en) ts i).2 ≤ 0 + (((ts.take i).map (·.t)).length : Int) := by unfold backN; exact backF_n ((ts.take i).map (·.t)) (s := (ws.map Wm.en, 0))
  rw [List.length_map, List.length_take] at hsn
  refine CG.to [(1, .int .i64 h), (2, .slice at' ts.length ct), (3, .pointer (some ⟨b3, 0, none⟩)), (6, .pointer (some ⟨b6, 0, none⟩)), (8, .int .i64 (backN room h (ws.map Wm.en) ts i).2), (9, .int .i64 (i : Int))] (by (repeat' (first | exact True.intro | exact rfl | refine And.intro ?_ ?_))) ?_
  obtain ⟨p0, -, -⟩ := pdc_rows hB3
  have s3 := hk3.size
  by_cases hlt : i < ts.length
  rotate_left
  · have g1 : ¬ (i : Int) < (ts.length : Int) := by omega
    have hfu : backN room h (ws.map Wm.en) ts i = backL room (ws.map Wm.en) h (ts.map (·.t)) := by
      unfold backN backL
      rw [List.take_of_length_le (by omega)]
    rw [hfu] at hws ⊢
    repeat (first|apply cA|apply cB|apply cD|apply cE|refine cV rfl rfl rfl rfl (by first|((first|apply qmv|apply qls|apply qln)<;>(first|exact rfl|exact dcf (by first|assumption|omega)|fail))|fail) ?_)
    refine dA rfl (by exact rho_of rfl) rfl ?_
    repeat (first|apply cA|apply cB|apply cE|apply cJ|apply cM|refine cQ rfl ?_|refine cV rfl rfl rfl rfl (by first|((first|apply qmv|apply qla)<;>(first|exact rfl|assumption|exact List.not_mem_nil))|fail) ?_)
    refine SG.setAll (l := pdc room a3 ws3.length c3) rfl rfl (by exact rho_of rfl) (by exact rho_of rfl) hB6 rfl rfl rfl (fun w4 hk4 hB64 => ?_)
    have hr4 : Row w4 b6 0 (pdc room a3 ws3.length c3) := Row.all hB64 rfl
    repeat (first|apply cD|apply cE|apply cH|refine cV rfl rfl rfl rfl (by first|(apply qas<;>(exact rfl))|fail) ?_)
    refine ret2 (Or.inl rfl) Tryz.results39 (ResV.agg rfl rfl hr4 (pdc_length _ _ _ _)) (by first | exact ResV.tmp rfl | exact ResV.agg rfl rfl (by assumption) (by first | exact dc_length _ | exact nc_length _ | exact rc_length _ _ _ | exact ec_length _ | exact dl_length _ _ _ _ | rfl) | exact ResV.cell rfl rfl (by assumption)) ?_
    exact ⟨a3, c3, ws3, rfl, hk3.trans_new hk4 (new1 (by omega)), hP3.kpb hk4 hB6 (by decide) (by decide) (by omega), hws⟩
  have g1 : (i : Int) < (ts.length : Int) := by omega
  obtain ⟨bt, ot, rfl, rt⟩ := (hT.kp0 hk3).at hlt
  have hxi := (hin _ (List.getElem_mem hlt)).kp0 hk3
  have hsu : backN room h (ws.map Wm.en) ts (i + 1) = backS room h (backN room h (ws.map Wm.en) ts i) ts[i].t := by
    unfold backN
    rw [List.take_succ_eq_append_getElem hlt, List.map_append, List.foldl_append]
    rfl
  have hfi := find_idx (l := ws3.map Wm.en) (k := ts[i].t.frm) (n := ts[i].t.non)
  have hli := likeW_lt (ws := ws3) (k := ts[i].t.frm) (n := ts[i].t.non)
  have hlen := hI3.len
  rw [List.length_map] at hlen
  generalize hs : backN room h (ws.map Wm.en) ts i = s at hws hsu hsn
  rw [hli] at hfi
  repeat (first|apply cA|apply cB|apply cD|apply cE|refine cV rfl rfl rfl rfl (by first|((first|apply qmv|apply qls|apply qln)<;>(first|exact rfl|exact dct (by first|assumption|omega)|fail))|fail) ?_)
  refine cZ rfl (by exact rho_of rfl) rfl ?_
  repeat (first|apply cA|apply cE|apply cF|apply cG)
  refine CG.tail mixed 5 [0, 1, 2, 3, 4] (by kernel_rfl) ?_
  repeat (refine cY rfl rfl rfl (by first|((first|apply qmv|apply qla|apply qix)<;>(first|exact rfl|exact Ar.mk (by omega)|assumption|exact List.not_mem_nil|apply txc_length|fail))|fail) ?_)
  refine Der.tl (fun w4 hk4 _ _ => ?_)
  refine SG.ret rfl rfl rfl (vs := [.agg (pdc room a3 ws3.length c3).toArray, txv ts[i]]) (by repeat' (first | exact True.intro | exact rho_of rfl | refine And.intro ?_ ?_)) (like_spec (hP3.kp0 hk4) (by omega)) (fun w5 hk5 => ?_)
  have k35 := hk4.trans hk5
  have k5 := hk3.trans k35
  have hP5 := hP3.kp0 k35
  have hB35 := hB3.kp0 k35
  have hB65 := hB6.kp0 k35
  have hx5 := hxi.kp0 k35
  have rt := rt.kp0 k35
  have p0 := p0.kp0 k35
  by_cases hf : ws3.findIdx (fun e : Wm => isK ts[i].t.frm ts[i].t.non e.en) < ws3.length
  · rw [idxZ_lt hf]
    have gi : (0 : Int) ≤ ((ws3.findIdx (fun e : Wm => isK ts[i].t.frm ts[i].t.non e.en) : Nat) : Int) := by omega
    have hst : backS room h s ts[i].t = s := by
      unfold backS
      rw [← hws, hfi, List.getElem?_eq_getElem (by rw [List.length_map]; exact hf)]
      exact if_pos rfl
    rw [hst] at hsu
    repeat (first|apply cD|apply cE|refine cV rfl rfl rfl rfl (by first|(apply qge<;>(first|exact rfl|exact dct (by first|assumption|omega)|fail))|fail) ?_)
    refine cZ rfl (by exact rho_of rfl) rfl ?_
    repeat (first|apply cB|apply cD|apply cE|apply cJ|apply cM|refine cQ rfl ?_|refine cV rfl rfl rfl rfl (by first|((first|apply qmv|apply qas|apply qad)<;>(first|exact rfl|exact Ar.mk (by omega)|fail))|fail) ?_)
    refine NG.round (i + 1, a3, c3, ws3) (by simp only; rw [hsu]; (repeat' (first | exact True.intro | exact rfl | refine And.intro ?_ ?_))) ⟨by simp only; omega, k5, hP5, by simp only; rw [hsu]; exact hws, hB35, hB65⟩ (by simp only; omega)
  rw [idxZ_no hf]
  have gi : ¬ (0 : Int) ≤ -1 := by omega
  have hst : backS room h s ts[i].t = (addE room s.1 h ts[i].t, if addZ room s.1 h ts[i].t = 0 then s.2 + 1 else s.2) := by
    unfold backS
    rw [← hws, hfi, List.getElem?_eq_none (by rw [List.length_map]; omega)]
    exact if_neg (by decide)
  rw [hst] at hsu
  rw [← hws] at hsu
  have s5 := k5.size
  repeat (first|apply cD|apply cE|refine cV rfl rfl rfl rfl (by first|(apply qge<;>(first|exact rfl|exact dcf (by first|assumption|omega)|fail))|fail) ?_)
  refine dA rfl (by exact rho_of rfl) rfl ?_
  repeat (first|apply cA|apply cE|apply cF)
  refine CG.free mixed 12 [0, 1, 2, 3, 4, 5, 6, 7, 8, 9, 10, 11] [(6, gQ n room (.int .i64 (addZ room (ws3.map Wm.en) h ts[i].t)) (addE room (ws3.map Wm.en) h ts[i].t)), (10, gV w5.heap.size 29 2), (11, gP w5.heap.size 29)] (by kernel_rfl) (by intro p hp y; simp at hp; rcases hp with rfl | rfl | rfl; exact gQ_stab y; exact gV_stab y; exact gP_stab y) ?_
  repeat (refine DerX.val rfl rfl rfl rfl (by first|((first|apply qmv|apply qla|apply qix)<;>(first|exact rfl|exact Ar.mk (by omega)|assumption|exact List.not_mem_nil|apply txc_length|fail))|fail) ?_)
  refine DerX.callE (vs := [.agg (pdc room a3 ws3.length c3).toArray, .int .i64 h, txv ts[i]]) (gQ n room (.int .i64 (addZ room (ws3.map Wm.en) h ts[i].t)) (addE room (ws3.map Wm.en) h ts[i].t)) rfl rfl rfl rfl (by repeat' (first | exact True.intro | exact rho_of rfl | refine And.intro ?_ ?_)) (fun W hk _ => (radd_spec (hP5.kp0 hk) (hx5.kp0 hk) hlen hr (by have := hk.size; omega)).mono (fun e W' hh => ?_)) (fun q => ?_)
  · obtain ⟨a', c', ws', he, hk', hD', hw'⟩ := hh
    exact ⟨(a', c', ws'), he, ⟨hD', hw'⟩, hk'⟩
  repeat (refine DerX.val rfl rfl rfl rfl (by first|((first|apply qmv|apply qxt)<;>(exact rfl))|fail) ?_)
  refine DerX.allocV rfl rfl rfl rfl rfl (Nat.le_refl _) (fun b10 => ?_)
  refine DerX.storeW (l := pdc room q.1 q.2.2.length q.2.1) rfl rfl rfl rfl (by kernel_rfl) (by exact rho_of rfl) (by exact rho_of rfl) rfl (Nat.le_refl _) (fun W hk hF => ⟨hF _ (.head _) (by kernel_rfl), rfl⟩) ?_ ?_
  · intro p hp hne y w w' cs g0 g1 g2 g3 g4 g5
    simp only [List.mem_cons, List.not_mem_nil, or_false] at hp
    rcases hp with rfl | rfl | rfl
    · exact gQ_keep g1 (by omega) g3 g5
    · exact gV_keep rfl g3 g4 g5
    · exact absurd rfl hne
  refine DerX.tl (fun w6 hk6 hF => ?_)
  obtain ⟨lb10, hB10⟩ : w5.heap.size ≤ b10 ∧ Blk w6 b10 (.cells (pdc room q.1 q.2.2.length q.2.1).toArray 29) := hF _ (.head _)
  obtain ⟨hD6, hw6⟩ : PD w6 n q.1 q.2.1 q.2.2 ∧ q.2.2.map Wm.en = addE room (ws3.map Wm.en) h ts[i].t := hF _ (.tail _ (.tail _ (.head _)))
  obtain ⟨a6, c6, ws6⟩ := q
  simp only at hB10 hD6 hw6
  clear hF p0 rt
  obtain ⟨p0, -, -⟩ := pdc_rows hB10
  have hB36 := hB35.kp0 hk6
  have hB66 := hB65.kp0 hk6
  have k6 := k5.trans hk6
  repeat (first|apply cA|apply cB|apply cD|apply cE|refine cV rfl rfl rfl rfl (by first|((first|apply qas|apply qla)<;>(first|exact rfl|assumption|exact List.not_mem_nil))|fail) ?_)
  refine SG.setAll (l := pdc room a6 ws6.length c6) rfl rfl (by exact rho_of rfl) (by exact rho_of rfl) hB36 rfl rfl rfl (fun w7 hk7 hB37 => ?_)
  have hB37 : Blk w7 b3 (.cells (pdc room a6 ws6.length c6).toArray 29) := hB37
  have k7 := k6.trans_new hk7 (new1 (S := []) hb3)
  have hD7 := hD6.kpb hk7 hB36 (by decide) (by decide) (by omega)
  have hB67 := hB66.kp hk7 (nm1 (by omega))
  clear p0
  by_cases hz : addZ room (ws3.map Wm.en) h ts[i].t = 0
  · rw [if_pos hz] at hsu
    rw [hz]
    have h00 : (0 : Int) = 0 := rfl
    repeat (first|apply cA|apply cB|apply cD|apply cE|refine cV rfl rfl rfl rfl (by first|((first|apply qmv|apply qei)<;>(first|exact rfl|exact dct (by first|assumption|omega)|fail))|fail) ?_)
    refine cZ rfl (by exact rho_of rfl) rfl ?_
    repeat (first|apply cB|apply cD|apply cE|apply cU|refine cV rfl rfl rfl rfl (by first|((first|apply qmv|apply qas|apply qad)<;>(first|exact rfl|exact Ar.mk (by omega)|fail))|fail) ?_)
    refine NG.round (i + 1, a6, c6, ws6) (by simp only; rw [hsu]; (repeat' (first | exact True.intro | exact rfl | refine And.intro ?_ ?_))) ⟨by simp only; omega, k7, hD7, by simp only; rw [hsu]; exact hw6, hB37, hB67⟩ (by simp only; omega)
  · rw [if_neg hz] at hsu
    repeat (first|apply cA|apply cB|apply cD|apply cE|refine cV rfl rfl rfl rfl (by first|((first|apply qmv|apply qei)<;>(first|exact rfl|exact dcf (by first|assumption|omega)|fail))|fail) ?_)
    refine dA rfl (by exact rho_of rfl) rfl ?_
    repeat (first|apply cB|apply cD|apply cE|apply cF|apply cU|refine cV rfl rfl rfl rfl (by first|((first|apply qmv|apply qas|apply qad)<;>(first|exact rfl|exact Ar.mk (by omega)|fail))|fail) ?_)
    refine NG.round (i + 1, a6, c6, ws6) (by simp only; rw [hsu]; (repeat' (first | exact True.intro | exact rfl | refine And.intro ?_ ?_))) ⟨by simp only; omega, k7, hD7, by simp only; rw [hsu]; exact hw6, hB37, hB67⟩ (by simp only; omega)
end Go.Proofs.YtgbgnlboogalgaaGreat
namespace Go.Proofs.YtgbgnlboogalgaaGreat
open Go.Proofs
set_option linter.unusedVariables false
/-- Of the first k one that is late, of the same key, with no smaller number. -/
def MustK (r : List Wm) (h lv : Int) (e : Wm) (k : Nat) : Prop := ∃ (j : Nat) (hj : j < r.length), j < k ∧ r[j].since + lv + 1 ≤ h ∧ wK r[j] = wK e ∧ wN e ≤ wN r[j]
def mustB (ws : List Wm) (h lv : Int) (e : Wm) : Bool := upB (dueL (ws.map Wm.en) h lv) e.en
attribute [local irreducible] CG NG SG Vals Der Row Blk MapIs IterAt DerX DerR wrongT nameT
set_option maxHeartbeats 16000000 in
theorem wsame_spec {w : World} {n m : Nat} {a a2 : Option Addr} (c c2 : Nat) {xs : List Tm} {ws : List Wm} (hX : Sl txc 13 w a xs) (hW : Sl wc 14 w a2 ws) (hx : ∀ x ∈ xs, x.In n w) (hw : ∀ e ∈ ws, e.x.In m w) (hl : xs.length ≤ 100000) (h : xs.map (·.t) = ws.map (fun e => e.x.t)) : Ret Tryz.prog 9 #[.slice a xs.length c, .slice a2 ws.length c2] w (.bool true) := by
  refine enter2 Tryz.func9 rfl Tryz.ntmps9 rfl ?_
  have hlen : xs.length = ws.length := by have := congrArg List.length h; rwa [List.length_map, List.length_map] at this
  have g0 : (xs.length : Int) = (ws.length : Int) := by omega
  repeat (first|apply cA|apply cB|apply cD|apply cE|refine cV rfl rfl rfl rfl (by first|((first|apply qmv|apply qas|apply qni|apply qln)<;>(first|exact rfl|exact dct (by first|assumption|omega)|fail))|fail) ?_)
  refine dA rfl (by exact rho_of rfl) rfl ?_
  repeat (first|apply cA|apply cB|apply cD|apply cE|apply cF|apply cG|refine cV rfl rfl rfl rfl (by first|(apply qas<;>(exact rfl))|fail) ?_)
  refine CG.loop (X := Nat) (fun i => [(0, .slice a xs.length c), (1, .slice a2 ws.length c2), (5, .int .i64 (i : Int))]) (fun i w' => i ≤ xs.length ∧ Kp [] w w') (fun i => xs.length - i) 0 ⟨Nat.zero_le _, Kp.refl _ _⟩ (by (repeat' (first | exact True.intro | exact rfl | refine And.intro ?_ ?_))) ?_
  rintro i w1 ⟨hi, hk1⟩
  refine CG.to [(0, .slice a xs.length c), (1, .slice a2 ws.length c2), (5, .int .i64 (i : Int))] (by (repeat' (first | exact True.intro | exact rfl | refine And.intro ?_ ?_))) ?_
  by_cases hlt : i < xs.length
  · have g1 : (i : Int) < (xs.length : Int) := by omega
    have hlt2 : i < ws.length := by omega
    have heq : xs[i].t = ws[i].x.t := by
      have := congrArg (fun l => l[i]?) h
      simp only [List.getElem?_map, List.getElem?_eq_getElem hlt, List.getElem?_eq_getElem hlt2, Option.map_some, Option.some.injEq] at this
      exact this
    obtain ⟨b1, o1, rfl, r1⟩ := (hX.kp0 hk1).at hlt
    obtain ⟨b2, o2, rfl, r2⟩ := (hW.kp0 hk1).at hlt2
    obtain ⟨q2, -, -, -, -⟩ := wc_rows r2
    clear r2
    repeat (first|apply cA|apply cB|apply cD|apply cE|refine cV rfl rfl rfl rfl (by first|((first|apply qmv|apply qls|apply qln)<;>(first|exact rfl|exact dct (by first|assumption|omega)|fail))|fail) ?_)
    refine cZ rfl (by exact rho_of rfl) rfl ?_
    repeat (first|apply cA|apply cE|apply cF|apply cG)
    refine CG.tail mixed 10 [0, 1, 2, 3, 4, 5, 6, 7, 8, 9] (by kernel_rfl) ?_
    repeat (refine cY rfl rfl rfl (by first|((first|apply qmv|apply qla|apply qix)<;>(first|exact rfl|exact Ar.mk (by omega)|assumption|exact List.not_mem_nil|apply txc_length|fail))|fail) ?_)
    refine Der.call rfl rfl rfl (vs := [txv xs[i]]) (by repeat' (first | exact True.intro | exact rho_of rfl | refine And.intro ?_ ?_)) (fun W hk _ => tof_spec xs[i]) ?_
    repeat (refine cY rfl rfl rfl (by first|((first|apply qmv|apply qla|apply qfa|apply qix)<;>(first|exact rfl|exact Ar.mk (by omega)|assumption|exact List.not_mem_nil|apply txc_length|fail))|fail) ?_)
    refine Der.tl (fun w2 hk2 _ _ => ?_)
    have ts := rtsame_spec (((hx _ (List.getElem_mem hlt)).kp0 hk1).kp0 hk2) (((hw _ (List.getElem_mem hlt2)).kp0 hk1).kp0 hk2)
    rw [txEq_t heq] at ts
    refine SG.ret rfl rfl rfl (vs := [txv xs[i], txv ws[i].x]) (by repeat' (first | exact True.intro | exact rho_of rfl | refine And.intro ?_ ?_)) ts (fun w3 hk3 => ?_)
    repeat (first|apply cD|apply cE|refine cV rfl rfl rfl rfl (by first|(apply qnt<;>(exact rfl))|fail) ?_)
    refine dA rfl (by exact rho_of rfl) rfl ?_
    repeat (first|apply cB|apply cD|apply cE|apply cF|apply cU|refine cV rfl rfl rfl rfl (by first|((first|apply qmv|apply qas|apply qad)<;>(first|exact rfl|exact Ar.mk (by omega)|fail))|fail) ?_)
    refine NG.round (i + 1) (by (repeat' (first | exact True.intro | exact rfl | refine And.intro ?_ ?_))) ⟨by omega, (hk1.trans hk2).trans hk3⟩ (by omega)
  have g1 : ¬ (i : Int) < (xs.length : Int) := by omega
  repeat (first|apply cA|apply cB|apply cD|apply cE|refine cV rfl rfl rfl rfl (by first|((first|apply qmv|apply qls|apply qln)<;>(first|exact rfl|exact dcf (by first|assumption|omega)|fail))|fail) ?_)
  refine dA rfl (by exact rho_of rfl) rfl ?_
  repeat (first|apply cA|apply cB|apply cD|apply cE|apply cH|apply cJ|apply cM|refine cQ rfl ?_|refine cV rfl rfl rfl rfl (by first|(apply qas<;>(exact rfl))|fail) ?_)
  refine ret1 (Or.inl rfl) Tryz.results9 (by first | exact ResV.tmp rfl | exact ResV.agg rfl rfl (by assumption) (by first | exact dc_length _ | exact nc_length _ | exact rc_length _ _ _ | exact ec_length _ | exact dl_length _ _ _ _ | rfl) | exact ResV.cell rfl rfl (by assumption)) ?_
  exact ⟨rfl, hk1⟩
end Go.Proofs.YtgbgnlboogalgaaGreat
