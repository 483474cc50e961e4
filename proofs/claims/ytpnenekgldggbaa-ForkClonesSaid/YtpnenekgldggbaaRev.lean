/-
  slices.Reverse at digests.
-/
import Derived.Test.YtpnenekgldggbaaAdd
namespace Go.Proofs.Ytpnenekgldggbaa
set_option linter.unusedVariables false

def flat (l : List Dg) : List Value := l.flatMap dc
theorem flat_length (l : List Dg) : (flat l).length = l.length * 8 := by
  induction l with
  | nil => rfl
  | cons x l ih => simp only [flat, List.flatMap_cons, List.length_append, dc_length, List.length_cons] at *; omega
theorem flat_one (l : List Dg) : allOne (flat l) = true := by
  induction l with
  | nil => rfl
  | cons x l ih =>
    have := dc_one x
    unfold allOne at *
    simp only [flat, List.flatMap_cons, List.all_append, this, Bool.true_and] at *
    exact ih
theorem flat_split (l : List Dg) (k : Nat) (hk : k < l.length) : flat l = flat (l.take k) ++ (dc l[k] ++ flat (l.drop (k + 1))) := by
  have e : l = l.take k ++ (l[k] :: l.drop (k + 1)) := by rw [← List.drop_eq_getElem_cons hk, List.take_append_drop]
  calc flat l = flat (l.take k ++ (l[k] :: l.drop (k + 1))) := by rw [← e]
    _ = _ := by simp only [flat, List.flatMap_append, List.flatMap_cons]
theorem flat_row {w : World} {b : Nat} {l : List Dg} {pre post : List Value} {T : TypeId} (h : Blk w b (.cells (pre ++ (flat l ++ post)).toArray T)) {k : Nat} (hk : k < l.length) : Row w b (pre.length + k * 8) (dc l[k]) := by
  refine Row.of h (pre ++ flat (l.take k)) (flat (l.drop (k + 1)) ++ post) ?_ ?_
  · rw [flat_split l k hk]; simp
  · simp [flat_length]; omega
theorem flat_set (l : List Dg) (k : Nat) (hk : k < l.length) (x : Dg) (pre post : List Value) : spl (pre ++ (flat l ++ post)) (pre.length + k * 8) (dc x) = pre ++ (flat (l.set k x) ++ post) := by
  have h1 : pre ++ (flat l ++ post) = (pre ++ flat (l.take k)) ++ (dc l[k] ++ (flat (l.drop (k + 1)) ++ post)) := by rw [flat_split l k hk]; simp
  have h2 : (pre ++ flat (l.take k)).length = pre.length + k * 8 := by simp [flat_length]; omega
  rw [h1, ← h2, spl_mid (by simp [dc_length])]
  rw [List.set_eq_take_append_cons_drop, if_pos hk]
  simp [flat]

/-- What is turned so far: all outside i .. j. -/
def revd (l : List Dg) (i : Nat) (cur : List Dg) : Prop := cur.length = l.length ∧ ∀ k, k < l.length → cur[k]? = if k < i ∨ l.length ≤ k + i then l.reverse[k]? else l[k]?

theorem revd_done {l cur : List Dg} {i : Nat} (h : revd l i cur) (hi : l.length ≤ 2 * i + 1) : cur = l.reverse := by
  apply List.ext_getElem?
  intro k
  by_cases hk : k < l.length
  · rw [h.2 k hk]
    split
    · rfl
    · have : l.length - 1 - k = k := by omega
      rw [List.getElem?_reverse hk, this]
  · rw [List.getElem?_eq_none (by rw [h.1]; omega), List.getElem?_eq_none (by simp; omega)]
theorem revd_step {l cur : List Dg} {i j : Nat} (h : revd l i cur) (hij : i < j) (hj : i + j + 1 = l.length) (hi' : i < cur.length) (hj' : j < cur.length) : revd l (i + 1) ((cur.set i cur[j]).set j cur[i]) := by
  refine ⟨by simp [h.1], fun k hk => ?_⟩
  have hci : cur[i]? = l[i]? := by rw [h.2 i (by omega), if_neg (by omega)]
  have hcj : cur[j]? = l[j]? := by rw [h.2 j (by omega), if_neg (by omega)]
  rw [List.getElem?_set, List.getElem?_set]
  by_cases e1 : j = k
  · subst e1
    rw [if_pos rfl, if_pos (by simpa using hj'), if_pos (by omega), List.getElem?_reverse hk]
    have : l.length - 1 - j = i := by omega
    rw [this, ← hci, List.getElem?_eq_getElem hi']
  · rw [if_neg e1]
    by_cases e2 : i = k
    · subst e2
      rw [if_pos rfl, if_pos hi', if_pos (by omega), List.getElem?_reverse hk]
      have : l.length - 1 - i = j := by omega
      rw [this, ← hcj, List.getElem?_eq_getElem hj']
    · rw [if_neg e2, h.2 k hk]
      by_cases e3 : k < i ∨ l.length ≤ k + i
      · rw [if_pos e3, if_pos (by omega)]
      · rw [if_neg e3, if_neg (by omega)]

theorem run_load29 {w : World} {b o : Nat} {x : Dg} (h : Row w b o (dc x)) : (Instr.loadAt 29 (.pointer (some ⟨b, o, none⟩))).run Try.prog w = .ok (dv x) w := run_loadAt_agg rfl h (dc_length _)
theorem run_store29 {w : World} {b o : Nat} {cs : Array Value} {x : Dg} (h : Blk w b (.cells cs 29)) (ho : o + 8 ≤ cs.size) : (Instr.storeAt 29 (.pointer (some ⟨b, o, none⟩)) (dv x)).run Try.prog w = .ok () { w with heap := w.heap.setIfInBounds b (.cells (spl cs.toList o (dc x)).toArray 29) } := by
  have := run_storeAt (P := Try.prog) (T := 29) (off := o) (v := dv x) h (dc_length x) (by simp [Value.cells, dc_length]; exact ho) (dc_one x)
  exact this

attribute [local irreducible] CG NG SG Vals Der Row Blk MapIs
set_option maxHeartbeats 8000000 in
theorem reverse_spec {w : World} {b c : Nat} {l : List Dg} {pre post : List Value} (hB : Blk w b (.cells (pre ++ (flat l ++ post)).toArray 29)) (hn : l.length ≤ 100000) :
    Calls Try.prog 34 #[.slice (some ⟨b, pre.length, none⟩) l.length c] w (fun e w' => e = .returned (.tuple #[]) ∧ Blk w' b (.cells (pre ++ (flat l.reverse ++ post)).toArray 29) ∧ Kp [b] w w') := by
  refine enter1 Try.func34 rfl Try.ntmps34 rfl ?_
  repeat (first|apply CG.seq|apply CG.region|apply SG.nil|apply NG.next|apply CG.skip|apply CG.block|apply CG.ret|apply CG.exit|apply CG.scope|apply NG.ret_then|apply NG.ret_block|apply NG.ret_scope|apply NG.exit_then|refine NG.exit_block rfl ?_|refine NG.exit_other rfl ?_|apply NG.exit_scope|apply NG.normal_block|apply NG.normal_scope|refine SG.val rfl rfl rfl rfl (by first|((first|apply qmv|apply qas|apply qlc|apply qla|apply qfa|apply qnc|apply qic|apply qix|apply qpk|apply qls|apply qei|apply qni|apply qed|apply qnd|apply qad|apply qln|apply qle|apply qgt|apply qge|apply qlk|apply qlv|apply qxt|apply qsb|apply qnt|apply qep|apply qnp|apply qeb|apply qnb|apply qcv|apply qlm|apply qfr|apply qto|apply qmx|apply qx0|apply qx1)<;>(first|exact rfl|exact Ar.mk (by omega)|assumption|exact dct (by assumption)|exact dcf (by assumption)|exact dct (by omega)|exact dcf (by omega)|exact List.not_mem_nil|exact dc_length _|exact nc_length _|exact nm1 (by omega)|exact nm2 (by omega) (by omega)|exact dct rfl|exact dct (by decide)|exact dcf (by decide)|exact (Int.toNat_of_nonneg (by omega)).symm|exact dcu|exact lk1 (by assumption)|exact lk0 (by assumption)))|fail) ?_)
  refine CG.loop (X := Nat × List Dg) (fun x => [(0, .slice (some ⟨b, pre.length, none⟩) l.length c), (2, .int .i64 (x.1 : Int)), (3, .int .i64 ((l.length : Int) - 1 - x.1))])
    (fun x w' => revd l x.1 x.2 ∧ 2 * x.1 ≤ l.length + 1 ∧ Blk w' b (.cells (pre ++ (flat x.2 ++ post)).toArray 29) ∧ Kp [b] w w')
    (fun x => l.length + 1 - x.1) (0, l) ⟨⟨rfl, fun k hk => by rw [if_neg (by omega)]⟩, by omega, hB, Kp.refl _ _⟩ (by refine ⟨rfl, rfl, ?_, True.intro⟩; rw [show ((l.length : Int) - 1 - ((0 : Nat) : Int)) = (l.length : Int) - 1 from by omega]; exact rfl) ?_
  rintro ⟨i, cur⟩ w1 ⟨hr, hi, hB1, hk1⟩
  simp only at hr hi hB1
  by_cases hlt : 2 * i + 1 < l.length
  · have g1 : (i : Int) < (l.length : Int) - 1 - i := by omega
    repeat (first|apply CG.seq|apply CG.region|apply SG.nil|apply NG.next|apply CG.skip|apply CG.block|apply CG.ret|apply CG.exit|apply CG.scope|apply NG.ret_then|apply NG.ret_block|apply NG.ret_scope|apply NG.exit_then|refine NG.exit_block rfl ?_|refine NG.exit_other rfl ?_|apply NG.exit_scope|apply NG.normal_block|apply NG.normal_scope|refine SG.val rfl rfl rfl rfl (by first|((first|apply qmv|apply qas|apply qlc|apply qla|apply qfa|apply qnc|apply qic|apply qix|apply qpk|apply qls|apply qei|apply qni|apply qed|apply qnd|apply qad|apply qln|apply qle|apply qgt|apply qge|apply qlk|apply qlv|apply qxt|apply qsb|apply qnt|apply qep|apply qnp|apply qeb|apply qnb|apply qcv|apply qlm|apply qfr|apply qto|apply qmx|apply qx0|apply qx1)<;>(first|exact rfl|exact Ar.mk (by omega)|assumption|exact dct (by assumption)|exact dcf (by assumption)|exact dct (by omega)|exact dcf (by omega)|exact List.not_mem_nil|exact dc_length _|exact nc_length _|exact nm1 (by omega)|exact nm2 (by omega) (by omega)|exact dct rfl|exact dct (by decide)|exact dcf (by decide)|exact (Int.toNat_of_nonneg (by omega)).symm|exact dcu|exact lk1 (by assumption)|exact lk0 (by assumption)))|fail) ?_)
    refine CG.cond_t rfl (by exact rho_of rfl) rfl ?_
    repeat (first|apply CG.seq|apply CG.region|apply SG.nil|apply NG.next|apply CG.skip|apply CG.block|apply CG.ret|apply CG.exit|apply CG.scope|apply NG.ret_then|apply NG.ret_block|apply NG.ret_scope|apply NG.exit_then|refine NG.exit_block rfl ?_|refine NG.exit_other rfl ?_|apply NG.exit_scope|apply NG.normal_block|apply NG.normal_scope|refine SG.val rfl rfl rfl rfl (by first|((first|apply qmv|apply qas|apply qlc|apply qla|apply qfa|apply qnc|apply qic|apply qix|apply qpk|apply qls|apply qei|apply qni|apply qed|apply qnd|apply qad|apply qln|apply qle|apply qgt|apply qge|apply qlk|apply qlv|apply qxt|apply qsb|apply qnt|apply qep|apply qnp|apply qeb|apply qnb|apply qcv|apply qlm|apply qfr|apply qto|apply qmx|apply qx0|apply qx1)<;>(first|exact rfl|exact Ar.mk (by omega)|assumption|exact dct (by assumption)|exact dcf (by assumption)|exact dct (by omega)|exact dcf (by omega)|exact List.not_mem_nil|exact dc_length _|exact nc_length _|exact nm1 (by omega)|exact nm2 (by omega) (by omega)|exact dct rfl|exact dct (by decide)|exact dcf (by decide)|exact (Int.toNat_of_nonneg (by omega)).symm|exact dcu|exact lk1 (by assumption)|exact lk0 (by assumption)))|fail) ?_)
    have hji : (l.length - 1 - i) < cur.length := by rw [hr.1]; omega
    have hii : i < cur.length := by rw [hr.1]; omega
    have hcast : ((l.length : Int) - 1 - i) = ((l.length - 1 - i : Nat) : Int) := by omega
    refine CG.to [(0, .slice (some ⟨b, pre.length, none⟩) l.length c), (2, .int .i64 (i : Int)), (3, .int .i64 ((l.length - 1 - i : Nat) : Int))] (by refine ⟨rfl, rfl, ?_, True.intro⟩; rw [← hcast]; exact rfl) ?_
    refine CG.draw mixed [0, 1, 2, 3, 4, 5, 6, 8, 9, 10, 12, 14, 7, 11, 13, 15] [13, 15, 1007, 1011] [] [b] (fun w' => Blk w' b (.cells (pre ++ (flat cur ++ post)).toArray 29)) (by kernel_rfl) (by simpa using hB1.lt) (by simp) hB1 (fun w w' hk h => h.kp0 hk) (Or.inl rfl) ?_
    have h1 : l.length - 1 - i < l.length := by omega
    have h2 : i < l.length := by omega
    repeat (refine Der.val rfl rfl rfl (by first|((first|apply qmv|apply qas|apply qlc|apply qla|apply qfa|apply qnc|apply qic|apply qix|apply qpk|apply qls|apply qei|apply qni|apply qed|apply qnd|apply qad|apply qln|apply qle|apply qgt|apply qge|apply qlk|apply qlv|apply qxt|apply qsb|apply qnt|apply qep|apply qnp|apply qeb|apply qnb|apply qcv|apply qlm|apply qfr|apply qto|apply qmx|apply qx0|apply qx1)<;>(first|exact rfl|exact Ar.mk (by omega)|assumption|exact dct (by assumption)|exact dcf (by assumption)|exact dct (by omega)|exact dcf (by omega)|exact List.not_mem_nil|exact dc_length _|exact nc_length _|exact nm1 (by omega)|exact nm2 (by omega) (by omega)|exact dct rfl|exact dct (by decide)|exact dcf (by decide)|exact (Int.toNat_of_nonneg (by omega)).symm|exact dcu|exact lk1 (by assumption)|exact lk0 (by assumption)))|fail) ?_)
    refine Der.loadR (l := dc cur[l.length - 1 - i]) rfl rfl rfl rfl (by exact rho_of rfl) rfl (fun w h => flat_row h hji) (dc_length _) ?_
    refine Der.loadR (l := dc cur[i]) rfl rfl rfl rfl (by exact rho_of rfl) rfl (fun w h => flat_row h hii) (dc_length _) ?_
    refine Der.storeR (fun w' => Blk w' b (.cells (pre ++ (flat (cur.set i cur[l.length - 1 - i]) ++ post)).toArray 29)) rfl rfl rfl rfl (by exact rho_of rfl) (by exact rho_of rfl) (fun _ _ _ h => h) (fun w w' hk h => h.kp0 hk) (fun w h => ?_) ?_
    · have hrun := run_store29 (o := pre.length + i * 8) (x := cur[l.length - 1 - i]) h (by simp [flat_length, hr.1]; omega)
      refine ⟨_, hrun, ?_, Kp.set w h rfl rfl⟩
      have := h.set (.cells (spl (pre ++ (flat cur ++ post)) (pre.length + i * 8) (dc cur[l.length - 1 - i])).toArray 29)
      rw [flat_set cur i hii] at this
      rw [flat_set cur i hii]
      exact this
    refine Der.storeR (fun w' => Blk w' b (.cells (pre ++ (flat ((cur.set i cur[l.length - 1 - i]).set (l.length - 1 - i) cur[i]) ++ post)).toArray 29)) rfl rfl rfl rfl (by exact rho_of rfl) (by exact rho_of rfl) (fun _ _ _ h => h) (fun w w' hk h => h.kp0 hk) (fun w h => ?_) ?_
    · have hjs : l.length - 1 - i < (cur.set i cur[l.length - 1 - i]).length := by simpa using hji
      have hrun := run_store29 (o := pre.length + (l.length - 1 - i) * 8) (x := cur[i]) h (by simp [flat_length, hr.1]; omega)
      refine ⟨_, hrun, ?_, Kp.set w h rfl rfl⟩
      have := h.set (.cells (spl (pre ++ (flat (cur.set i cur[l.length - 1 - i]) ++ post)) (pre.length + (l.length - 1 - i) * 8) (dc cur[i])).toArray 29)
      rw [flat_set _ _ hjs] at this
      rw [flat_set _ _ hjs]
      exact this
    refine Der.fin (fun w2 hk2 _ hB2 => ?_)
    repeat (first|apply CG.seq|apply CG.region|apply SG.nil|apply NG.next|apply CG.skip|apply CG.block|apply CG.ret|apply CG.exit|apply CG.scope|apply NG.ret_then|apply NG.ret_block|apply NG.ret_scope|apply NG.exit_then|refine NG.exit_block rfl ?_|refine NG.exit_other rfl ?_|apply NG.exit_scope|apply NG.normal_block|apply NG.normal_scope|refine SG.val rfl rfl rfl rfl (by first|((first|apply qmv|apply qas|apply qlc|apply qla|apply qfa|apply qnc|apply qic|apply qix|apply qpk|apply qls|apply qei|apply qni|apply qed|apply qnd|apply qad|apply qln|apply qle|apply qgt|apply qge|apply qlk|apply qlv|apply qxt|apply qsb|apply qnt|apply qep|apply qnp|apply qeb|apply qnb|apply qcv|apply qlm|apply qfr|apply qto|apply qmx|apply qx0|apply qx1)<;>(first|exact rfl|exact Ar.mk (by omega)|assumption|exact dct (by assumption)|exact dcf (by assumption)|exact dct (by omega)|exact dcf (by omega)|exact List.not_mem_nil|exact dc_length _|exact nc_length _|exact nm1 (by omega)|exact nm2 (by omega) (by omega)|exact dct rfl|exact dct (by decide)|exact dcf (by decide)|exact (Int.toNat_of_nonneg (by omega)).symm|exact dcu|exact lk1 (by assumption)|exact lk0 (by assumption)))|fail) ?_)
    refine NG.round (i + 1, (cur.set i cur[l.length - 1 - i]).set (l.length - 1 - i) cur[i]) ?_ ⟨revd_step hr (by omega) (by omega) hii hji, by omega, hB2, hk1.trans hk2⟩ (by simp only; omega)
    refine ⟨rfl, ?_, ?_, True.intro⟩
    · rw [show (((i + 1 : Nat) : Int)) = (i : Int) + 1 from by omega]; exact rfl
    · rw [show ((l.length : Int) - 1 - ((i + 1 : Nat) : Int)) = ((l.length - 1 - i : Nat) : Int) - 1 from by omega]; exact rfl
  · have g1 : ¬ (i : Int) < (l.length : Int) - 1 - i := by omega
    repeat (first|apply CG.seq|apply CG.region|apply SG.nil|apply NG.next|apply CG.skip|apply CG.block|apply CG.ret|apply CG.exit|apply CG.scope|apply NG.ret_then|apply NG.ret_block|apply NG.ret_scope|apply NG.exit_then|refine NG.exit_block rfl ?_|refine NG.exit_other rfl ?_|apply NG.exit_scope|apply NG.normal_block|apply NG.normal_scope|refine SG.val rfl rfl rfl rfl (by first|((first|apply qmv|apply qas|apply qlc|apply qla|apply qfa|apply qnc|apply qic|apply qix|apply qpk|apply qls|apply qei|apply qni|apply qed|apply qnd|apply qad|apply qln|apply qle|apply qgt|apply qge|apply qlk|apply qlv|apply qxt|apply qsb|apply qnt|apply qep|apply qnp|apply qeb|apply qnb|apply qcv|apply qlm|apply qfr|apply qto|apply qmx|apply qx0|apply qx1)<;>(first|exact rfl|exact Ar.mk (by omega)|assumption|exact dct (by assumption)|exact dcf (by assumption)|exact dct (by omega)|exact dcf (by omega)|exact List.not_mem_nil|exact dc_length _|exact nc_length _|exact nm1 (by omega)|exact nm2 (by omega) (by omega)|exact dct rfl|exact dct (by decide)|exact dcf (by decide)|exact (Int.toNat_of_nonneg (by omega)).symm|exact dcu|exact lk1 (by assumption)|exact lk0 (by assumption)))|fail) ?_)
    refine CG.cond_f rfl (by exact rho_of rfl) rfl ?_
    repeat (first|apply CG.seq|apply CG.region|apply SG.nil|apply NG.next|apply CG.skip|apply CG.block|apply CG.ret|apply CG.exit|apply CG.scope|apply NG.ret_then|apply NG.ret_block|apply NG.ret_scope|apply NG.exit_then|refine NG.exit_block rfl ?_|refine NG.exit_other rfl ?_|apply NG.exit_scope|apply NG.normal_block|apply NG.normal_scope|refine SG.val rfl rfl rfl rfl (by first|((first|apply qmv|apply qas|apply qlc|apply qla|apply qfa|apply qnc|apply qic|apply qix|apply qpk|apply qls|apply qei|apply qni|apply qed|apply qnd|apply qad|apply qln|apply qle|apply qgt|apply qge|apply qlk|apply qlv|apply qxt|apply qsb|apply qnt|apply qep|apply qnp|apply qeb|apply qnb|apply qcv|apply qlm|apply qfr|apply qto|apply qmx|apply qx0|apply qx1)<;>(first|exact rfl|exact Ar.mk (by omega)|assumption|exact dct (by assumption)|exact dcf (by assumption)|exact dct (by omega)|exact dcf (by omega)|exact List.not_mem_nil|exact dc_length _|exact nc_length _|exact nm1 (by omega)|exact nm2 (by omega) (by omega)|exact dct rfl|exact dct (by decide)|exact dcf (by decide)|exact (Int.toNat_of_nonneg (by omega)).symm|exact dcu|exact lk1 (by assumption)|exact lk0 (by assumption)))|fail) ?_)
    refine ret0 (Or.inr rfl) Try.results34 ?_
    exact ⟨rfl, by rw [← revd_done hr (by omega)]; exact hB1, hk1⟩
end Go.Proofs.Ytpnenekgldggbaa
