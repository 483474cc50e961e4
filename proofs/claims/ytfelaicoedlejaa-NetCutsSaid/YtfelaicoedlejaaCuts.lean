/-
  NetCuts: what comes while its way is cut is lost for good, and nothing else.
-/
import Derived.Test.YtfelaicoedlejaaAt
import Derived.Test.YtfelaicoedlejaaEff
namespace Go.Proofs.Ytfelaicoedlejaa
set_option linter.unusedVariables false

abbrev Q3 := UInt8 × UInt8 × UInt8
def q3 (x : Q3) : List Value := [bv x.1, bv x.2.1, bv x.2.2]
theorem q3_length (x : Q3) : (q3 x).length = 3 := rfl

/-! a map of what came -/
def Cm (m : List (I64 × Bool)) (p : Nat → Prop) : Prop := ∀ k : I64, (alook m k = some true ∧ ∃ i, p i ∧ (i : Int) = k.1) ∨ (alook m k = none ∧ ¬ ∃ i, p i ∧ (i : Int) = k.1)
theorem Cm.congr {m : List (I64 × Bool)} {p q : Nat → Prop} (h : Cm m p) (hpq : ∀ j, p j ↔ q j) : Cm m q := by
  have : p = q := funext (fun j => propext (hpq j))
  rw [← this]
  exact h
theorem Cm.put {m : List (I64 × Bool)} {p : Nat → Prop} (h : Cm m p) {x : I64} {i : Nat} (hx : (i : Int) = x.1) : Cm (aput m x true) (fun j => p j ∨ j = i) := fun k => by
  rw [alook_put]
  by_cases hk : k = x
  · subst hk
    exact Or.inl ⟨by rw [if_pos rfl], i, Or.inr rfl, hx⟩
  · have hne : ¬ x = k := fun e => hk e.symm
    rw [if_neg hne]
    rcases h k with ⟨h1, j, h2, h3⟩ | ⟨h1, h2⟩
    · exact Or.inl ⟨h1, j, Or.inl h2, h3⟩
    · refine Or.inr ⟨h1, ?_⟩
      rintro ⟨j, hj | rfl, hjk⟩
      · exact h2 ⟨j, hj, hjk⟩
      · exact hk (Subtype.ext (hjk.symm.trans hx))
theorem vals_came {S : List Nat} {w0 : World} {F : World → Prop} {L : Env} {d : Option Nat} {tt : TypeId} {pos : String} {af : Array Edge} {g : Option (Nat × Bool)} {x y : Operand} {bc i : Nat} {m : List (I64 × Bool)} {p : Nat → Prop} {c : Bool} (hx : ro L x = some (.map (some bc))) (hy : ro L y = some (.int .i64 (i : Int))) (hi : i < 1000) (h : MapIs w0 bc iv Value.bool m) (hc : Cm m p) (hd : Dc (p i) c) (hb : bc ∉ S) :
    Vals Try.prog S w0 F L ⟨d, .lookup 54 x y false, tt, pos, af, g⟩ (.bool c) := by
  have hy' : rho L y = iv ⟨(i : Int), by omega, by omega⟩ := rho_of hy
  rcases hc ⟨(i : Int), by omega, by omega⟩ with ⟨h1, j, h2, h3⟩ | ⟨h1, h2⟩
  · have hj : j = i := by
      have : (j : Int) = (i : Int) := h3
      omega
    subst hj
    have : c = true := by
      cases c with
      | true => rfl
      | false => exact absurd h2 (hd.f rfl)
    subst this
    exact vals_lookv1 (V := Value.bool) (f := ty.i4) (z := .bool false) (rho_of hx) hy' h hb (i64_key ty.u3.eq) rfl h1
  · have : c = false := by
      cases c with
      | false => rfl
      | true => exact absurd ⟨i, hd.t rfl, rfl⟩ h2
    subst this
    exact vals_lookv0 (V := Value.bool) (f := ty.i4) (z := .bool false) (rho_of hx) hy' h hb (i64_key ty.u3.eq) rfl h1
theorem MapIs.kt {κ ν : Type} {bm z : Nat} {w w' : World} {enc : κ → Value} {V : ν → Value} {m : List (κ × ν)} (h : MapIs w z enc V m) (hk : Kt bm w w') (hz : z ≠ bm) : MapIs w' z enc V m := by
  obtain ⟨es, c, hb, hr⟩ := h
  exact ⟨es, c, hk.maps z es c hz hb, hr⟩
theorem At.kpm {w0 w w' : World} {bt bm : Nat} {s : Ns} (h : At w0 w bt bm s) {z : Nat} {es : Array MapEntry} {ec : Nat} (hz : Blk w z (.map es ec)) (hz0 : w0.heap.size ≤ z) (hne : z ≠ bm) (hk : Kp [z] w w') : At w0 w' bt bm s := by
  obtain ⟨h1, due, h2, h3⟩ := h
  refine ⟨h1.trans_new hk (new1 hz0), due, h2.kp hk (fun b hb hu => ?_), h3⟩
  rw [List.mem_singleton] at hb
  subst hb
  rcases hu with rfl | rfl | ⟨e, he, hb⟩ | ⟨e, he, p, hp, off, e1, h0⟩
  · exact ne_mapf hz h2.blk rfl
  · exact hne rfl
  · obtain ⟨cs, hc⟩ := own_blk (h2.own e he) hb
    exact ne_mapf hz hc rfl
  · obtain ⟨b', off', cs, g1, g2, g3⟩ := h2.byt e he p hp 0 _ (List.getElem?_eq_getElem h0)
    rw [e1] at g1
    cases g1
    exact ne_mapf hz g2 rfl

/-! what is said -/
section
variable (l : List Q3) (a b f t : Nat)
def cX (i : Nat) : Q3 := (l[i]?).getD (0, 0, 0)
def cFr (i : Nat) : Nat := (cX l i).1.toNat % 3
def cTo (i : Nat) : Nat := (cX l i).2.1.toNat % 3
def cD (i : Nat) : Nat := (cX l i).2.2.toNat % 40
def cpI (i : Nat) : Cp := ⟨cFr l i, cTo l i, [UInt8.ofNat i], cD l i⟩
def pendC (k q : Nat) : List Cp := ((List.range q).filter (fun i => decide (k ≤ cD l i))).map (cpI l)
def mine (i : Nat) : Bool := decide (cFr l i = a) && decide (cTo l i = b)
def inS (k : Nat) : Bool := decide (f ≤ k) && decide (k < t)
def comes (k q : Nat) : List Nat := (List.range q).filter (fun i => decide (cD l i = k) && !(mine l a b i && inS f t k))
def came (k q : Nat) (i : Nat) : Prop := i < q ∧ cD l i < k ∧ (mine l a b i && inS f t (cD l i)) = false
def cutS (k sent : Nat) (pend : List Cp) (c : Bool) : Ns := ⟨3, k, sent, pend, (List.replicate 256 false).set (a * 16 + b) c⟩
theorem pendC0 (q : Nat) : pendC l 0 q = (List.range q).map (cpI l) := by
  unfold pendC
  rw [List.filter_eq_self.2 (fun e _ => by simp)]
theorem cut_sent {q : Nat} : (cutS a b 0 q (pendC l 0 q) false).sendAll (cFr l q) (cTo l q) [UInt8.ofNat q] [(cD l q : Int)] = cutS a b 0 (q + 1) (pendC l 0 (q + 1)) false := by
  rw [pendC0, pendC0, List.range_succ, List.map_append]
  show Ns.mk 3 0 (q + 1) (_ ++ [⟨_, _, _, 0 + cD l q⟩]) _ = _
  rw [Nat.zero_add]
  rfl
theorem cut_set {k s : Nat} {p : List Cp} {c c' : Bool} : (cutS a b k s p c).setCut a b c' = cutS a b k s p c' := by
  show Ns.mk 3 k s p (((List.replicate 256 false).set (a * 16 + b) c).set (a * 16 + b) c') = _
  rw [List.set_set]
  rfl
theorem cut_at' {k s : Nat} {p : List Cp} {c : Bool} {f' t' : Nat} (ha : a < 3) (hb : b < 3) (hf : f' < 3) (ht : t' < 3) : (cutS a b k s p c).cutAt f' t' = (decide (f' = a) && decide (t' = b) && c) := by
  show (((List.replicate 256 false).set (a * 16 + b) c)[f' * 16 + t']?).getD false = _
  rw [List.getElem?_set, List.length_replicate]
  by_cases h1 : f' = a
  · by_cases h2 : t' = b
    · subst h1
      subst h2
      rw [if_pos rfl, if_pos (by omega)]
      simp
    · rw [if_neg (by omega), List.getElem?_replicate, if_pos (by omega)]
      simp [h2]
  · rw [if_neg (by omega), List.getElem?_replicate, if_pos (by omega)]
    simp [h1]
theorem cut_come {k s q : Nat} (ha : a < 3) (hb : b < 3) : ((cutS a b k s (pendC l k q) (inS f t k)).open_ (cutS a b k s (pendC l k q) (inS f t k)).come) = (comes l a b f t k q).map (cpI l) := by
  unfold Ns.open_ Ns.come
  show ((pendC l k q).filter (fun c => decide ((c.due : Int) = (k : Int)))).filter _ = _
  unfold pendC comes
  rw [List.filter_map, List.filter_map, List.filter_filter, List.filter_filter]
  congr 1
  refine List.filter_congr (fun i _ => ?_)
  have f1 : cFr l i < 3 := Nat.mod_lt _ (by omega)
  have f2 : cTo l i < 3 := Nat.mod_lt _ (by omega)
  show (!(cutS a b k s _ (inS f t k)).cutAt (cFr l i) (cTo l i) && decide ((cD l i : Int) = (k : Int)) && decide (k ≤ cD l i)) = _
  rw [cut_at' a b ha hb f1 f2]
  show (!(mine l a b i && inS f t k) && _ && _) = _
  by_cases h : cD l i = k
  · rw [decide_eq_true (by omega : (cD l i : Int) = (k : Int)), decide_eq_true (by omega : k ≤ cD l i), decide_eq_true h]
    simp
  · rw [decide_eq_false (by omega : ¬ (cD l i : Int) = (k : Int)), decide_eq_false h]
    simp
theorem cut_step {k s q : Nat} {c : Bool} : (cutS a b k s (pendC l k q) c).step = cutS a b (k + 1) s (pendC l (k + 1) q) c := by
  show Ns.mk 3 (k + 1) s ((pendC l k q).filter (fun c => !decide ((c.due : Int) = (k : Int)))) _ = _
  have : (pendC l k q).filter (fun c => !decide ((c.due : Int) = (k : Int))) = pendC l (k + 1) q := by
    unfold pendC
    rw [List.filter_map, List.filter_filter]
    congr 1
    refine List.filter_congr (fun i _ => ?_)
    show (!decide ((cD l i : Int) = (k : Int)) && decide (k ≤ cD l i)) = decide (k + 1 ≤ cD l i)
    by_cases h : cD l i = k
    · rw [decide_eq_true (by omega : (cD l i : Int) = (k : Int)), decide_eq_false (by omega : ¬ k + 1 ≤ cD l i)]
      rfl
    · rw [decide_eq_false (by omega : ¬ (cD l i : Int) = (k : Int))]
      by_cases h2 : k ≤ cD l i
      · rw [decide_eq_true h2, decide_eq_true (by omega : k + 1 ≤ cD l i)]
        rfl
      · rw [decide_eq_false h2, decide_eq_false (by omega : ¬ k + 1 ≤ cD l i)]
        rfl
  rw [this]
  rfl
theorem cut_end {q : Nat} : pendC l 40 q = [] := by
  unfold pendC
  rw [List.filter_eq_nil_iff.2]
  · rfl
  · intro i _
    have : cD l i < 40 := Nat.mod_lt _ (by omega)
    simp
    omega
theorem cut_len {k q : Nat} : (pendC l k q).length ≤ q := by
  unfold pendC
  rw [List.length_map]
  refine Nat.le_trans (List.length_filter_le _ _) ?_
  simp
theorem cut_in {k q : Nat} : ∀ c ∈ pendC l k q, c.fr < 16 ∧ c.to < 16 ∧ c.bs.length ≤ 65536 := by
  intro c hc
  obtain ⟨i, _, rfl⟩ := List.mem_map.1 hc
  have h1 : cFr l i < 3 := Nat.mod_lt _ (by omega)
  have h2 : cTo l i < 3 := Nat.mod_lt _ (by omega)
  exact ⟨by show cFr l i < 16; omega, by show cTo l i < 16; omega, by show 1 ≤ 65536; omega⟩
theorem came_succ {k q i : Nat} : came l a b f t (k + 1) q i ↔ came l a b f t k q i ∨ i ∈ comes l a b f t k q := by
  simp only [came, comes, List.mem_filter, List.mem_range, Bool.and_eq_true, decide_eq_true_eq, Bool.not_eq_true']
  by_cases h : cD l i = k
  · subst h
    constructor
    · rintro ⟨h1, h2, h3⟩
      exact Or.inr ⟨h1, rfl, h3⟩
    · rintro (⟨h1, h2, h3⟩ | ⟨h1, h2, h3⟩)
      · omega
      · exact ⟨h1, by omega, h3⟩
  · constructor
    · rintro ⟨h1, h2, h3⟩
      exact Or.inl ⟨h1, by omega, h3⟩
    · rintro (⟨h1, h2, h3⟩ | ⟨h1, h2, h3⟩)
      · exact ⟨h1, by omega, h3⟩
      · exact absurd h2 h
theorem comes_mem {k q i : Nat} (h : i ∈ comes l a b f t k q) : i < q ∧ cD l i = k := by
  simp only [comes, List.mem_filter, List.mem_range, Bool.and_eq_true, decide_eq_true_eq] at h
  exact ⟨h.1, h.2.1⟩
theorem comes_nodup {k q : Nat} : (comes l a b f t k q).Nodup := List.Pairwise.filter _ List.nodup_range
end
theorem bs29n (w : World) (a : Int) : (Instr.buildSlice 29 1 [(0, Value.int .i64 a)].toArray).run Try.prog w = .ok (.slice (some ⟨w.heap.size, 0, none⟩) 1 1) { w with heap := w.heap.push (.cells #[.int .i64 a] 3) } := by kernel_rfl
theorem bs33u (w : World) (a : Int) : (Instr.buildSlice 33 1 [(0, Value.int .u8 a)].toArray).run Try.prog w = .ok (.slice (some ⟨w.heap.size, 0, none⟩) 1 1) { w with heap := w.heap.push (.cells #[.int .u8 a] 5) } := by kernel_rfl
theorem build35d (w : World) (f t : Int) (a : Option Addr) (n c : Nat) : (Instr.build 35 #[(0, Value.int .i64 f), (1, Value.int .i64 t), (2, Value.slice a n c)]).run Try.prog w = .ok (.agg #[.int .i64 f, .int .i64 t, .slice a n c]) w := by kernel_rfl

attribute [local irreducible] CG NG SG Vals Der Row Blk MapIs IterAt DerX
set_option maxHeartbeats 8000000 in
theorem cuts_spec (w : World) (a : Option Addr) (n c : Nat) (l : List Q3) (hl : l.length = n ∧ Sl q3 3 w a l) (x0 x1 y0 y1 : UInt8) : Ret Try.prog 7 #[.slice a n c, .agg #[bv x0, bv x1], .agg #[bv y0, bv y1]] w (.bool true) := by
  obtain ⟨rfl, hS⟩ := hl
  refine enter3 Try.func7 rfl Try.ntmps7 rfl ?_
  repeat (first|apply CG.seq|apply CG.region|apply SG.nil|apply NG.next|apply CG.skip|apply CG.block|apply CG.ret|apply CG.exit|apply CG.scope|apply NG.ret_then|apply NG.ret_block|apply NG.ret_scope|apply NG.exit_then|refine NG.exit_block rfl ?_|refine NG.exit_other rfl ?_|apply NG.exit_scope|apply NG.normal_block|apply NG.normal_scope|refine SG.val rfl rfl rfl rfl (by first|((first|apply qmv|apply qas|apply qlc|apply qla|apply qfa|apply qnc|apply qic|apply qix|apply qpk|apply qls|apply qei|apply qni|apply qed|apply qnd|apply qad|apply qln|apply qle|apply qgt|apply qge|apply qlk|apply qlv|apply qxt|apply qsb|apply qnt|apply qep|apply qnp|apply qeb|apply qnb|apply qx2|apply qx4|apply qcv|apply qlm|apply qfr|apply qto|apply qmx|apply qen|apply qsn|apply qx5|apply qx4|apply qx3|apply qx2|apply qx1|apply qx0)<;>(first|exact rfl|exact Ar.mk (by omega)|assumption|exact dct (by assumption)|exact dcf (by assumption)|exact dct (by omega)|exact dcf (by omega)|exact List.not_mem_nil|exact dc_length _|exact nc_length _|exact rc_length _ _ _|exact nm1 (by omega)|exact nm2 (by omega) (by omega)|exact dct rfl|exact dct (by decide)|exact dcf (by decide)|exact (Int.toNat_of_nonneg (by omega)).symm|exact dcu|exact lk1 (by assumption)|exact lk0 (by assumption)))|fail) ?_)
  refine SG.box rfl rfl rfl (by exact rho_of rfl) (fun b4 w1 hk1 hb4 hB4 => ?_)
  refine SG.box rfl rfl rfl (by exact rho_of rfl) (fun b5 w2 hk2 hb5 hB5 => ?_)
  have hk02 := hk1.trans hk2
  have hB4 := hB4.kp0 hk2
  repeat (first|apply CG.seq|apply CG.region|apply SG.nil|apply NG.next|apply CG.skip|apply CG.block|apply CG.ret|apply CG.exit|apply CG.scope|apply NG.ret_then|apply NG.ret_block|apply NG.ret_scope|apply NG.exit_then|refine NG.exit_block rfl ?_|refine NG.exit_other rfl ?_|apply NG.exit_scope|apply NG.normal_block|apply NG.normal_scope|refine SG.val rfl rfl rfl rfl (by first|((first|apply qmv|apply qas|apply qlc|apply qla|apply qfa|apply qnc|apply qic|apply qix|apply qpk|apply qls|apply qei|apply qni|apply qed|apply qnd|apply qad|apply qln|apply qle|apply qgt|apply qge|apply qlk|apply qlv|apply qxt|apply qsb|apply qnt|apply qep|apply qnp|apply qeb|apply qnb|apply qx2|apply qx4|apply qcv|apply qlm|apply qfr|apply qto|apply qmx|apply qen|apply qsn|apply qx5|apply qx4|apply qx3|apply qx2|apply qx1|apply qx0)<;>(first|exact rfl|exact Ar.mk (by omega)|assumption|exact dct (by assumption)|exact dcf (by assumption)|exact dct (by omega)|exact dcf (by omega)|exact List.not_mem_nil|exact dc_length _|exact nc_length _|exact rc_length _ _ _|exact nm1 (by omega)|exact nm2 (by omega) (by omega)|exact dct rfl|exact dct (by decide)|exact dcf (by decide)|exact (Int.toNat_of_nonneg (by omega)).symm|exact dcu|exact lk1 (by assumption)|exact lk0 (by assumption)))|fail) ?_)
  refine SG.call rfl rfl rfl (by repeat' (first | exact True.intro | exact rho_of rfl | refine And.intro ?_ ?_)) ((new_at w2 3 (by omega) (by omega)).mono (fun e w3 h => ?_))
  obtain ⟨bt, bm, he, hA⟩ := h
  refine ⟨_, he, ?_⟩
  by_cases g0 : 30 < l.length
  · have g1 : (30 : Int) < (l.length : Int) := by omega
    repeat (first | first|apply CG.seq|apply CG.region|apply SG.nil|apply NG.next|apply CG.skip|apply CG.block|apply CG.ret|apply CG.exit|apply CG.scope|apply NG.ret_then|apply NG.ret_block|apply NG.ret_scope|apply NG.exit_then|refine NG.exit_block rfl ?_|refine NG.exit_other rfl ?_|apply NG.exit_scope|apply NG.normal_block|apply NG.normal_scope|refine SG.val rfl rfl rfl rfl (by first|((first|apply qmv|apply qas|apply qlc|apply qla|apply qfa|apply qnc|apply qic|apply qix|apply qpk|apply qls|apply qei|apply qni|apply qed|apply qnd|apply qad|apply qln|apply qle|apply qgt|apply qge|apply qlk|apply qlv|apply qxt|apply qsb|apply qnt|apply qep|apply qnp|apply qeb|apply qnb|apply qx2|apply qx4|apply qcv|apply qlm|apply qfr|apply qto|apply qmx|apply qen|apply qsn|apply qx5|apply qx4|apply qx3|apply qx2|apply qx1|apply qx0)<;>(first|exact rfl|exact Ar.mk (by omega)|assumption|exact dct (by assumption)|exact dcf (by assumption)|exact dct (by omega)|exact dcf (by omega)|exact List.not_mem_nil|exact dc_length _|exact nc_length _|exact rc_length _ _ _|exact nm1 (by omega)|exact nm2 (by omega) (by omega)|exact dct rfl|exact dct (by decide)|exact dcf (by decide)|exact (Int.toNat_of_nonneg (by omega)).symm|exact dcu|exact lk1 (by assumption)|exact lk0 (by assumption)))|fail) ?_ | refine SG.skip rfl rfl ?_)
    refine CG.cond_t rfl (by exact rho_of rfl) rfl ?_
    repeat (first | first|apply CG.seq|apply CG.region|apply SG.nil|apply NG.next|apply CG.skip|apply CG.block|apply CG.ret|apply CG.exit|apply CG.scope|apply NG.ret_then|apply NG.ret_block|apply NG.ret_scope|apply NG.exit_then|refine NG.exit_block rfl ?_|refine NG.exit_other rfl ?_|apply NG.exit_scope|apply NG.normal_block|apply NG.normal_scope|refine SG.val rfl rfl rfl rfl (by first|((first|apply qmv|apply qas|apply qlc|apply qla|apply qfa|apply qnc|apply qic|apply qix|apply qpk|apply qls|apply qei|apply qni|apply qed|apply qnd|apply qad|apply qln|apply qle|apply qgt|apply qge|apply qlk|apply qlv|apply qxt|apply qsb|apply qnt|apply qep|apply qnp|apply qeb|apply qnb|apply qx2|apply qx4|apply qcv|apply qlm|apply qfr|apply qto|apply qmx|apply qen|apply qsn|apply qx5|apply qx4|apply qx3|apply qx2|apply qx1|apply qx0)<;>(first|exact rfl|exact Ar.mk (by omega)|assumption|exact dct (by assumption)|exact dcf (by assumption)|exact dct (by omega)|exact dcf (by omega)|exact List.not_mem_nil|exact dc_length _|exact nc_length _|exact rc_length _ _ _|exact nm1 (by omega)|exact nm2 (by omega) (by omega)|exact dct rfl|exact dct (by decide)|exact dcf (by decide)|exact (Int.toNat_of_nonneg (by omega)).symm|exact dcu|exact lk1 (by assumption)|exact lk0 (by assumption)))|fail) ?_ | refine SG.skip rfl rfl ?_)
    refine SG.ret rfl rfl rfl (by repeat' (first | exact True.intro | exact rho_of rfl | refine And.intro ?_ ?_)) (told_spec w3) (fun w4 hk4 => ?_)
    repeat (first | first|apply CG.seq|apply CG.region|apply SG.nil|apply NG.next|apply CG.skip|apply CG.block|apply CG.ret|apply CG.exit|apply CG.scope|apply NG.ret_then|apply NG.ret_block|apply NG.ret_scope|apply NG.exit_then|refine NG.exit_block rfl ?_|refine NG.exit_other rfl ?_|apply NG.exit_scope|apply NG.normal_block|apply NG.normal_scope|refine SG.val rfl rfl rfl rfl (by first|((first|apply qmv|apply qas|apply qlc|apply qla|apply qfa|apply qnc|apply qic|apply qix|apply qpk|apply qls|apply qei|apply qni|apply qed|apply qnd|apply qad|apply qln|apply qle|apply qgt|apply qge|apply qlk|apply qlv|apply qxt|apply qsb|apply qnt|apply qep|apply qnp|apply qeb|apply qnb|apply qx2|apply qx4|apply qcv|apply qlm|apply qfr|apply qto|apply qmx|apply qen|apply qsn|apply qx5|apply qx4|apply qx3|apply qx2|apply qx1|apply qx0)<;>(first|exact rfl|exact Ar.mk (by omega)|assumption|exact dct (by assumption)|exact dcf (by assumption)|exact dct (by omega)|exact dcf (by omega)|exact List.not_mem_nil|exact dc_length _|exact nc_length _|exact rc_length _ _ _|exact nm1 (by omega)|exact nm2 (by omega) (by omega)|exact dct rfl|exact dct (by decide)|exact dcf (by decide)|exact (Int.toNat_of_nonneg (by omega)).symm|exact dcu|exact lk1 (by assumption)|exact lk0 (by assumption)))|fail) ?_ | refine SG.skip rfl rfl ?_)
    refine ret1 (Or.inl rfl) Try.results7 (by first | exact ResV.tmp rfl | exact ResV.agg rfl rfl (by assumption) (by first | exact dc_length _ | exact nc_length _ | exact rc_length _ _ _ | rfl) | exact ResV.cell rfl rfl (by assumption)) ?_
    exact ⟨rfl, (hk02.trans hA.kp).trans hk4⟩
  have g1 : ¬ (30 : Int) < (l.length : Int) := by omega
  repeat (first | first|apply CG.seq|apply CG.region|apply SG.nil|apply NG.next|apply CG.skip|apply CG.block|apply CG.ret|apply CG.exit|apply CG.scope|apply NG.ret_then|apply NG.ret_block|apply NG.ret_scope|apply NG.exit_then|refine NG.exit_block rfl ?_|refine NG.exit_other rfl ?_|apply NG.exit_scope|apply NG.normal_block|apply NG.normal_scope|refine SG.val rfl rfl rfl rfl (by first|((first|apply qmv|apply qas|apply qlc|apply qla|apply qfa|apply qnc|apply qic|apply qix|apply qpk|apply qls|apply qei|apply qni|apply qed|apply qnd|apply qad|apply qln|apply qle|apply qgt|apply qge|apply qlk|apply qlv|apply qxt|apply qsb|apply qnt|apply qep|apply qnp|apply qeb|apply qnb|apply qx2|apply qx4|apply qcv|apply qlm|apply qfr|apply qto|apply qmx|apply qen|apply qsn|apply qx5|apply qx4|apply qx3|apply qx2|apply qx1|apply qx0)<;>(first|exact rfl|exact Ar.mk (by omega)|assumption|exact dct (by assumption)|exact dcf (by assumption)|exact dct (by omega)|exact dcf (by omega)|exact List.not_mem_nil|exact dc_length _|exact nc_length _|exact rc_length _ _ _|exact nm1 (by omega)|exact nm2 (by omega) (by omega)|exact dct rfl|exact dct (by decide)|exact dcf (by decide)|exact (Int.toNat_of_nonneg (by omega)).symm|exact dcu|exact lk1 (by assumption)|exact lk0 (by assumption)))|fail) ?_ | refine SG.skip rfl rfl ?_)
  refine CG.cond_f rfl (by exact rho_of rfl) rfl ?_
  obtain ⟨A, eA, hA3⟩ : ∃ A : Nat, (x0.toNat : Int) % 3 = (A : Int) ∧ A < 3 := ⟨x0.toNat % 3, by omega, by omega⟩
  obtain ⟨B, eB, hB3⟩ : ∃ B : Nat, (x1.toNat : Int) % 3 = (B : Int) ∧ B < 3 := ⟨x1.toNat % 3, by omega, by omega⟩
  obtain ⟨F, eF, hF40⟩ : ∃ F : Nat, (y0.toNat : Int) % 40 = (F : Int) ∧ F < 40 := ⟨y0.toNat % 40, by omega, by omega⟩
  obtain ⟨T, eT, hT40⟩ : ∃ T : Nat, (y1.toNat : Int) % 40 = (T : Int) ∧ T < 40 := ⟨y1.toNat % 40, by omega, by omega⟩
  have hS2 := hS.kp0 hk02
  have hA0 : At w2 w3 bt bm (cutS A B 0 0 (pendC l 0 0) false) := by
    have e : (List.replicate 256 false).set (A * 16 + B) false = List.replicate 256 false := by rw [List.set_replicate_self]
    have e2 : Ns.new 3 = cutS A B 0 0 (pendC l 0 0) false := by
      show Ns.mk 3 0 0 [] (List.replicate 256 false) = Ns.mk 3 0 0 [] ((List.replicate 256 false).set (A * 16 + B) false)
      rw [e]
    rw [← e2]
    exact hA
  repeat (first|apply CG.seq|apply CG.region|apply SG.nil|apply NG.next|apply CG.skip|apply CG.block|apply CG.ret|apply CG.exit|apply CG.scope|apply NG.ret_then|apply NG.ret_block|apply NG.ret_scope|apply NG.exit_then|refine NG.exit_block rfl ?_|refine NG.exit_other rfl ?_|apply NG.exit_scope|apply NG.normal_block|apply NG.normal_scope|refine SG.val rfl rfl rfl rfl (by first|((first|apply qmv|apply qas|apply qlc|apply qla|apply qfa|apply qnc|apply qic|apply qix|apply qpk|apply qls|apply qei|apply qni|apply qed|apply qnd|apply qad|apply qln|apply qle|apply qgt|apply qge|apply qlk|apply qlv|apply qxt|apply qsb|apply qnt|apply qep|apply qnp|apply qeb|apply qnb|apply qx2|apply qx4|apply qcv|apply qlm|apply qfr|apply qto|apply qmx|apply qen|apply qsn|apply qx5|apply qx4|apply qx3|apply qx2|apply qx1|apply qx0)<;>(first|exact rfl|exact Ar.mk (by omega)|assumption|exact dct (by assumption)|exact dcf (by assumption)|exact dct (by omega)|exact dcf (by omega)|exact List.not_mem_nil|exact dc_length _|exact nc_length _|exact rc_length _ _ _|exact nm1 (by omega)|exact nm2 (by omega) (by omega)|exact dct rfl|exact dct (by decide)|exact dcf (by decide)|exact (Int.toNat_of_nonneg (by omega)).symm|exact dcu|exact lk1 (by assumption)|exact lk0 (by assumption)))|fail) ?_)
  refine CG.loop (X := Nat) (fun q => [(0, .slice a l.length c), (4, .pointer (some ⟨b4, 0, none⟩)), (5, .pointer (some ⟨b5, 0, none⟩)), (6, .bool false), (7, .pointer (some ⟨bt, 0, none⟩)), (9, .int .i64 (q : Int))])
    (fun q w' => q ≤ l.length ∧ At w2 w' bt bm (cutS A B 0 q (pendC l 0 q) false)) (fun q => l.length - q) 0 ⟨Nat.zero_le _, hA0⟩ (by (repeat' (first | exact True.intro | exact rfl | refine And.intro ?_ ?_))) ?_
  rintro i w4 ⟨hi, hA4⟩
  by_cases hlt : i < l.length
  · have g2 : (i : Int) < (l.length : Int) := by omega
    obtain ⟨ba, oa, rfl, hr⟩ := (hS2.kp0 hA4.kp).at hlt
    have ex : cX l i = l[i] := by unfold cX; rw [List.getElem?_eq_getElem hlt]; rfl
    rw [← ex] at hr
    have r0 : Row w4 ba (oa + i * 3 + 0) [bv (cX l i).1] := Row.sub [] _ [bv (cX l i).2.1, bv (cX l i).2.2] hr
    have r1 : Row w4 ba (oa + i * 3 + 1) [bv (cX l i).2.1] := Row.sub [bv (cX l i).1] _ [bv (cX l i).2.2] hr
    have r2 : Row w4 ba (oa + i * 3 + 2) [bv (cX l i).2.2] := Row.sub [bv (cX l i).1, bv (cX l i).2.1] _ [] hr
    have f1 : cFr l i < 3 := Nat.mod_lt _ (by omega)
    have f2 : cTo l i < 3 := Nat.mod_lt _ (by omega)
    have f3 : cD l i < 40 := Nat.mod_lt _ (by omega)
    have hpl := cut_len l (k := 0) (q := i)
    repeat (first|apply CG.seq|apply CG.region|apply SG.nil|apply NG.next|apply CG.skip|apply CG.block|apply CG.ret|apply CG.exit|apply CG.scope|apply NG.ret_then|apply NG.ret_block|apply NG.ret_scope|apply NG.exit_then|refine NG.exit_block rfl ?_|refine NG.exit_other rfl ?_|apply NG.exit_scope|apply NG.normal_block|apply NG.normal_scope|refine SG.val rfl rfl rfl rfl (by first|((first|apply qmv|apply qas|apply qlc|apply qla|apply qfa|apply qnc|apply qic|apply qix|apply qpk|apply qls|apply qei|apply qni|apply qed|apply qnd|apply qad|apply qln|apply qle|apply qgt|apply qge|apply qlk|apply qlv|apply qxt|apply qsb|apply qnt|apply qep|apply qnp|apply qeb|apply qnb|apply qx2|apply qx4|apply qcv|apply qlm|apply qfr|apply qto|apply qmx|apply qen|apply qsn|apply qx5|apply qx4|apply qx3|apply qx2|apply qx1|apply qx0)<;>(first|exact rfl|exact Ar.mk (by omega)|assumption|exact dct (by assumption)|exact dcf (by assumption)|exact dct (by omega)|exact dcf (by omega)|exact List.not_mem_nil|exact dc_length _|exact nc_length _|exact rc_length _ _ _|exact nm1 (by omega)|exact nm2 (by omega) (by omega)|exact dct rfl|exact dct (by decide)|exact dcf (by decide)|exact (Int.toNat_of_nonneg (by omega)).symm|exact dcu|exact lk1 (by assumption)|exact lk0 (by assumption)))|fail) ?_)
    refine CG.cond_t rfl (by exact rho_of rfl) rfl ?_
    repeat (first|apply CG.seq|apply CG.region|apply SG.nil|apply NG.next|apply CG.skip|apply CG.block|apply CG.ret|apply CG.exit|apply CG.scope|apply NG.ret_then|apply NG.ret_block|apply NG.ret_scope|apply NG.exit_then|refine NG.exit_block rfl ?_|refine NG.exit_other rfl ?_|apply NG.exit_scope|apply NG.normal_block|apply NG.normal_scope|refine SG.val rfl rfl rfl rfl (by first|((first|apply qmv|apply qas|apply qlc|apply qla|apply qfa|apply qnc|apply qic|apply qix|apply qpk|apply qls|apply qei|apply qni|apply qed|apply qnd|apply qad|apply qln|apply qle|apply qgt|apply qge|apply qlk|apply qlv|apply qxt|apply qsb|apply qnt|apply qep|apply qnp|apply qeb|apply qnb|apply qx2|apply qx4|apply qcv|apply qlm|apply qfr|apply qto|apply qmx|apply qen|apply qsn|apply qx5|apply qx4|apply qx3|apply qx2|apply qx1|apply qx0)<;>(first|exact rfl|exact Ar.mk (by omega)|assumption|exact dct (by assumption)|exact dcf (by assumption)|exact dct (by omega)|exact dcf (by omega)|exact List.not_mem_nil|exact dc_length _|exact nc_length _|exact rc_length _ _ _|exact nm1 (by omega)|exact nm2 (by omega) (by omega)|exact dct rfl|exact dct (by decide)|exact dcf (by decide)|exact (Int.toNat_of_nonneg (by omega)).symm|exact dcu|exact lk1 (by assumption)|exact lk0 (by assumption)))|fail) ?_)
    refine CG.free mixed 28 [0, 1, 2, 3, 4, 5, 6, 7, 8, 9, 10, 11, 12, 13, 14, 15, 16, 19, 20, 21, 22, 23, 24, 25, 17, 18, 26, 27] [(17, gB w4.heap.size 5 1 #[.int .u8 (i : Int)]), (18, gW w4.heap.size 5 1 #[.int .u8 (i : Int)] (fun v => .agg #[.int .i64 (cFr l i : Int), .int .i64 (cTo l i : Int), v])), (26, gB w4.heap.size 3 1 #[.int .i64 (cD l i : Int)]), (27, gW w4.heap.size 3 1 #[.int .i64 (cD l i : Int)] (fun v => .agg #[v]))] (by kernel_rfl) (by intro p hp y; simp at hp; rcases hp with rfl | rfl | rfl | rfl; exact gB_stab y; exact gW_stab y; exact gB_stab y; exact gW_stab y) ?_
    repeat (refine DerX.val rfl rfl rfl rfl (by first|((first|apply qmv|apply qas|apply qlc|apply qla|apply qfa|apply qnc|apply qic|apply qix|apply qpk|apply qls|apply qei|apply qni|apply qed|apply qnd|apply qad|apply qln|apply qle|apply qgt|apply qge|apply qlk|apply qlv|apply qxt|apply qsb|apply qnt|apply qep|apply qnp|apply qeb|apply qnb|apply qx2|apply qx4|apply qcv|apply qlm|apply qfr|apply qto|apply qmx|apply qen|apply qsn|apply qx5|apply qx4|apply qx3|apply qx2|apply qx1|apply qx0)<;>(first|exact rfl|exact Ar.mk (by omega)|assumption|exact dct (by assumption)|exact dcf (by assumption)|exact dct (by omega)|exact dcf (by omega)|exact List.not_mem_nil|exact dc_length _|exact nc_length _|exact rc_length _ _ _|exact nm1 (by omega)|exact nm2 (by omega) (by omega)|exact dct rfl|exact dct (by decide)|exact dcf (by decide)|exact (Int.toNat_of_nonneg (by omega)).symm|exact dcu|exact lk1 (by assumption)|exact lk0 (by assumption)))|fail) ?_)
    refine DerX.buildB rfl rfl rfl rfl rfl (Nat.le_refl _) (fun w => bs33u w i) (fun b17 => ?_)
    refine DerX.wrapB b17 rfl rfl rfl rfl (vals_build rfl (fun w => build35d w (cFr l i) (cTo l i) (some ⟨b17, 0, none⟩) 1 1)) rfl (fun w hk hF => hF _ (.head _) (by kernel_rfl)) (fun b18 => ?_)
    refine DerX.buildB rfl rfl rfl rfl rfl (Nat.le_refl _) (fun w => bs29n w (cD l i)) (fun b26 => ?_)
    refine DerX.wrapB b26 rfl rfl rfl rfl (vals_build rfl (fun w => build31 w (some ⟨b26, 0, none⟩) 1 1)) rfl (fun w hk hF => hF _ (.head _) (by kernel_rfl)) (fun b27 => ?_)
    refine DerX.tl (fun w5 hk5 hF => ?_)
    have hB27 : w4.heap.size ≤ b27 ∧ Blk w5 b27 (.cells #[.int .i64 (cD l i : Int)] 3) := hF _ (.head _)
    have hB18 : w4.heap.size ≤ b18 ∧ Blk w5 b18 (.cells #[.int .u8 (i : Int)] 5) := hF _ (.tail _ (.tail _ (.head _)))
    clear hF
    refine SG.call rfl rfl rfl (by repeat' (first | exact True.intro | exact rho_of rfl | refine And.intro ?_ ?_)) ((send_at (hA4.kp0 hk5) (Nat.zero_le _) (by show i ≤ _; omega) (cFr l i) (cTo l i) (some ⟨b18, 0, none⟩) 1 [UInt8.ofNat i] (sl_byte (by omega) hB18.2) (some ⟨b27, 0, none⟩) 1 [(cD l i : Int)] (fun w' hk _ => sl_blk (enc := inc) inc_length (hk.cells _ _ _ _ (by decide) (by decide) hB27.2) rfl)
      (sendE_fine (by show cFr l i < 3; omega) (by show cTo l i < 3; omega) (by show 1 ≤ _; omega) (by show 1 ≤ 8; omega) (by
        have h1 : badL (cD l i : Int) = false := decide_eq_false (by omega)
        simp only [List.any_cons, h1, List.any_nil, Bool.or_self]) (by show (pendC l 0 i).length + 1 ≤ _; omega))).mono (fun e w6 h => ?_))
    obtain ⟨he6, hA6, hk6⟩ := h
    refine ⟨_, he6, ?_⟩
    rw [cut_sent] at hA6
    repeat (first|apply CG.seq|apply CG.region|apply SG.nil|apply NG.next|apply CG.skip|apply CG.block|apply CG.ret|apply CG.exit|apply CG.scope|apply NG.ret_then|apply NG.ret_block|apply NG.ret_scope|apply NG.exit_then|refine NG.exit_block rfl ?_|refine NG.exit_other rfl ?_|apply NG.exit_scope|apply NG.normal_block|apply NG.normal_scope|refine SG.val rfl rfl rfl rfl (by first|((first|apply qmv|apply qas|apply qlc|apply qla|apply qfa|apply qnc|apply qic|apply qix|apply qpk|apply qls|apply qei|apply qni|apply qed|apply qnd|apply qad|apply qln|apply qle|apply qgt|apply qge|apply qlk|apply qlv|apply qxt|apply qsb|apply qnt|apply qep|apply qnp|apply qeb|apply qnb|apply qx2|apply qx4|apply qcv|apply qlm|apply qfr|apply qto|apply qmx|apply qen|apply qsn|apply qx5|apply qx4|apply qx3|apply qx2|apply qx1|apply qx0)<;>(first|exact rfl|exact Ar.mk (by omega)|assumption|exact dct (by assumption)|exact dcf (by assumption)|exact dct (by omega)|exact dcf (by omega)|exact List.not_mem_nil|exact dc_length _|exact nc_length _|exact rc_length _ _ _|exact nm1 (by omega)|exact nm2 (by omega) (by omega)|exact dct rfl|exact dct (by decide)|exact dcf (by decide)|exact (Int.toNat_of_nonneg (by omega)).symm|exact dcu|exact lk1 (by assumption)|exact lk0 (by assumption)))|fail) ?_)
    refine CG.cond_f rfl (by exact rho_of rfl) rfl ?_
    repeat (first|apply CG.seq|apply CG.region|apply SG.nil|apply NG.next|apply CG.skip|apply CG.block|apply CG.ret|apply CG.exit|apply CG.scope|apply NG.ret_then|apply NG.ret_block|apply NG.ret_scope|apply NG.exit_then|refine NG.exit_block rfl ?_|refine NG.exit_other rfl ?_|apply NG.exit_scope|apply NG.normal_block|apply NG.normal_scope|refine SG.val rfl rfl rfl rfl (by first|((first|apply qmv|apply qas|apply qlc|apply qla|apply qfa|apply qnc|apply qic|apply qix|apply qpk|apply qls|apply qei|apply qni|apply qed|apply qnd|apply qad|apply qln|apply qle|apply qgt|apply qge|apply qlk|apply qlv|apply qxt|apply qsb|apply qnt|apply qep|apply qnp|apply qeb|apply qnb|apply qx2|apply qx4|apply qcv|apply qlm|apply qfr|apply qto|apply qmx|apply qen|apply qsn|apply qx5|apply qx4|apply qx3|apply qx2|apply qx1|apply qx0)<;>(first|exact rfl|exact Ar.mk (by omega)|assumption|exact dct (by assumption)|exact dcf (by assumption)|exact dct (by omega)|exact dcf (by omega)|exact List.not_mem_nil|exact dc_length _|exact nc_length _|exact rc_length _ _ _|exact nm1 (by omega)|exact nm2 (by omega) (by omega)|exact dct rfl|exact dct (by decide)|exact dcf (by decide)|exact (Int.toNat_of_nonneg (by omega)).symm|exact dcu|exact lk1 (by assumption)|exact lk0 (by assumption)))|fail) ?_)
    refine NG.round (i + 1) (by (repeat' (first | exact True.intro | exact rfl | refine And.intro ?_ ?_))) ⟨hlt, hA6⟩ (by omega)
  have g2 : ¬ (i : Int) < (l.length : Int) := by omega
  have ei : i = l.length := by omega
  subst ei
  have a0 : Row w4 b4 0 [bv x0] := (Row.of hB4 [] [bv x1] rfl rfl).kp0 hA4.kp
  have a1 : Row w4 b4 1 [bv x1] := (Row.of hB4 [bv x0] [] rfl rfl).kp0 hA4.kp
  have c0 : Row w4 b5 0 [bv y0] := (Row.of hB5 [] [bv y1] rfl rfl).kp0 hA4.kp
  have c1 : Row w4 b5 1 [bv y1] := (Row.of hB5 [bv y0] [] rfl rfl).kp0 hA4.kp
  repeat (first|apply CG.seq|apply CG.region|apply SG.nil|apply NG.next|apply CG.skip|apply CG.block|apply CG.ret|apply CG.exit|apply CG.scope|apply NG.ret_then|apply NG.ret_block|apply NG.ret_scope|apply NG.exit_then|refine NG.exit_block rfl ?_|refine NG.exit_other rfl ?_|apply NG.exit_scope|apply NG.normal_block|apply NG.normal_scope|refine SG.val rfl rfl rfl rfl (by first|((first|apply qmv|apply qas|apply qlc|apply qla|apply qfa|apply qnc|apply qic|apply qix|apply qpk|apply qls|apply qei|apply qni|apply qed|apply qnd|apply qad|apply qln|apply qle|apply qgt|apply qge|apply qlk|apply qlv|apply qxt|apply qsb|apply qnt|apply qep|apply qnp|apply qeb|apply qnb|apply qx2|apply qx4|apply qcv|apply qlm|apply qfr|apply qto|apply qmx|apply qen|apply qsn|apply qx5|apply qx4|apply qx3|apply qx2|apply qx1|apply qx0)<;>(first|exact rfl|exact Ar.mk (by omega)|assumption|exact dct (by assumption)|exact dcf (by assumption)|exact dct (by omega)|exact dcf (by omega)|exact List.not_mem_nil|exact dc_length _|exact nc_length _|exact rc_length _ _ _|exact nm1 (by omega)|exact nm2 (by omega) (by omega)|exact dct rfl|exact dct (by decide)|exact dcf (by decide)|exact (Int.toNat_of_nonneg (by omega)).symm|exact dcu|exact lk1 (by assumption)|exact lk0 (by assumption)))|fail) ?_)
  refine CG.cond_f rfl (by exact rho_of rfl) rfl ?_
  repeat (first|apply CG.seq|apply CG.region|apply SG.nil|apply NG.next|apply CG.skip|apply CG.block|apply CG.ret|apply CG.exit|apply CG.scope|apply NG.ret_then|apply NG.ret_block|apply NG.ret_scope|apply NG.exit_then|refine NG.exit_block rfl ?_|refine NG.exit_other rfl ?_|apply NG.exit_scope|apply NG.normal_block|apply NG.normal_scope|refine SG.val rfl rfl rfl rfl (by first|((first|apply qmv|apply qas|apply qlc|apply qla|apply qfa|apply qnc|apply qic|apply qix|apply qpk|apply qls|apply qei|apply qni|apply qed|apply qnd|apply qad|apply qln|apply qle|apply qgt|apply qge|apply qlk|apply qlv|apply qxt|apply qsb|apply qnt|apply qep|apply qnp|apply qeb|apply qnb|apply qx2|apply qx4|apply qcv|apply qlm|apply qfr|apply qto|apply qmx|apply qen|apply qsn|apply qx5|apply qx4|apply qx3|apply qx2|apply qx1|apply qx0)<;>(first|exact rfl|exact Ar.mk (by omega)|assumption|exact dct (by assumption)|exact dcf (by assumption)|exact dct (by omega)|exact dcf (by omega)|exact List.not_mem_nil|exact dc_length _|exact nc_length _|exact rc_length _ _ _|exact nm1 (by omega)|exact nm2 (by omega) (by omega)|exact dct rfl|exact dct (by decide)|exact dcf (by decide)|exact (Int.toNat_of_nonneg (by omega)).symm|exact dcu|exact lk1 (by assumption)|exact lk0 (by assumption)))|fail) ?_)
  refine CG.draw0 mixed [0, 1, 2, 3, 4, 5, 6, 7, 8, 9] [] (by kernel_rfl) ?_
  repeat (refine Der.val rfl rfl rfl (by first|((first|apply qmv|apply qas|apply qlc|apply qla|apply qfa|apply qnc|apply qic|apply qix|apply qpk|apply qls|apply qei|apply qni|apply qed|apply qnd|apply qad|apply qln|apply qle|apply qgt|apply qge|apply qlk|apply qlv|apply qxt|apply qsb|apply qnt|apply qep|apply qnp|apply qeb|apply qnb|apply qx2|apply qx4|apply qcv|apply qlm|apply qfr|apply qto|apply qmx|apply qen|apply qsn|apply qx5|apply qx4|apply qx3|apply qx2|apply qx1|apply qx0)<;>(first|exact rfl|exact Ar.mk (by omega)|assumption|exact dct (by assumption)|exact dcf (by assumption)|exact dct (by omega)|exact dcf (by omega)|exact List.not_mem_nil|exact dc_length _|exact nc_length _|exact rc_length _ _ _|exact nm1 (by omega)|exact nm2 (by omega) (by omega)|exact dct rfl|exact dct (by decide)|exact dcf (by decide)|exact (Int.toNat_of_nonneg (by omega)).symm|exact dcu|exact lk1 (by assumption)|exact lk0 (by assumption)))|fail) ?_)
  refine Der.fin (fun w5 hk5 _ _ => ?_)
  have c0 := c0.kp0 hk5
  have c1 := c1.kp0 hk5
  rw [eA, eB]
  repeat (first|apply CG.seq|apply CG.region|apply SG.nil|apply NG.next|apply CG.skip|apply CG.block|apply CG.ret|apply CG.exit|apply CG.scope|apply NG.ret_then|apply NG.ret_block|apply NG.ret_scope|apply NG.exit_then|refine NG.exit_block rfl ?_|refine NG.exit_other rfl ?_|apply NG.exit_scope|apply NG.normal_block|apply NG.normal_scope|refine SG.val rfl rfl rfl rfl (by first|((first|apply qmv|apply qas|apply qlc|apply qla|apply qfa|apply qnc|apply qic|apply qix|apply qpk|apply qls|apply qei|apply qni|apply qed|apply qnd|apply qad|apply qln|apply qle|apply qgt|apply qge|apply qlk|apply qlv|apply qxt|apply qsb|apply qnt|apply qep|apply qnp|apply qeb|apply qnb|apply qx2|apply qx4|apply qcv|apply qlm|apply qfr|apply qto|apply qmx|apply qen|apply qsn|apply qx5|apply qx4|apply qx3|apply qx2|apply qx1|apply qx0)<;>(first|exact rfl|exact Ar.mk (by omega)|assumption|exact dct (by assumption)|exact dcf (by assumption)|exact dct (by omega)|exact dcf (by omega)|exact List.not_mem_nil|exact dc_length _|exact nc_length _|exact rc_length _ _ _|exact nm1 (by omega)|exact nm2 (by omega) (by omega)|exact dct rfl|exact dct (by decide)|exact dcf (by decide)|exact (Int.toNat_of_nonneg (by omega)).symm|exact dcu|exact lk1 (by assumption)|exact lk0 (by assumption)))|fail) ?_)
  refine CG.draw0 mixed [0, 1, 2, 3, 4, 5, 6, 7, 8, 9] [] (by kernel_rfl) ?_
  repeat (refine Der.val rfl rfl rfl (by first|((first|apply qmv|apply qas|apply qlc|apply qla|apply qfa|apply qnc|apply qic|apply qix|apply qpk|apply qls|apply qei|apply qni|apply qed|apply qnd|apply qad|apply qln|apply qle|apply qgt|apply qge|apply qlk|apply qlv|apply qxt|apply qsb|apply qnt|apply qep|apply qnp|apply qeb|apply qnb|apply qx2|apply qx4|apply qcv|apply qlm|apply qfr|apply qto|apply qmx|apply qen|apply qsn|apply qx5|apply qx4|apply qx3|apply qx2|apply qx1|apply qx0)<;>(first|exact rfl|exact Ar.mk (by omega)|assumption|exact dct (by assumption)|exact dcf (by assumption)|exact dct (by omega)|exact dcf (by omega)|exact List.not_mem_nil|exact dc_length _|exact nc_length _|exact rc_length _ _ _|exact nm1 (by omega)|exact nm2 (by omega) (by omega)|exact dct rfl|exact dct (by decide)|exact dcf (by decide)|exact (Int.toNat_of_nonneg (by omega)).symm|exact dcu|exact lk1 (by assumption)|exact lk0 (by assumption)))|fail) ?_)
  refine Der.fin (fun w6 hk6 _ _ => ?_)
  rw [eF, eT]
  have hA6 := (hA4.kp0 hk5).kp0 hk6
  repeat (first|apply CG.seq|apply CG.region|apply SG.nil|apply NG.next|apply CG.skip|apply CG.block|apply CG.ret|apply CG.exit|apply CG.scope|apply NG.ret_then|apply NG.ret_block|apply NG.ret_scope|apply NG.exit_then|refine NG.exit_block rfl ?_|refine NG.exit_other rfl ?_|apply NG.exit_scope|apply NG.normal_block|apply NG.normal_scope|refine SG.val rfl rfl rfl rfl (by first|((first|apply qmv|apply qas|apply qlc|apply qla|apply qfa|apply qnc|apply qic|apply qix|apply qpk|apply qls|apply qei|apply qni|apply qed|apply qnd|apply qad|apply qln|apply qle|apply qgt|apply qge|apply qlk|apply qlv|apply qxt|apply qsb|apply qnt|apply qep|apply qnp|apply qeb|apply qnb|apply qx2|apply qx4|apply qcv|apply qlm|apply qfr|apply qto|apply qmx|apply qen|apply qsn|apply qx5|apply qx4|apply qx3|apply qx2|apply qx1|apply qx0)<;>(first|exact rfl|exact Ar.mk (by omega)|assumption|exact dct (by assumption)|exact dcf (by assumption)|exact dct (by omega)|exact dcf (by omega)|exact List.not_mem_nil|exact dc_length _|exact nc_length _|exact rc_length _ _ _|exact nm1 (by omega)|exact nm2 (by omega) (by omega)|exact dct rfl|exact dct (by decide)|exact dcf (by decide)|exact (Int.toNat_of_nonneg (by omega)).symm|exact dcu|exact lk1 (by assumption)|exact lk0 (by assumption)))|fail) ?_)
  refine SG.makeMap iv Value.bool rfl rfl (fun bc w7 hk7 hbc hm7 => ?_)
  have hbm6 : bm < w6.heap.size := by
    obtain ⟨_, due, hR, _⟩ := hA6
    exact hR.map.lt
  have hcb : bc ≠ bm := by omega
  have e26 := hA6.kp.size
  repeat (first|apply CG.seq|apply CG.region|apply SG.nil|apply NG.next|apply CG.skip|apply CG.block|apply CG.ret|apply CG.exit|apply CG.scope|apply NG.ret_then|apply NG.ret_block|apply NG.ret_scope|apply NG.exit_then|refine NG.exit_block rfl ?_|refine NG.exit_other rfl ?_|apply NG.exit_scope|apply NG.normal_block|apply NG.normal_scope|refine SG.val rfl rfl rfl rfl (by first|((first|apply qmv|apply qas|apply qlc|apply qla|apply qfa|apply qnc|apply qic|apply qix|apply qpk|apply qls|apply qei|apply qni|apply qed|apply qnd|apply qad|apply qln|apply qle|apply qgt|apply qge|apply qlk|apply qlv|apply qxt|apply qsb|apply qnt|apply qep|apply qnp|apply qeb|apply qnb|apply qx2|apply qx4|apply qcv|apply qlm|apply qfr|apply qto|apply qmx|apply qen|apply qsn|apply qx5|apply qx4|apply qx3|apply qx2|apply qx1|apply qx0)<;>(first|exact rfl|exact Ar.mk (by omega)|assumption|exact dct (by assumption)|exact dcf (by assumption)|exact dct (by omega)|exact dcf (by omega)|exact List.not_mem_nil|exact dc_length _|exact nc_length _|exact rc_length _ _ _|exact nm1 (by omega)|exact nm2 (by omega) (by omega)|exact dct rfl|exact dct (by decide)|exact dcf (by decide)|exact (Int.toNat_of_nonneg (by omega)).symm|exact dcu|exact lk1 (by assumption)|exact lk0 (by assumption)))|fail) ?_)
  refine CG.loop (X := Nat × Bool × List (I64 × Bool)) (fun q => [(0, .slice a l.length c), (6, .bool false), (7, .pointer (some ⟨bt, 0, none⟩)), (10, .int .i64 (A : Int)), (11, .int .i64 (B : Int)), (12, .int .i64 (F : Int)), (13, .int .i64 (T : Int)), (14, .map (some bc)), (15, .int .i64 (q.1 : Int))])
    (fun q w' => q.1 ≤ 40 ∧ At w2 w' bt bm (cutS A B q.1 l.length (pendC l q.1 l.length) q.2.1) ∧ MapIs w' bc iv Value.bool q.2.2 ∧ Cm q.2.2 (came l A B F T q.1 l.length)) (fun q => 40 - q.1) (0, false, [])
    ⟨Nat.zero_le _, hA6.kp0 hk7, hm7, fun k => Or.inr ⟨rfl, fun ⟨i, ⟨_, hi, _⟩, _⟩ => absurd hi (Nat.not_lt_zero _)⟩⟩ (by (repeat' (first | exact True.intro | exact rfl | refine And.intro ?_ ?_))) ?_
  rintro ⟨t, cc, m⟩ w8 ⟨ht, hA8, hm8, hC8⟩
  replace ht : t ≤ 40 := ht
  replace hA8 : At w2 w8 bt bm (cutS A B t l.length (pendC l t l.length) cc) := hA8
  replace hm8 : MapIs w8 bc iv Value.bool m := hm8
  replace hC8 : Cm m (came l A B F T t l.length) := hC8
  refine CG.to [(0, .slice a l.length c), (6, .bool false), (7, .pointer (some ⟨bt, 0, none⟩)), (10, .int .i64 (A : Int)), (11, .int .i64 (B : Int)), (12, .int .i64 (F : Int)), (13, .int .i64 (T : Int)), (14, .map (some bc)), (15, .int .i64 (t : Int))] (by (repeat' (first | exact True.intro | exact rfl | refine And.intro ?_ ?_))) ?_
  by_cases hlt : t < 40
  · have g3 : (t : Int) < 40 := by omega
    have hcase : ((t : Int) < (F : Int) ∧ inS F T t = false) ∨ ((F : Int) ≤ (t : Int) ∧ inS F T t = decide ((t : Int) < (T : Int))) := by
      by_cases h : F ≤ t
      · refine Or.inr ⟨by omega, ?_⟩
        unfold inS
        rw [decide_eq_true h, Bool.true_and]
        by_cases h2 : t < T
        · rw [decide_eq_true h2, decide_eq_true (by omega)]
        · rw [decide_eq_false h2, decide_eq_false (by omega)]
      · refine Or.inl ⟨by omega, ?_⟩
        unfold inS
        rw [decide_eq_false h, Bool.false_and]
    repeat (first|apply CG.seq|apply CG.region|apply SG.nil|apply NG.next|apply CG.skip|apply CG.block|apply CG.ret|apply CG.exit|apply CG.scope|apply NG.ret_then|apply NG.ret_block|apply NG.ret_scope|apply NG.exit_then|refine NG.exit_block rfl ?_|refine NG.exit_other rfl ?_|apply NG.exit_scope|apply NG.normal_block|apply NG.normal_scope|refine SG.val rfl rfl rfl rfl (by first|((first|apply qmv|apply qas|apply qlc|apply qla|apply qfa|apply qnc|apply qic|apply qix|apply qpk|apply qls|apply qei|apply qni|apply qed|apply qnd|apply qad|apply qln|apply qle|apply qgt|apply qge|apply qlk|apply qlv|apply qxt|apply qsb|apply qnt|apply qep|apply qnp|apply qeb|apply qnb|apply qx2|apply qx4|apply qcv|apply qlm|apply qfr|apply qto|apply qmx|apply qen|apply qsn|apply qx5|apply qx4|apply qx3|apply qx2|apply qx1|apply qx0)<;>(first|exact rfl|exact Ar.mk (by omega)|assumption|exact dct (by assumption)|exact dcf (by assumption)|exact dct (by omega)|exact dcf (by omega)|exact List.not_mem_nil|exact dc_length _|exact nc_length _|exact rc_length _ _ _|exact nm1 (by omega)|exact nm2 (by omega) (by omega)|exact dct rfl|exact dct (by decide)|exact dcf (by decide)|exact (Int.toNat_of_nonneg (by omega)).symm|exact dcu|exact lk1 (by assumption)|exact lk0 (by assumption)))|fail) ?_)
    refine CG.cond_t rfl (by exact rho_of rfl) rfl ?_
    rcases hcase with ⟨gF, eS⟩ | ⟨gF, eS⟩
    all_goals
      repeat (first | first|apply CG.seq|apply CG.region|apply SG.nil|apply NG.next|apply CG.skip|apply CG.block|apply CG.ret|apply CG.exit|apply CG.scope|apply NG.ret_then|apply NG.ret_block|apply NG.ret_scope|apply NG.exit_then|refine NG.exit_block rfl ?_|refine NG.exit_other rfl ?_|apply NG.exit_scope|apply NG.normal_block|apply NG.normal_scope|refine SG.val rfl rfl rfl rfl (by first|((first|apply qmv|apply qas|apply qlc|apply qla|apply qfa|apply qnc|apply qic|apply qix|apply qpk|apply qls|apply qei|apply qni|apply qed|apply qnd|apply qad|apply qln|apply qle|apply qgt|apply qge|apply qlk|apply qlv|apply qxt|apply qsb|apply qnt|apply qep|apply qnp|apply qeb|apply qnb|apply qx2|apply qx4|apply qcv|apply qlm|apply qfr|apply qto|apply qmx|apply qen|apply qsn|apply qx5|apply qx4|apply qx3|apply qx2|apply qx1|apply qx0)<;>(first|exact rfl|exact Ar.mk (by omega)|assumption|exact dct (by assumption)|exact dcf (by assumption)|exact dct (by omega)|exact dcf (by omega)|exact List.not_mem_nil|exact dc_length _|exact nc_length _|exact rc_length _ _ _|exact nm1 (by omega)|exact nm2 (by omega) (by omega)|exact dct rfl|exact dct (by decide)|exact dcf (by decide)|exact (Int.toNat_of_nonneg (by omega)).symm|exact dcu|exact lk1 (by assumption)|exact lk0 (by assumption)))|fail) ?_ | refine SG.skip rfl rfl ?_)
      refine SG.call rfl rfl rfl (by repeat' (first | exact True.intro | exact rho_of rfl | refine And.intro ?_ ?_)) ((cut_at hA8 A B _ (by show 3 ≤ 16; omega) (by show A < 3; omega) (by show B < 3; omega)).mono (fun e w9 h => ?_))
      obtain ⟨he9, hA9, hk9⟩ := h
      refine ⟨_, he9, ?_⟩
      rw [cut_set, ← eS] at hA9
      have hm9 := hm8.kt hk9 hcb
      repeat (first|apply CG.seq|apply CG.region|apply SG.nil|apply NG.next|apply CG.skip|apply CG.block|apply CG.ret|apply CG.exit|apply CG.scope|apply NG.ret_then|apply NG.ret_block|apply NG.ret_scope|apply NG.exit_then|refine NG.exit_block rfl ?_|refine NG.exit_other rfl ?_|apply NG.exit_scope|apply NG.normal_block|apply NG.normal_scope|refine SG.val rfl rfl rfl rfl (by first|((first|apply qmv|apply qas|apply qlc|apply qla|apply qfa|apply qnc|apply qic|apply qix|apply qpk|apply qls|apply qei|apply qni|apply qed|apply qnd|apply qad|apply qln|apply qle|apply qgt|apply qge|apply qlk|apply qlv|apply qxt|apply qsb|apply qnt|apply qep|apply qnp|apply qeb|apply qnb|apply qx2|apply qx4|apply qcv|apply qlm|apply qfr|apply qto|apply qmx|apply qen|apply qsn|apply qx5|apply qx4|apply qx3|apply qx2|apply qx1|apply qx0)<;>(first|exact rfl|exact Ar.mk (by omega)|assumption|exact dct (by assumption)|exact dcf (by assumption)|exact dct (by omega)|exact dcf (by omega)|exact List.not_mem_nil|exact dc_length _|exact nc_length _|exact rc_length _ _ _|exact nm1 (by omega)|exact nm2 (by omega) (by omega)|exact dct rfl|exact dct (by decide)|exact dcf (by decide)|exact (Int.toNat_of_nonneg (by omega)).symm|exact dcu|exact lk1 (by assumption)|exact lk0 (by assumption)))|fail) ?_)
      refine CG.cond_f rfl (by exact rho_of rfl) rfl ?_
      repeat (first|apply CG.seq|apply CG.region|apply SG.nil|apply NG.next|apply CG.skip|apply CG.block|apply CG.ret|apply CG.exit|apply CG.scope|apply NG.ret_then|apply NG.ret_block|apply NG.ret_scope|apply NG.exit_then|refine NG.exit_block rfl ?_|refine NG.exit_other rfl ?_|apply NG.exit_scope|apply NG.normal_block|apply NG.normal_scope|refine SG.val rfl rfl rfl rfl (by first|((first|apply qmv|apply qas|apply qlc|apply qla|apply qfa|apply qnc|apply qic|apply qix|apply qpk|apply qls|apply qei|apply qni|apply qed|apply qnd|apply qad|apply qln|apply qle|apply qgt|apply qge|apply qlk|apply qlv|apply qxt|apply qsb|apply qnt|apply qep|apply qnp|apply qeb|apply qnb|apply qx2|apply qx4|apply qcv|apply qlm|apply qfr|apply qto|apply qmx|apply qen|apply qsn|apply qx5|apply qx4|apply qx3|apply qx2|apply qx1|apply qx0)<;>(first|exact rfl|exact Ar.mk (by omega)|assumption|exact dct (by assumption)|exact dcf (by assumption)|exact dct (by omega)|exact dcf (by omega)|exact List.not_mem_nil|exact dc_length _|exact nc_length _|exact rc_length _ _ _|exact nm1 (by omega)|exact nm2 (by omega) (by omega)|exact dct rfl|exact dct (by decide)|exact dcf (by decide)|exact (Int.toNat_of_nonneg (by omega)).symm|exact dcu|exact lk1 (by assumption)|exact lk0 (by assumption)))|fail) ?_)
      have hpl := cut_len l (k := t) (q := l.length)
      refine SG.call rfl rfl rfl (by repeat' (first | exact True.intro | exact rho_of rfl | refine And.intro ?_ ?_)) ((step_at hA9 (by show t ≤ _; omega) (by show (pendC l t l.length).length ≤ _; omega) (cut_in l)).mono (fun e w10 h => ?_))
      obtain ⟨v10, ls, he10, ho10, hl10, hb10, hA10, hk10⟩ := h
      refine ⟨_, he10, ?_⟩
      rw [cut_step] at hA10
      rw [cut_come l A B F T hA3 hB3] at hl10
      have hm10 := hm9.kt hk10 hcb
      generalize hCs : comes l A B F T t l.length = Cs at hl10
      have hCl : Cs.length ≤ l.length := by
        rw [← hCs]
        refine Nat.le_trans (List.length_filter_le _ _) ?_
        simp
      have hnd : Cs.Nodup := hCs ▸ comes_nodup l A B F T
      have hCm : ∀ e ∈ Cs, e < l.length ∧ cD l e = t := fun e he => comes_mem l A B F T (hCs ▸ he)
      have elen : ls.length = Cs.length := by
        have := congrArg List.length hl10
        simpa using this
      have hown10 : w10.ownsRow w9.heap.size 35 3 v10 Cs.length (flt lcl ls) := elen ▸ ho10
      obtain ⟨p10, q10, rfl, hS10⟩ := SlF.own (n := Cs.length) lcl_length hown10 elen
      repeat (first|apply CG.seq|apply CG.region|apply SG.nil|apply NG.next|apply CG.skip|apply CG.block|apply CG.ret|apply CG.exit|apply CG.scope|apply NG.ret_then|apply NG.ret_block|apply NG.ret_scope|apply NG.exit_then|refine NG.exit_block rfl ?_|refine NG.exit_other rfl ?_|apply NG.exit_scope|apply NG.normal_block|apply NG.normal_scope|refine SG.val rfl rfl rfl rfl (by first|((first|apply qmv|apply qas|apply qlc|apply qla|apply qfa|apply qnc|apply qic|apply qix|apply qpk|apply qls|apply qei|apply qni|apply qed|apply qnd|apply qad|apply qln|apply qle|apply qgt|apply qge|apply qlk|apply qlv|apply qxt|apply qsb|apply qnt|apply qep|apply qnp|apply qeb|apply qnb|apply qx2|apply qx4|apply qcv|apply qlm|apply qfr|apply qto|apply qmx|apply qen|apply qsn|apply qx5|apply qx4|apply qx3|apply qx2|apply qx1|apply qx0)<;>(first|exact rfl|exact Ar.mk (by omega)|assumption|exact dct (by assumption)|exact dcf (by assumption)|exact dct (by omega)|exact dcf (by omega)|exact List.not_mem_nil|exact dc_length _|exact nc_length _|exact rc_length _ _ _|exact nm1 (by omega)|exact nm2 (by omega) (by omega)|exact dct rfl|exact dct (by decide)|exact dcf (by decide)|exact (Int.toNat_of_nonneg (by omega)).symm|exact dcu|exact lk1 (by assumption)|exact lk0 (by assumption)))|fail) ?_)
      refine CG.loop (X := Nat × List (I64 × Bool)) (fun q => [(0, .slice a l.length c), (6, .bool false), (7, .pointer (some ⟨bt, 0, none⟩)), (10, .int .i64 (A : Int)), (11, .int .i64 (B : Int)), (12, .int .i64 (F : Int)), (13, .int .i64 (T : Int)), (14, .map (some bc)), (15, .int .i64 (t : Int)), (16, .slice p10 Cs.length q10), (17, .int .i64 (q.1 : Int))])
        (fun q w' => q.1 ≤ Cs.length ∧ At w2 w' bt bm (cutS A B (t + 1) l.length (pendC l (t + 1) l.length) (inS F T t)) ∧ Kp [bc] w10 w' ∧ MapIs w' bc iv Value.bool q.2 ∧ Cm q.2 (fun i => came l A B F T t l.length i ∨ i ∈ Cs.take q.1)) (fun q => Cs.length - q.1) (0, m)
        ⟨Nat.zero_le _, hA10, Kp.refl _ _, hm10, hC8.congr (fun j => by simp)⟩ (by (repeat' (first | exact True.intro | exact rfl | refine And.intro ?_ ?_))) ?_
      rintro ⟨j, m⟩ w11 ⟨hj, hA11, hk11, hm11, hC11⟩
      replace hj : j ≤ Cs.length := hj
      replace hm11 : MapIs w11 bc iv Value.bool m := hm11
      replace hC11 : Cm m (fun i => came l A B F T t l.length i ∨ i ∈ Cs.take j) := hC11
      refine CG.to [(0, .slice a l.length c), (6, .bool false), (7, .pointer (some ⟨bt, 0, none⟩)), (10, .int .i64 (A : Int)), (11, .int .i64 (B : Int)), (12, .int .i64 (F : Int)), (13, .int .i64 (T : Int)), (14, .map (some bc)), (15, .int .i64 (t : Int)), (16, .slice p10 Cs.length q10), (17, .int .i64 (j : Int))] (by (repeat' (first | exact True.intro | exact rfl | refine And.intro ?_ ?_))) ?_
      by_cases hlj : j < Cs.length
      · have g4 : (j : Int) < (Cs.length : Int) := by omega
        obtain ⟨es, ec, hmb⟩ := hm10.blk
        have hlj' : j < ls.length := by omega
        obtain ⟨b5', o5, rfl, hr5⟩ := hS10.sl.at hlj'
        obtain ⟨cg, hcg⟩ := own_blk hown10 (z := b5') rfl
        have hne5 : b5' ≠ bc := ne_map hmb hcg
        have hr5 := hr5.kp hk11 (nm1 hne5)
        have hlt5 : ltc ls[j] = cpc (cpI l Cs[j]) := by
          have h1 : (ls.map ltc)[j]? = ((Cs.map (cpI l)).map cpc)[j]? := by rw [hl10]
          rw [List.getElem?_map, List.getElem?_map, List.getElem?_map, List.getElem?_eq_getElem hlj, List.getElem?_eq_getElem hlj'] at h1
          simpa using h1
        obtain ⟨hby, hfr⟩ := hb10 _ (List.getElem_mem hlj')
        have hcm := hCm _ (List.getElem_mem hlj)
        have hnin : Cs[j] ∉ Cs.take j := by
          intro hm
          have h2 := List.take_append_drop j Cs
          rw [List.drop_eq_getElem_cons hlj] at h2
          rw [← h2] at hnd
          exact (List.pairwise_append.1 hnd).2.2 _ hm _ List.mem_cons_self rfl
        have htake : Cs.take (j + 1) = Cs.take j ++ [Cs[j]] := List.take_succ_eq_append_getElem hlj
        generalize ls[j] = L5 at hlt5 hby hfr hr5
        obtain ⟨f5, t5, bs5, a5, c5⟩ := L5
        simp only [ltc, cpc, cpI, Prod.mk.injEq] at hlt5
        obtain ⟨rfl, rfl, rfl⟩ := hlt5
        generalize Cs[j] = en at hr5 hby hcm hnin htake
        obtain ⟨hen, hed⟩ := hcm
        have hr5 : Row w11 b5' (o5 + j * 3) [.int .i64 (cFr l en), .int .i64 (cTo l en), .slice a5 1 c5] := hr5
        have s2 : Row w11 b5' (o5 + j * 3 + 2) [.slice a5 1 c5] := Row.sub [.int .i64 (cFr l en), .int .i64 (cTo l en)] _ [] hr5
        have hby11 : ByAt w11 a5 [UInt8.ofNat en] := fun i u hu => by
          obtain ⟨b', off', cs', g1, g2, g3⟩ := hby i u hu
          exact ⟨b', off', cs', g1, g2.kp hk11 (nm1 (ne_map hmb g2)), g3⟩
        obtain ⟨bz, oz, rfl, hrz⟩ := hby11.sl.at (i := 0) Nat.zero_lt_one
        have hrz : Row w11 bz oz [bv (UInt8.ofNat en)] := hrz
        rw [← bv_ofNat (by omega)] at hrz
        have hnp : ¬ (came l A B F T t l.length en ∨ en ∈ Cs.take j) := by
          rintro (⟨_, h2, _⟩ | h2)
          · omega
          · exact hnin h2
        repeat (first | first|apply CG.seq|apply CG.region|apply SG.nil|apply NG.next|apply CG.skip|apply CG.block|apply CG.ret|apply CG.exit|apply CG.scope|apply NG.ret_then|apply NG.ret_block|apply NG.ret_scope|apply NG.exit_then|refine NG.exit_block rfl ?_|refine NG.exit_other rfl ?_|apply NG.exit_scope|apply NG.normal_block|apply NG.normal_scope|refine SG.val rfl rfl rfl rfl (by first|((first|apply qmv|apply qas|apply qlc|apply qla|apply qfa|apply qnc|apply qic|apply qix|apply qpk|apply qls|apply qei|apply qni|apply qed|apply qnd|apply qad|apply qln|apply qle|apply qgt|apply qge|apply qlk|apply qlv|apply qxt|apply qsb|apply qnt|apply qep|apply qnp|apply qeb|apply qnb|apply qx2|apply qx4|apply qcv|apply qlm|apply qfr|apply qto|apply qmx|apply qen|apply qsn|apply qx5|apply qx4|apply qx3|apply qx2|apply qx1|apply qx0)<;>(first|exact rfl|exact Ar.mk (by omega)|assumption|exact dct (by assumption)|exact dcf (by assumption)|exact dct (by omega)|exact dcf (by omega)|exact List.not_mem_nil|exact dc_length _|exact nc_length _|exact rc_length _ _ _|exact nm1 (by omega)|exact nm2 (by omega) (by omega)|exact dct rfl|exact dct (by decide)|exact dcf (by decide)|exact (Int.toNat_of_nonneg (by omega)).symm|exact dcu|exact lk1 (by assumption)|exact lk0 (by assumption)))|fail) ?_ | refine SG.skip rfl rfl ?_)
        refine CG.cond_t rfl (by exact rho_of rfl) rfl ?_
        repeat (first | first|apply CG.seq|apply CG.region|apply SG.nil|apply NG.next|apply CG.skip|apply CG.block|apply CG.ret|apply CG.exit|apply CG.scope|apply NG.ret_then|apply NG.ret_block|apply NG.ret_scope|apply NG.exit_then|refine NG.exit_block rfl ?_|refine NG.exit_other rfl ?_|apply NG.exit_scope|apply NG.normal_block|apply NG.normal_scope|refine SG.val rfl rfl rfl rfl (by first|((first|apply qmv|apply qas|apply qlc|apply qla|apply qfa|apply qnc|apply qic|apply qix|apply qpk|apply qls|apply qei|apply qni|apply qed|apply qnd|apply qad|apply qln|apply qle|apply qgt|apply qge|apply qlk|apply qlv|apply qxt|apply qsb|apply qnt|apply qep|apply qnp|apply qeb|apply qnb|apply qx2|apply qx4|apply qcv|apply qlm|apply qfr|apply qto|apply qmx|apply qen|apply qsn|apply qx5|apply qx4|apply qx3|apply qx2|apply qx1|apply qx0)<;>(first|exact rfl|exact Ar.mk (by omega)|assumption|exact dct (by assumption)|exact dcf (by assumption)|exact dct (by omega)|exact dcf (by omega)|exact List.not_mem_nil|exact dc_length _|exact nc_length _|exact rc_length _ _ _|exact nm1 (by omega)|exact nm2 (by omega) (by omega)|exact dct rfl|exact dct (by decide)|exact dcf (by decide)|exact (Int.toNat_of_nonneg (by omega)).symm|exact dcu|exact lk1 (by assumption)|exact lk0 (by assumption)))|fail) ?_ | refine SG.skip rfl rfl ?_)
        refine SG.val rfl rfl rfl rfl (vals_came rfl rfl (by omega) hm11 hC11 (dcf hnp) List.not_mem_nil) ?_
        repeat (first | first|apply CG.seq|apply CG.region|apply SG.nil|apply NG.next|apply CG.skip|apply CG.block|apply CG.ret|apply CG.exit|apply CG.scope|apply NG.ret_then|apply NG.ret_block|apply NG.ret_scope|apply NG.exit_then|refine NG.exit_block rfl ?_|refine NG.exit_other rfl ?_|apply NG.exit_scope|apply NG.normal_block|apply NG.normal_scope|refine SG.val rfl rfl rfl rfl (by first|((first|apply qmv|apply qas|apply qlc|apply qla|apply qfa|apply qnc|apply qic|apply qix|apply qpk|apply qls|apply qei|apply qni|apply qed|apply qnd|apply qad|apply qln|apply qle|apply qgt|apply qge|apply qlk|apply qlv|apply qxt|apply qsb|apply qnt|apply qep|apply qnp|apply qeb|apply qnb|apply qx2|apply qx4|apply qcv|apply qlm|apply qfr|apply qto|apply qmx|apply qen|apply qsn|apply qx5|apply qx4|apply qx3|apply qx2|apply qx1|apply qx0)<;>(first|exact rfl|exact Ar.mk (by omega)|assumption|exact dct (by assumption)|exact dcf (by assumption)|exact dct (by omega)|exact dcf (by omega)|exact List.not_mem_nil|exact dc_length _|exact nc_length _|exact rc_length _ _ _|exact nm1 (by omega)|exact nm2 (by omega) (by omega)|exact dct rfl|exact dct (by decide)|exact dcf (by decide)|exact (Int.toNat_of_nonneg (by omega)).symm|exact dcu|exact lk1 (by assumption)|exact lk0 (by assumption)))|fail) ?_ | refine SG.skip rfl rfl ?_)
        refine CG.cond_f rfl (by exact rho_of rfl) rfl ?_
        repeat (first | first|apply CG.seq|apply CG.region|apply SG.nil|apply NG.next|apply CG.skip|apply CG.block|apply CG.ret|apply CG.exit|apply CG.scope|apply NG.ret_then|apply NG.ret_block|apply NG.ret_scope|apply NG.exit_then|refine NG.exit_block rfl ?_|refine NG.exit_other rfl ?_|apply NG.exit_scope|apply NG.normal_block|apply NG.normal_scope|refine SG.val rfl rfl rfl rfl (by first|((first|apply qmv|apply qas|apply qlc|apply qla|apply qfa|apply qnc|apply qic|apply qix|apply qpk|apply qls|apply qei|apply qni|apply qed|apply qnd|apply qad|apply qln|apply qle|apply qgt|apply qge|apply qlk|apply qlv|apply qxt|apply qsb|apply qnt|apply qep|apply qnp|apply qeb|apply qnb|apply qx2|apply qx4|apply qcv|apply qlm|apply qfr|apply qto|apply qmx|apply qen|apply qsn|apply qx5|apply qx4|apply qx3|apply qx2|apply qx1|apply qx0)<;>(first|exact rfl|exact Ar.mk (by omega)|assumption|exact dct (by assumption)|exact dcf (by assumption)|exact dct (by omega)|exact dcf (by omega)|exact List.not_mem_nil|exact dc_length _|exact nc_length _|exact rc_length _ _ _|exact nm1 (by omega)|exact nm2 (by omega) (by omega)|exact dct rfl|exact dct (by decide)|exact dcf (by decide)|exact (Int.toNat_of_nonneg (by omega)).symm|exact dcu|exact lk1 (by assumption)|exact lk0 (by assumption)))|fail) ?_ | refine SG.skip rfl rfl ?_)
        refine SG.mapUpdate (kx := ⟨(en : Int), by omega, by omega⟩) (vy := true) rfl rfl (by exact rho_of rfl) (by exact rho_of rfl) (by exact rho_of rfl) hm11 (i64_key ty.u3.eq) (fun w12 hk12 hm12 => ?_)
        repeat (first|apply CG.seq|apply CG.region|apply SG.nil|apply NG.next|apply CG.skip|apply CG.block|apply CG.ret|apply CG.exit|apply CG.scope|apply NG.ret_then|apply NG.ret_block|apply NG.ret_scope|apply NG.exit_then|refine NG.exit_block rfl ?_|refine NG.exit_other rfl ?_|apply NG.exit_scope|apply NG.normal_block|apply NG.normal_scope|refine SG.val rfl rfl rfl rfl (by first|((first|apply qmv|apply qas|apply qlc|apply qla|apply qfa|apply qnc|apply qic|apply qix|apply qpk|apply qls|apply qei|apply qni|apply qed|apply qnd|apply qad|apply qln|apply qle|apply qgt|apply qge|apply qlk|apply qlv|apply qxt|apply qsb|apply qnt|apply qep|apply qnp|apply qeb|apply qnb|apply qx2|apply qx4|apply qcv|apply qlm|apply qfr|apply qto|apply qmx|apply qen|apply qsn|apply qx5|apply qx4|apply qx3|apply qx2|apply qx1|apply qx0)<;>(first|exact rfl|exact Ar.mk (by omega)|assumption|exact dct (by assumption)|exact dcf (by assumption)|exact dct (by omega)|exact dcf (by omega)|exact List.not_mem_nil|exact dc_length _|exact nc_length _|exact rc_length _ _ _|exact nm1 (by omega)|exact nm2 (by omega) (by omega)|exact dct rfl|exact dct (by decide)|exact dcf (by decide)|exact (Int.toNat_of_nonneg (by omega)).symm|exact dcu|exact lk1 (by assumption)|exact lk0 (by assumption)))|fail) ?_)
        obtain ⟨es', ec', hmb'⟩ := hm11.blk
        refine NG.round ((j + 1, aput m (⟨(en : Int), by omega, by omega⟩ : I64) true) : Nat × List (I64 × Bool)) (by (repeat' (first | exact True.intro | exact rfl | refine And.intro ?_ ?_))) ⟨by show j + 1 ≤ Cs.length; omega, hA11.kpm hmb' (by omega) hcb hk12, hk11.trans hk12, hm12, ?_⟩ (by show Cs.length - (j + 1) < Cs.length - j; omega)
        refine (hC11.put (i := en) rfl).congr (fun i => ?_)
        show ((came l A B F T t l.length i ∨ i ∈ Cs.take j) ∨ i = en) ↔ (came l A B F T t l.length i ∨ i ∈ Cs.take (j + 1))
        rw [htake, List.mem_append, List.mem_singleton, or_assoc]
      have g4 : ¬ (j : Int) < (Cs.length : Int) := by omega
      repeat (first|apply CG.seq|apply CG.region|apply SG.nil|apply NG.next|apply CG.skip|apply CG.block|apply CG.ret|apply CG.exit|apply CG.scope|apply NG.ret_then|apply NG.ret_block|apply NG.ret_scope|apply NG.exit_then|refine NG.exit_block rfl ?_|refine NG.exit_other rfl ?_|apply NG.exit_scope|apply NG.normal_block|apply NG.normal_scope|refine SG.val rfl rfl rfl rfl (by first|((first|apply qmv|apply qas|apply qlc|apply qla|apply qfa|apply qnc|apply qic|apply qix|apply qpk|apply qls|apply qei|apply qni|apply qed|apply qnd|apply qad|apply qln|apply qle|apply qgt|apply qge|apply qlk|apply qlv|apply qxt|apply qsb|apply qnt|apply qep|apply qnp|apply qeb|apply qnb|apply qx2|apply qx4|apply qcv|apply qlm|apply qfr|apply qto|apply qmx|apply qen|apply qsn|apply qx5|apply qx4|apply qx3|apply qx2|apply qx1|apply qx0)<;>(first|exact rfl|exact Ar.mk (by omega)|assumption|exact dct (by assumption)|exact dcf (by assumption)|exact dct (by omega)|exact dcf (by omega)|exact List.not_mem_nil|exact dc_length _|exact nc_length _|exact rc_length _ _ _|exact nm1 (by omega)|exact nm2 (by omega) (by omega)|exact dct rfl|exact dct (by decide)|exact dcf (by decide)|exact (Int.toNat_of_nonneg (by omega)).symm|exact dcu|exact lk1 (by assumption)|exact lk0 (by assumption)))|fail) ?_)
      refine CG.cond_f rfl (by exact rho_of rfl) rfl ?_
      repeat (first|apply CG.seq|apply CG.region|apply SG.nil|apply NG.next|apply CG.skip|apply CG.block|apply CG.ret|apply CG.exit|apply CG.scope|apply NG.ret_then|apply NG.ret_block|apply NG.ret_scope|apply NG.exit_then|refine NG.exit_block rfl ?_|refine NG.exit_other rfl ?_|apply NG.exit_scope|apply NG.normal_block|apply NG.normal_scope|refine SG.val rfl rfl rfl rfl (by first|((first|apply qmv|apply qas|apply qlc|apply qla|apply qfa|apply qnc|apply qic|apply qix|apply qpk|apply qls|apply qei|apply qni|apply qed|apply qnd|apply qad|apply qln|apply qle|apply qgt|apply qge|apply qlk|apply qlv|apply qxt|apply qsb|apply qnt|apply qep|apply qnp|apply qeb|apply qnb|apply qx2|apply qx4|apply qcv|apply qlm|apply qfr|apply qto|apply qmx|apply qen|apply qsn|apply qx5|apply qx4|apply qx3|apply qx2|apply qx1|apply qx0)<;>(first|exact rfl|exact Ar.mk (by omega)|assumption|exact dct (by assumption)|exact dcf (by assumption)|exact dct (by omega)|exact dcf (by omega)|exact List.not_mem_nil|exact dc_length _|exact nc_length _|exact rc_length _ _ _|exact nm1 (by omega)|exact nm2 (by omega) (by omega)|exact dct rfl|exact dct (by decide)|exact dcf (by decide)|exact (Int.toNat_of_nonneg (by omega)).symm|exact dcu|exact lk1 (by assumption)|exact lk0 (by assumption)))|fail) ?_)
      refine NG.round (t + 1, inS F T t, m) (by (repeat' (first | exact True.intro | exact rfl | refine And.intro ?_ ?_))) ⟨by show t + 1 ≤ 40; omega, hA11, hm11, hC11.congr (fun i => ?_)⟩ (by show 40 - (t + 1) < 40 - t; omega)
      show (came l A B F T t l.length i ∨ i ∈ Cs.take j) ↔ came l A B F T (t + 1) l.length i
      rw [came_succ, hCs, List.take_of_length_le (by omega)]
  have g3 : ¬ (t : Int) < 40 := by omega
  have et : t = 40 := by omega
  subst et
  rw [cut_end] at hA8
  repeat (first|apply CG.seq|apply CG.region|apply SG.nil|apply NG.next|apply CG.skip|apply CG.block|apply CG.ret|apply CG.exit|apply CG.scope|apply NG.ret_then|apply NG.ret_block|apply NG.ret_scope|apply NG.exit_then|refine NG.exit_block rfl ?_|refine NG.exit_other rfl ?_|apply NG.exit_scope|apply NG.normal_block|apply NG.normal_scope|refine SG.val rfl rfl rfl rfl (by first|((first|apply qmv|apply qas|apply qlc|apply qla|apply qfa|apply qnc|apply qic|apply qix|apply qpk|apply qls|apply qei|apply qni|apply qed|apply qnd|apply qad|apply qln|apply qle|apply qgt|apply qge|apply qlk|apply qlv|apply qxt|apply qsb|apply qnt|apply qep|apply qnp|apply qeb|apply qnb|apply qx2|apply qx4|apply qcv|apply qlm|apply qfr|apply qto|apply qmx|apply qen|apply qsn|apply qx5|apply qx4|apply qx3|apply qx2|apply qx1|apply qx0)<;>(first|exact rfl|exact Ar.mk (by omega)|assumption|exact dct (by assumption)|exact dcf (by assumption)|exact dct (by omega)|exact dcf (by omega)|exact List.not_mem_nil|exact dc_length _|exact nc_length _|exact rc_length _ _ _|exact nm1 (by omega)|exact nm2 (by omega) (by omega)|exact dct rfl|exact dct (by decide)|exact dcf (by decide)|exact (Int.toNat_of_nonneg (by omega)).symm|exact dcu|exact lk1 (by assumption)|exact lk0 (by assumption)))|fail) ?_)
  refine CG.cond_f rfl (by exact rho_of rfl) rfl ?_
  repeat (first|apply CG.seq|apply CG.region|apply SG.nil|apply NG.next|apply CG.skip|apply CG.block|apply CG.ret|apply CG.exit|apply CG.scope|apply NG.ret_then|apply NG.ret_block|apply NG.ret_scope|apply NG.exit_then|refine NG.exit_block rfl ?_|refine NG.exit_other rfl ?_|apply NG.exit_scope|apply NG.normal_block|apply NG.normal_scope|refine SG.val rfl rfl rfl rfl (by first|((first|apply qmv|apply qas|apply qlc|apply qla|apply qfa|apply qnc|apply qic|apply qix|apply qpk|apply qls|apply qei|apply qni|apply qed|apply qnd|apply qad|apply qln|apply qle|apply qgt|apply qge|apply qlk|apply qlv|apply qxt|apply qsb|apply qnt|apply qep|apply qnp|apply qeb|apply qnb|apply qx2|apply qx4|apply qcv|apply qlm|apply qfr|apply qto|apply qmx|apply qen|apply qsn|apply qx5|apply qx4|apply qx3|apply qx2|apply qx1|apply qx0)<;>(first|exact rfl|exact Ar.mk (by omega)|assumption|exact dct (by assumption)|exact dcf (by assumption)|exact dct (by omega)|exact dcf (by omega)|exact List.not_mem_nil|exact dc_length _|exact nc_length _|exact rc_length _ _ _|exact nm1 (by omega)|exact nm2 (by omega) (by omega)|exact dct rfl|exact dct (by decide)|exact dcf (by decide)|exact (Int.toNat_of_nonneg (by omega)).symm|exact dcu|exact lk1 (by assumption)|exact lk0 (by assumption)))|fail) ?_)
  refine CG.loop (X := Nat) (fun q => [(0, .slice a l.length c), (6, .bool false), (7, .pointer (some ⟨bt, 0, none⟩)), (10, .int .i64 (A : Int)), (11, .int .i64 (B : Int)), (12, .int .i64 (F : Int)), (13, .int .i64 (T : Int)), (14, .map (some bc)), (18, .int .i64 (q : Int))])
    (fun q w' => q ≤ l.length ∧ w' = w8) (fun q => l.length - q) 0 ⟨Nat.zero_le _, rfl⟩ (by (repeat' (first | exact True.intro | exact rfl | refine And.intro ?_ ?_))) ?_
  rintro i w9 ⟨hi, rfl⟩
  by_cases hlt : i < l.length
  · have g4 : (i : Int) < (l.length : Int) := by omega
    obtain ⟨ba, oa, rfl, hr⟩ := (hS2.kp0 hA8.kp).at hlt
    have ex : cX l i = l[i] := by unfold cX; rw [List.getElem?_eq_getElem hlt]; rfl
    rw [← ex] at hr
    have r0 : Row w9 ba (oa + i * 3 + 0) [bv (cX l i).1] := Row.sub [] _ [bv (cX l i).2.1, bv (cX l i).2.2] hr
    have r1 : Row w9 ba (oa + i * 3 + 1) [bv (cX l i).2.1] := Row.sub [bv (cX l i).1] _ [bv (cX l i).2.2] hr
    have r2 : Row w9 ba (oa + i * 3 + 2) [bv (cX l i).2.2] := Row.sub [bv (cX l i).1, bv (cX l i).2.1] _ [] hr
    have key : came l A B F T 40 l.length i ↔ ¬ (((cX l i).1.toNat : Int) % 3 = (A : Int) ∧ ((cX l i).2.1.toNat : Int) % 3 = (B : Int) ∧ (F : Int) ≤ ((cX l i).2.2.toNat : Int) % 40 ∧ ((cX l i).2.2.toNat : Int) % 40 < (T : Int)) := by
      have f3 : cD l i < 40 := Nat.mod_lt _ (by omega)
      have e1 : cFr l i = (cX l i).1.toNat % 3 := rfl
      have e2 : cTo l i = (cX l i).2.1.toNat % 3 := rfl
      have e3 : cD l i = (cX l i).2.2.toNat % 40 := rfl
      unfold came mine inS
      rw [Bool.eq_false_iff]
      simp only [ne_eq, Bool.and_eq_true, decide_eq_true_eq]
      constructor
      · rintro ⟨_, _, h⟩ ⟨h1, h2, h3, h4⟩
        exact h ⟨⟨by omega, by omega⟩, by omega, by omega⟩
      · intro h
        refine ⟨hlt, f3, fun ⟨⟨h1, h2⟩, h3, h4⟩ => h ⟨by omega, by omega, by omega, by omega⟩⟩
    have hcases : (¬ ((cX l i).1.toNat : Int) % 3 = (A : Int) ∨ (((cX l i).1.toNat : Int) % 3 = (A : Int) ∧ ¬ ((cX l i).2.1.toNat : Int) % 3 = (B : Int)) ∨ (((cX l i).1.toNat : Int) % 3 = (A : Int) ∧ ((cX l i).2.1.toNat : Int) % 3 = (B : Int) ∧ ¬ (F : Int) ≤ ((cX l i).2.2.toNat : Int) % 40) ∨ (((cX l i).1.toNat : Int) % 3 = (A : Int) ∧ ((cX l i).2.1.toNat : Int) % 3 = (B : Int) ∧ (F : Int) ≤ ((cX l i).2.2.toNat : Int) % 40 ∧ ¬ ((cX l i).2.2.toNat : Int) % 40 < (T : Int))) ∨ (((cX l i).1.toNat : Int) % 3 = (A : Int) ∧ ((cX l i).2.1.toNat : Int) % 3 = (B : Int) ∧ (F : Int) ≤ ((cX l i).2.2.toNat : Int) % 40 ∧ ((cX l i).2.2.toNat : Int) % 40 < (T : Int)) := by omega
    repeat (first | first|apply CG.seq|apply CG.region|apply SG.nil|apply NG.next|apply CG.skip|apply CG.block|apply CG.ret|apply CG.exit|apply CG.scope|apply NG.ret_then|apply NG.ret_block|apply NG.ret_scope|apply NG.exit_then|refine NG.exit_block rfl ?_|refine NG.exit_other rfl ?_|apply NG.exit_scope|apply NG.normal_block|apply NG.normal_scope|refine SG.val rfl rfl rfl rfl (by first|((first|apply qmv|apply qas|apply qlc|apply qla|apply qfa|apply qnc|apply qic|apply qix|apply qpk|apply qls|apply qei|apply qni|apply qed|apply qnd|apply qad|apply qln|apply qle|apply qgt|apply qge|apply qlk|apply qlv|apply qxt|apply qsb|apply qnt|apply qep|apply qnp|apply qeb|apply qnb|apply qx2|apply qx4|apply qcv|apply qlm|apply qfr|apply qto|apply qmx|apply qen|apply qsn|apply qx5|apply qx4|apply qx3|apply qx2|apply qx1|apply qx0)<;>(first|exact rfl|exact Ar.mk (by omega)|assumption|exact dct (by assumption)|exact dcf (by assumption)|exact dct (by omega)|exact dcf (by omega)|exact List.not_mem_nil|exact dc_length _|exact nc_length _|exact rc_length _ _ _|exact nm1 (by omega)|exact nm2 (by omega) (by omega)|exact dct rfl|exact dct (by decide)|exact dcf (by decide)|exact (Int.toNat_of_nonneg (by omega)).symm|exact dcu|exact lk1 (by assumption)|exact lk0 (by assumption)))|fail) ?_ | refine SG.skip rfl rfl ?_)
    refine CG.cond_t rfl (by exact rho_of rfl) rfl ?_
    rcases hcases with hno | hyes
    · have hc := key.2 (by omega)
      rcases hno with k1 | ⟨k1, k2⟩ | ⟨k1, k2, k3⟩ | ⟨k1, k2, k3, k4⟩
      all_goals
        repeat (first | first|apply CG.seq|apply CG.region|apply SG.nil|apply NG.next|apply CG.skip|apply CG.block|apply CG.ret|apply CG.exit|apply CG.scope|apply NG.ret_then|apply NG.ret_block|apply NG.ret_scope|apply NG.exit_then|refine NG.exit_block rfl ?_|refine NG.exit_other rfl ?_|apply NG.exit_scope|apply NG.normal_block|apply NG.normal_scope|refine SG.val rfl rfl rfl rfl (by first|((first|apply qmv|apply qas|apply qlc|apply qla|apply qfa|apply qnc|apply qic|apply qix|apply qpk|apply qls|apply qei|apply qni|apply qed|apply qnd|apply qad|apply qln|apply qle|apply qgt|apply qge|apply qlk|apply qlv|apply qxt|apply qsb|apply qnt|apply qep|apply qnp|apply qeb|apply qnb|apply qx2|apply qx4|apply qcv|apply qlm|apply qfr|apply qto|apply qmx|apply qen|apply qsn|apply qx5|apply qx4|apply qx3|apply qx2|apply qx1|apply qx0)<;>(first|exact rfl|exact Ar.mk (by omega)|assumption|exact dct (by assumption)|exact dcf (by assumption)|exact dct (by omega)|exact dcf (by omega)|exact List.not_mem_nil|exact dc_length _|exact nc_length _|exact rc_length _ _ _|exact nm1 (by omega)|exact nm2 (by omega) (by omega)|exact dct rfl|exact dct (by decide)|exact dcf (by decide)|exact (Int.toNat_of_nonneg (by omega)).symm|exact dcu|exact lk1 (by assumption)|exact lk0 (by assumption)))|fail) ?_ | refine SG.skip rfl rfl ?_)
        refine SG.val rfl rfl rfl rfl (vals_came rfl rfl (by omega) hm8 hC8 (dct hc) List.not_mem_nil) ?_
        repeat (first | first|apply CG.seq|apply CG.region|apply SG.nil|apply NG.next|apply CG.skip|apply CG.block|apply CG.ret|apply CG.exit|apply CG.scope|apply NG.ret_then|apply NG.ret_block|apply NG.ret_scope|apply NG.exit_then|refine NG.exit_block rfl ?_|refine NG.exit_other rfl ?_|apply NG.exit_scope|apply NG.normal_block|apply NG.normal_scope|refine SG.val rfl rfl rfl rfl (by first|((first|apply qmv|apply qas|apply qlc|apply qla|apply qfa|apply qnc|apply qic|apply qix|apply qpk|apply qls|apply qei|apply qni|apply qed|apply qnd|apply qad|apply qln|apply qle|apply qgt|apply qge|apply qlk|apply qlv|apply qxt|apply qsb|apply qnt|apply qep|apply qnp|apply qeb|apply qnb|apply qx2|apply qx4|apply qcv|apply qlm|apply qfr|apply qto|apply qmx|apply qen|apply qsn|apply qx5|apply qx4|apply qx3|apply qx2|apply qx1|apply qx0)<;>(first|exact rfl|exact Ar.mk (by omega)|assumption|exact dct (by assumption)|exact dcf (by assumption)|exact dct (by omega)|exact dcf (by omega)|exact List.not_mem_nil|exact dc_length _|exact nc_length _|exact rc_length _ _ _|exact nm1 (by omega)|exact nm2 (by omega) (by omega)|exact dct rfl|exact dct (by decide)|exact dcf (by decide)|exact (Int.toNat_of_nonneg (by omega)).symm|exact dcu|exact lk1 (by assumption)|exact lk0 (by assumption)))|fail) ?_ | refine SG.skip rfl rfl ?_)
        refine CG.cond_f rfl (by exact rho_of rfl) rfl ?_
        repeat (first | first|apply CG.seq|apply CG.region|apply SG.nil|apply NG.next|apply CG.skip|apply CG.block|apply CG.ret|apply CG.exit|apply CG.scope|apply NG.ret_then|apply NG.ret_block|apply NG.ret_scope|apply NG.exit_then|refine NG.exit_block rfl ?_|refine NG.exit_other rfl ?_|apply NG.exit_scope|apply NG.normal_block|apply NG.normal_scope|refine SG.val rfl rfl rfl rfl (by first|((first|apply qmv|apply qas|apply qlc|apply qla|apply qfa|apply qnc|apply qic|apply qix|apply qpk|apply qls|apply qei|apply qni|apply qed|apply qnd|apply qad|apply qln|apply qle|apply qgt|apply qge|apply qlk|apply qlv|apply qxt|apply qsb|apply qnt|apply qep|apply qnp|apply qeb|apply qnb|apply qx2|apply qx4|apply qcv|apply qlm|apply qfr|apply qto|apply qmx|apply qen|apply qsn|apply qx5|apply qx4|apply qx3|apply qx2|apply qx1|apply qx0)<;>(first|exact rfl|exact Ar.mk (by omega)|assumption|exact dct (by assumption)|exact dcf (by assumption)|exact dct (by omega)|exact dcf (by omega)|exact List.not_mem_nil|exact dc_length _|exact nc_length _|exact rc_length _ _ _|exact nm1 (by omega)|exact nm2 (by omega) (by omega)|exact dct rfl|exact dct (by decide)|exact dcf (by decide)|exact (Int.toNat_of_nonneg (by omega)).symm|exact dcu|exact lk1 (by assumption)|exact lk0 (by assumption)))|fail) ?_ | refine SG.skip rfl rfl ?_)
        refine NG.round (i + 1) (by (repeat' (first | exact True.intro | exact rfl | refine And.intro ?_ ?_))) ⟨hlt, rfl⟩ (by omega)
    · obtain ⟨k1, k2, k3, k4⟩ := hyes
      have hc : ¬ came l A B F T 40 l.length i := fun h => key.1 h ⟨k1, k2, k3, k4⟩
      repeat (first | first|apply CG.seq|apply CG.region|apply SG.nil|apply NG.next|apply CG.skip|apply CG.block|apply CG.ret|apply CG.exit|apply CG.scope|apply NG.ret_then|apply NG.ret_block|apply NG.ret_scope|apply NG.exit_then|refine NG.exit_block rfl ?_|refine NG.exit_other rfl ?_|apply NG.exit_scope|apply NG.normal_block|apply NG.normal_scope|refine SG.val rfl rfl rfl rfl (by first|((first|apply qmv|apply qas|apply qlc|apply qla|apply qfa|apply qnc|apply qic|apply qix|apply qpk|apply qls|apply qei|apply qni|apply qed|apply qnd|apply qad|apply qln|apply qle|apply qgt|apply qge|apply qlk|apply qlv|apply qxt|apply qsb|apply qnt|apply qep|apply qnp|apply qeb|apply qnb|apply qx2|apply qx4|apply qcv|apply qlm|apply qfr|apply qto|apply qmx|apply qen|apply qsn|apply qx5|apply qx4|apply qx3|apply qx2|apply qx1|apply qx0)<;>(first|exact rfl|exact Ar.mk (by omega)|assumption|exact dct (by assumption)|exact dcf (by assumption)|exact dct (by omega)|exact dcf (by omega)|exact List.not_mem_nil|exact dc_length _|exact nc_length _|exact rc_length _ _ _|exact nm1 (by omega)|exact nm2 (by omega) (by omega)|exact dct rfl|exact dct (by decide)|exact dcf (by decide)|exact (Int.toNat_of_nonneg (by omega)).symm|exact dcu|exact lk1 (by assumption)|exact lk0 (by assumption)))|fail) ?_ | refine SG.skip rfl rfl ?_)
      refine SG.val rfl rfl rfl rfl (vals_came rfl rfl (by omega) hm8 hC8 (dcf hc) List.not_mem_nil) ?_
      repeat (first | first|apply CG.seq|apply CG.region|apply SG.nil|apply NG.next|apply CG.skip|apply CG.block|apply CG.ret|apply CG.exit|apply CG.scope|apply NG.ret_then|apply NG.ret_block|apply NG.ret_scope|apply NG.exit_then|refine NG.exit_block rfl ?_|refine NG.exit_other rfl ?_|apply NG.exit_scope|apply NG.normal_block|apply NG.normal_scope|refine SG.val rfl rfl rfl rfl (by first|((first|apply qmv|apply qas|apply qlc|apply qla|apply qfa|apply qnc|apply qic|apply qix|apply qpk|apply qls|apply qei|apply qni|apply qed|apply qnd|apply qad|apply qln|apply qle|apply qgt|apply qge|apply qlk|apply qlv|apply qxt|apply qsb|apply qnt|apply qep|apply qnp|apply qeb|apply qnb|apply qx2|apply qx4|apply qcv|apply qlm|apply qfr|apply qto|apply qmx|apply qen|apply qsn|apply qx5|apply qx4|apply qx3|apply qx2|apply qx1|apply qx0)<;>(first|exact rfl|exact Ar.mk (by omega)|assumption|exact dct (by assumption)|exact dcf (by assumption)|exact dct (by omega)|exact dcf (by omega)|exact List.not_mem_nil|exact dc_length _|exact nc_length _|exact rc_length _ _ _|exact nm1 (by omega)|exact nm2 (by omega) (by omega)|exact dct rfl|exact dct (by decide)|exact dcf (by decide)|exact (Int.toNat_of_nonneg (by omega)).symm|exact dcu|exact lk1 (by assumption)|exact lk0 (by assumption)))|fail) ?_ | refine SG.skip rfl rfl ?_)
      refine CG.cond_f rfl (by exact rho_of rfl) rfl ?_
      repeat (first | first|apply CG.seq|apply CG.region|apply SG.nil|apply NG.next|apply CG.skip|apply CG.block|apply CG.ret|apply CG.exit|apply CG.scope|apply NG.ret_then|apply NG.ret_block|apply NG.ret_scope|apply NG.exit_then|refine NG.exit_block rfl ?_|refine NG.exit_other rfl ?_|apply NG.exit_scope|apply NG.normal_block|apply NG.normal_scope|refine SG.val rfl rfl rfl rfl (by first|((first|apply qmv|apply qas|apply qlc|apply qla|apply qfa|apply qnc|apply qic|apply qix|apply qpk|apply qls|apply qei|apply qni|apply qed|apply qnd|apply qad|apply qln|apply qle|apply qgt|apply qge|apply qlk|apply qlv|apply qxt|apply qsb|apply qnt|apply qep|apply qnp|apply qeb|apply qnb|apply qx2|apply qx4|apply qcv|apply qlm|apply qfr|apply qto|apply qmx|apply qen|apply qsn|apply qx5|apply qx4|apply qx3|apply qx2|apply qx1|apply qx0)<;>(first|exact rfl|exact Ar.mk (by omega)|assumption|exact dct (by assumption)|exact dcf (by assumption)|exact dct (by omega)|exact dcf (by omega)|exact List.not_mem_nil|exact dc_length _|exact nc_length _|exact rc_length _ _ _|exact nm1 (by omega)|exact nm2 (by omega) (by omega)|exact dct rfl|exact dct (by decide)|exact dcf (by decide)|exact (Int.toNat_of_nonneg (by omega)).symm|exact dcu|exact lk1 (by assumption)|exact lk0 (by assumption)))|fail) ?_ | refine SG.skip rfl rfl ?_)
      refine NG.round (i + 1) (by (repeat' (first | exact True.intro | exact rfl | refine And.intro ?_ ?_))) ⟨hlt, rfl⟩ (by omega)
  have g4 : ¬ (i : Int) < (l.length : Int) := by omega
  repeat (first|apply CG.seq|apply CG.region|apply SG.nil|apply NG.next|apply CG.skip|apply CG.block|apply CG.ret|apply CG.exit|apply CG.scope|apply NG.ret_then|apply NG.ret_block|apply NG.ret_scope|apply NG.exit_then|refine NG.exit_block rfl ?_|refine NG.exit_other rfl ?_|apply NG.exit_scope|apply NG.normal_block|apply NG.normal_scope|refine SG.val rfl rfl rfl rfl (by first|((first|apply qmv|apply qas|apply qlc|apply qla|apply qfa|apply qnc|apply qic|apply qix|apply qpk|apply qls|apply qei|apply qni|apply qed|apply qnd|apply qad|apply qln|apply qle|apply qgt|apply qge|apply qlk|apply qlv|apply qxt|apply qsb|apply qnt|apply qep|apply qnp|apply qeb|apply qnb|apply qx2|apply qx4|apply qcv|apply qlm|apply qfr|apply qto|apply qmx|apply qen|apply qsn|apply qx5|apply qx4|apply qx3|apply qx2|apply qx1|apply qx0)<;>(first|exact rfl|exact Ar.mk (by omega)|assumption|exact dct (by assumption)|exact dcf (by assumption)|exact dct (by omega)|exact dcf (by omega)|exact List.not_mem_nil|exact dc_length _|exact nc_length _|exact rc_length _ _ _|exact nm1 (by omega)|exact nm2 (by omega) (by omega)|exact dct rfl|exact dct (by decide)|exact dcf (by decide)|exact (Int.toNat_of_nonneg (by omega)).symm|exact dcu|exact lk1 (by assumption)|exact lk0 (by assumption)))|fail) ?_)
  refine CG.cond_f rfl (by exact rho_of rfl) rfl ?_
  repeat (first|apply CG.seq|apply CG.region|apply SG.nil|apply NG.next|apply CG.skip|apply CG.block|apply CG.ret|apply CG.exit|apply CG.scope|apply NG.ret_then|apply NG.ret_block|apply NG.ret_scope|apply NG.exit_then|refine NG.exit_block rfl ?_|refine NG.exit_other rfl ?_|apply NG.exit_scope|apply NG.normal_block|apply NG.normal_scope|refine SG.val rfl rfl rfl rfl (by first|((first|apply qmv|apply qas|apply qlc|apply qla|apply qfa|apply qnc|apply qic|apply qix|apply qpk|apply qls|apply qei|apply qni|apply qed|apply qnd|apply qad|apply qln|apply qle|apply qgt|apply qge|apply qlk|apply qlv|apply qxt|apply qsb|apply qnt|apply qep|apply qnp|apply qeb|apply qnb|apply qx2|apply qx4|apply qcv|apply qlm|apply qfr|apply qto|apply qmx|apply qen|apply qsn|apply qx5|apply qx4|apply qx3|apply qx2|apply qx1|apply qx0)<;>(first|exact rfl|exact Ar.mk (by omega)|assumption|exact dct (by assumption)|exact dcf (by assumption)|exact dct (by omega)|exact dcf (by omega)|exact List.not_mem_nil|exact dc_length _|exact nc_length _|exact rc_length _ _ _|exact nm1 (by omega)|exact nm2 (by omega) (by omega)|exact dct rfl|exact dct (by decide)|exact dcf (by decide)|exact (Int.toNat_of_nonneg (by omega)).symm|exact dcu|exact lk1 (by assumption)|exact lk0 (by assumption)))|fail) ?_)
  refine SG.ret rfl rfl rfl (by repeat' (first | exact True.intro | exact rho_of rfl | refine And.intro ?_ ?_)) (way_at hA8) (fun w10 hk10 => ?_)
  repeat (first | first|apply CG.seq|apply CG.region|apply SG.nil|apply NG.next|apply CG.skip|apply CG.block|apply CG.ret|apply CG.exit|apply CG.scope|apply NG.ret_then|apply NG.ret_block|apply NG.ret_scope|apply NG.exit_then|refine NG.exit_block rfl ?_|refine NG.exit_other rfl ?_|apply NG.exit_scope|apply NG.normal_block|apply NG.normal_scope|refine SG.val rfl rfl rfl rfl (by first|((first|apply qmv|apply qas|apply qlc|apply qla|apply qfa|apply qnc|apply qic|apply qix|apply qpk|apply qls|apply qei|apply qni|apply qed|apply qnd|apply qad|apply qln|apply qle|apply qgt|apply qge|apply qlk|apply qlv|apply qxt|apply qsb|apply qnt|apply qep|apply qnp|apply qeb|apply qnb|apply qx2|apply qx4|apply qcv|apply qlm|apply qfr|apply qto|apply qmx|apply qen|apply qsn|apply qx5|apply qx4|apply qx3|apply qx2|apply qx1|apply qx0)<;>(first|exact rfl|exact Ar.mk (by omega)|assumption|exact dct (by assumption)|exact dcf (by assumption)|exact dct (by omega)|exact dcf (by omega)|exact List.not_mem_nil|exact dc_length _|exact nc_length _|exact rc_length _ _ _|exact nm1 (by omega)|exact nm2 (by omega) (by omega)|exact dct rfl|exact dct (by decide)|exact dcf (by decide)|exact (Int.toNat_of_nonneg (by omega)).symm|exact dcu|exact lk1 (by assumption)|exact lk0 (by assumption)))|fail) ?_ | refine SG.skip rfl rfl ?_)
  refine SG.ret rfl rfl rfl (by repeat' (first | exact True.intro | exact rho_of rfl | refine And.intro ?_ ?_)) (told_spec w10) (fun w11 hk11 => ?_)
  repeat (first | first|apply CG.seq|apply CG.region|apply SG.nil|apply NG.next|apply CG.skip|apply CG.block|apply CG.ret|apply CG.exit|apply CG.scope|apply NG.ret_then|apply NG.ret_block|apply NG.ret_scope|apply NG.exit_then|refine NG.exit_block rfl ?_|refine NG.exit_other rfl ?_|apply NG.exit_scope|apply NG.normal_block|apply NG.normal_scope|refine SG.val rfl rfl rfl rfl (by first|((first|apply qmv|apply qas|apply qlc|apply qla|apply qfa|apply qnc|apply qic|apply qix|apply qpk|apply qls|apply qei|apply qni|apply qed|apply qnd|apply qad|apply qln|apply qle|apply qgt|apply qge|apply qlk|apply qlv|apply qxt|apply qsb|apply qnt|apply qep|apply qnp|apply qeb|apply qnb|apply qx2|apply qx4|apply qcv|apply qlm|apply qfr|apply qto|apply qmx|apply qen|apply qsn|apply qx5|apply qx4|apply qx3|apply qx2|apply qx1|apply qx0)<;>(first|exact rfl|exact Ar.mk (by omega)|assumption|exact dct (by assumption)|exact dcf (by assumption)|exact dct (by omega)|exact dcf (by omega)|exact List.not_mem_nil|exact dc_length _|exact nc_length _|exact rc_length _ _ _|exact nm1 (by omega)|exact nm2 (by omega) (by omega)|exact dct rfl|exact dct (by decide)|exact dcf (by decide)|exact (Int.toNat_of_nonneg (by omega)).symm|exact dcu|exact lk1 (by assumption)|exact lk0 (by assumption)))|fail) ?_ | refine SG.skip rfl rfl ?_)
  refine ret1 (Or.inl rfl) Try.results7 (by first | exact ResV.tmp rfl | exact ResV.agg rfl rfl (by assumption) (by first | exact dc_length _ | exact nc_length _ | exact rc_length _ _ _ | rfl) | exact ResV.cell rfl rfl (by assumption)) ?_
  exact ⟨rfl, ((hk02.trans hA8.kp).trans hk10).trans hk11⟩
end Go.Proofs.Ytfelaicoedlejaa
