/-
  A tick.
-/
import Derived.Test.YtfelaicoedlejaaGood
import Derived.Test.YtfelaicoedlejaaArr
namespace Go.Proofs.Ytfelaicoedlejaa
set_option linter.unusedVariables false

theorem qx0 {S : List Nat} {w0 : World} {F : World → Prop} {L : Env} {d : Option Nat} {ty : TypeId} {pos : String} {af : Array Edge} {g : Option (Nat × Bool)} {T E : TypeId} {n : Nat} [u : Ut Try.prog T (.array n E)] {sz : Nat} [f : Sz Try.prog E sz] {x y : Operand} {b off : Nat} {k : IntKind} {z : Int} {j : Nat} (hx : ro L x = some (.pointer (some ⟨b, off, none⟩))) (hy : ro L y = some (.int k z)) (hz : z = (j : Int)) (h1 : Ar (j < n)) :
    Vals Try.prog S w0 F L ⟨d, .indexAddr T x y, ty, pos, af, g⟩ (.pointer (some ⟨b, off + j * sz, none⟩)) := qia (u := u) (f := f) hx hy hz h1

theorem vals_tick {S : List Nat} {w0 : World} {F : World → Prop} {L : Env} {d : Option Nat} {tt : TypeId} {pos : String} {af : Array Edge} {g : Option (Nat × Bool)} {x y : Operand} {bm : Nat} {due : Due} {k : I64} {v : Value} (hx : ro L x = some (.map (some bm))) (hy : ro L y = some (iv k)) (h : MapIs w0 bm iv (fun q : Value × List Pc => q.1) due) (hv : (tick due k).1 = v) (hb : bm ∉ S) :
    Vals Try.prog S w0 F L ⟨d, .lookup 68 x y false, tt, pos, af, g⟩ v := by
  subst hv
  unfold tick
  cases hh : alook due k with
  | none => exact vals_lookv0 (V := fun q : Value × List Pc => q.1) (f := ty.i78) (rho_of hx) (rho_of hy) h hb (i64_key ty.u3.eq) rfl hh
  | some q => exact vals_lookv1 (V := fun q : Value × List Pc => q.1) (f := ty.i78) (z := .slice none 0 0) (rho_of hx) (rho_of hy) h hb (i64_key ty.u3.eq) rfl hh

/-- A letter in memory. -/
structure Lt where
  fr : Nat
  to : Nat
  bs : List UInt8
  a : Option Addr
  c : Nat
def lcl (l : Lt) : List Value := [.int .i64 l.fr, .int .i64 l.to, .slice l.a l.bs.length l.c]
theorem lcl_length (l : Lt) : (lcl l).length = 3 := rfl
def Ns.cutAt (s : Ns) (f t : Nat) : Bool := (s.cuts[f * 16 + t]?).getD false
def Ns.come (s : Ns) : List Cp := s.pend.filter (fun c => decide ((c.due : Int) = s.now))
def Ns.open_ (s : Ns) (l : List Cp) : List Cp := l.filter (fun c => !s.cutAt c.fr c.to)
def Ns.step (s : Ns) : Ns := { s with now := s.now + 1, pend := s.pend.filter (fun c => !decide ((c.due : Int) = s.now)) }
def ltc (l : Lt) : Nat × Nat × List UInt8 := (l.fr, l.to, l.bs)
def cpc (c : Cp) : Nat × Nat × List UInt8 := (c.fr, c.to, c.bs)
theorem bslice35 (w : World) (fr to : Int) (a : Option Addr) (n c : Nat) : (Instr.buildSlice 36 1 [(0, Value.agg #[.int .i64 fr, .int .i64 to, .slice a n c])].toArray).run Try.prog w = .ok (.slice (some ⟨w.heap.size, 0, none⟩) 1 1) { w with heap := w.heap.push (.cells #[.int .i64 fr, .int .i64 to, .slice a n c] 35) } := by kernel_rfl

theorem Rep.cut {w : World} {bt bm : Nat} {s : Ns} {due : Due} (h : Rep w bt bm s due) {f t : Nat} (hf : f < 16) (ht : t < 16) : Row w bt (5 + f * 16 + t * 1) [.bool (s.cutAt f t)] := by
  have hl := h.cl
  have hi : f * 16 + t < s.cuts.length := by omega
  refine Row.of h.blk ([.int .i64 s.parties, .int .i64 s.now, .int .i64 s.sent, .int .i64 s.pend.length, .map (some bm)] ++ (s.cuts.take (f * 16 + t)).map .bool) ((s.cuts.drop (f * 16 + t + 1)).map .bool) ?_ ?_
  · have e : s.cuts.map Value.bool = (s.cuts.take (f * 16 + t)).map .bool ++ ([.bool (s.cutAt f t)] ++ (s.cuts.drop (f * 16 + t + 1)).map .bool) := by
      have : s.cuts = s.cuts.take (f * 16 + t) ++ ([s.cutAt f t] ++ s.cuts.drop (f * 16 + t + 1)) := by
        unfold Ns.cutAt
        rw [List.getElem?_eq_getElem hi]
        simp
      conv => lhs; rw [this]
      simp only [List.map_append, List.map_cons, List.map_nil]
    simp only [ncl]
    rw [e]
    simp
  · simp
    omega

theorem ByAt.kpo {w w' : World} {base n sz : Nat} {T : TypeId} {v : Value} {xs : List Value} (ho : w.ownsRow base T sz v n xs) (hT : T ≠ 5) (hk : Kp (ownB v) w w') {a : Option Addr} {l : List UInt8} (h : ByAt w a l) : ByAt w' a l := fun i u hu => by
  obtain ⟨b, off, cs', e1, e2, e3⟩ := h i u hu
  refine ⟨b, off, cs', e1, e2.kp hk (fun hm => ?_), e3⟩
  obtain ⟨cs, hc⟩ := own_blk ho (mem_ownB.1 hm)
  exact ne_ty hT hc e2 rfl
theorem alook_filter {κ ν : Type} [DecidableEq κ] (m : List (κ × ν)) (x z : κ) : alook (m.filter (fun p => decide (p.1 ≠ x))) z = if z = x then none else alook m z := by
  induction m with
  | nil => simp [alook]
  | cons p m ih =>
    obtain ⟨k, v⟩ := p
    by_cases h1 : k = x
    · subst h1
      rw [List.filter_cons_of_neg (by simp), ih]
      by_cases h2 : z = k
      · rw [if_pos h2, if_pos h2]
      · rw [if_neg h2, if_neg h2]
        simp only [alook]
        rw [if_neg (fun e => h2 e.symm)]
    · rw [List.filter_cons_of_pos (by simpa using h1)]
      simp only [alook]
      by_cases h3 : k = z
      · subst h3
        rw [if_pos rfl, if_neg h1, if_pos rfl]
      · rw [if_neg h3, ih, if_neg h3]
theorem len_filter {α : Type} (q : α → Bool) (l : List α) : (l.filter q).length + (l.filter (fun x => !q x)).length = l.length := by
  induction l with
  | nil => rfl
  | cons x l ih =>
    cases h : q x <;> simp [h] <;> omega
theorem Rep.del {w w1 w2 : World} {bt bm : Nat} {s : Ns} {due : Due} (h : Rep w bt bm s due) (k : I64) (hk : k.1 = (s.now : Int)) (hk1 : Kp [bm] w w1) (hm1 : MapIs w1 bm iv (fun q : Value × List Pc => q.1) (due.filter (fun p => decide (p.1 ≠ k)))) (hk2 : Kp [bt] w1 w2) (hB : Blk w2 bt (.cells (ncl s.step bm).toArray 72)) :
    Rep w2 bt bm s.step (due.filter (fun p => decide (p.1 ≠ k))) := by
  obtain ⟨es, ec, hmb⟩ := h.map.blk
  have hne : bt ≠ bm := ne_map hmb h.blk
  have cells : ∀ {z : Nat} {cs : Array Value} {T : TypeId}, T ≠ 72 → Blk w z (.cells cs T) → z ∉ [bm] ∧ z ∉ [bt] := fun {z cs T} hT hz => by
    have n1 := ne_map hmb hz
    have n2 := ne_ty (fun e => hT e.symm) h.blk hz
    exact ⟨by simpa using n1, by simpa using n2⟩
  refine ⟨hB, h.cl, hm1.kp hk2 (by simpa using hne.symm), fun e he => ?_, fun e he e' he' => h.sep e (List.mem_filter.1 he).1 e' (List.mem_filter.1 he').1, fun e he p hp i u hu => ?_, fun k' => ?_⟩
  · have ho := h.own e (List.mem_filter.1 he).1
    refine own_kp (own_kp ho hk1 (fun b hb => ?_)) hk2 (fun b hb => ?_)
    · obtain ⟨cs, hc⟩ := own_blk ho hb
      exact (cells (by decide) hc).1
    · obtain ⟨cs, hc⟩ := own_blk ho hb
      exact (cells (by decide) hc).2
  · obtain ⟨b, off, cs, e1, e2, e3⟩ := h.byt e (List.mem_filter.1 he).1 p hp i u hu
    have hn := cells (by decide) e2
    exact ⟨b, off, cs, e1, (e2.kp hk1 hn.1).kp hk2 hn.2, e3⟩
  · rw [alook_filter]
    have hat := h.at_ k'
    simp only [Ns.step, List.filter_filter]
    by_cases e : k' = k
    · rw [if_pos e]
      symm
      apply List.filter_eq_nil_iff.2
      intro c _
      rw [e, hk]
      simp
    · rw [if_neg e, hat]
      apply List.filter_congr
      intro c _
      have hne' : k'.1 ≠ (s.now : Int) := fun h => e (Subtype.ext (by rw [h, hk]))
      by_cases h1 : (c.due : Int) = k'.1
      · have : ¬ (c.due : Int) = (s.now : Int) := by omega
        simp only [h1] at this ⊢
        simp [this]
      · simp [h1]
theorem uses_del {bt bm : Nat} {due : Due} {q : I64 × (Value × List Pc) → Bool} {z : Nat} (h : Uses bt bm (due.filter q) z) : Uses bt bm due z := by
  rcases h with h | h | ⟨e, he, h⟩ | ⟨e, he, p, hp, h⟩
  · exact Or.inl h
  · exact Or.inr (Or.inl h)
  · exact Or.inr (Or.inr (Or.inl ⟨e, (List.mem_filter.1 he).1, h⟩))
  · exact Or.inr (Or.inr (Or.inr ⟨e, (List.mem_filter.1 he).1, p, hp, h⟩))

attribute [local irreducible] CG NG SG Vals Der Row Blk MapIs IterAt DerX
set_option maxHeartbeats 8000000 in
theorem step_spec {w : World} {bt bm : Nat} {s : Ns} {due : Due} (hR : Rep w bt bm s due) (hnow : s.now ≤ 1000000000000) (hpl : s.pend.length ≤ 4096) (hin : ∀ c ∈ s.pend, c.fr < 16 ∧ c.to < 16 ∧ c.bs.length ≤ 65536) : Calls Try.prog 14 #[.pointer (some ⟨bt, 0, none⟩)] w (fun e w' => ∃ v due' ls, e = .returned v ∧ w'.ownsRow w.heap.size 35 3 v ls.length (flt lcl ls) ∧ ls.map ltc = (s.open_ s.come).map cpc
    ∧ (∀ l ∈ ls, ByAt w' l.a l.bs ∧ ∀ b off, l.a = some ⟨b, off, none⟩ → w.heap.size ≤ b) ∧ Rep w' bt bm s.step due' ∧ (∀ z, Uses bt bm due' z → Uses bt bm due z) ∧ Kp [bt, bm] w w') := by
  obtain ⟨k, hk⟩ : ∃ k : I64, k.1 = (s.now : Int) := ⟨⟨(s.now : Int), by omega, by omega⟩, rfl⟩
  have hown := hR.own_tick k
  have htc : (tick due k).2.map (·.cp) = s.come := by
    have h := hR.at_ k
    have e : ((alook due k).map (fun q => q.2)).getD [] = (tick due k).2 := by
      unfold tick
      cases alook due k <;> rfl
    rw [e, hk] at h
    exact h
  have htl : (tick due k).2.length ≤ s.pend.length := by
    have h := congrArg List.length htc
    rw [List.length_map] at h
    rw [h]
    exact List.length_filter_le _ _
  obtain ⟨tl, htl0⟩ : ∃ tl, tl = (tick due k).2 := ⟨_, rfl⟩
  have htin : ∀ p ∈ tl, p.cp.fr < 16 ∧ p.cp.to < 16 ∧ p.cp.bs.length ≤ 65536 ∧ ByAt w p.a p.cp.bs := fun p hp => by
    rw [htl0] at hp
    have h1 : p.cp ∈ s.come := by rw [← htc]; exact List.mem_map.2 ⟨p, hp, rfl⟩
    have h2 := hin _ (List.mem_filter.1 h1).1
    refine ⟨h2.1, h2.2.1, h2.2.2, ?_⟩
    unfold tick at hp
    cases hh : alook due k with
    | none => rw [hh] at hp; cases hp
    | some q => rw [hh] at hp; exact hR.byt (k, q) (alook_mem hh) p hp
  have htv : (alook due k = none ∧ (tick due k).1 = .slice none 0 0) ∨ ∃ q, alook due k = some q ∧ (tick due k).1 = q.1 := by
    unfold tick
    cases alook due k with
    | none => exact Or.inl ⟨rfl, rfl⟩
    | some q => exact Or.inr ⟨q, rfl, rfl⟩
  obtain ⟨ta, tc, htv1, htS⟩ := SlF.own pcl_length hown rfl
  rw [← htl0] at htv1 htS htc htl
  refine enter1 Try.func14 rfl Try.ntmps14 rfl ?_
  have hr1 := hR.r1
  have hr4 := hR.r4
  have hm := hR.map
  rw [← hk] at hr1
  repeat (first|apply CG.seq|apply CG.region|apply SG.nil|apply NG.next|apply CG.skip|apply CG.block|apply CG.ret|apply CG.exit|apply CG.scope|apply NG.ret_then|apply NG.ret_block|apply NG.ret_scope|apply NG.exit_then|refine NG.exit_block rfl ?_|refine NG.exit_other rfl ?_|apply NG.exit_scope|apply NG.normal_block|apply NG.normal_scope|refine SG.val rfl rfl rfl rfl (by first|((first|apply qmv|apply qas|apply qlc|apply qla|apply qfa|apply qnc|apply qic|apply qix|apply qpk|apply qls|apply qei|apply qni|apply qed|apply qnd|apply qad|apply qln|apply qle|apply qgt|apply qge|apply qlk|apply qlv|apply qxt|apply qsb|apply qnt|apply qep|apply qnp|apply qeb|apply qnb|apply qcv|apply qlm|apply qfr|apply qto|apply qmx|apply qen|apply qsn|apply qx0)<;>(first|exact rfl|exact Ar.mk (by omega)|assumption|exact dct (by assumption)|exact dcf (by assumption)|exact dct (by omega)|exact dcf (by omega)|exact List.not_mem_nil|exact dc_length _|exact nc_length _|exact rc_length _ _ _|exact nm1 (by omega)|exact nm2 (by omega) (by omega)|exact dct rfl|exact dct (by decide)|exact dcf (by decide)|exact (Int.toNat_of_nonneg (by omega)).symm|exact dcu|exact lk1 (by assumption)|exact lk0 (by assumption)))|fail) ?_)
  refine CG.cond_f rfl (by exact rho_of rfl) rfl ?_
  repeat (first|apply CG.seq|apply CG.region|apply SG.nil|apply NG.next|apply CG.skip|apply CG.block|apply CG.ret|apply CG.exit|apply CG.scope|apply NG.ret_then|apply NG.ret_block|apply NG.ret_scope|apply NG.exit_then|refine NG.exit_block rfl ?_|refine NG.exit_other rfl ?_|apply NG.exit_scope|apply NG.normal_block|apply NG.normal_scope|refine SG.val rfl rfl rfl rfl (by first|((first|apply qmv|apply qas|apply qlc|apply qla|apply qfa|apply qnc|apply qic|apply qix|apply qpk|apply qls|apply qei|apply qni|apply qed|apply qnd|apply qad|apply qln|apply qle|apply qgt|apply qge|apply qlk|apply qlv|apply qxt|apply qsb|apply qnt|apply qep|apply qnp|apply qeb|apply qnb|apply qcv|apply qlm|apply qfr|apply qto|apply qmx|apply qen|apply qsn|apply qx0)<;>(first|exact rfl|exact Ar.mk (by omega)|assumption|exact dct (by assumption)|exact dcf (by assumption)|exact dct (by omega)|exact dcf (by omega)|exact List.not_mem_nil|exact dc_length _|exact nc_length _|exact rc_length _ _ _|exact nm1 (by omega)|exact nm2 (by omega) (by omega)|exact dct rfl|exact dct (by decide)|exact dcf (by decide)|exact (Int.toNat_of_nonneg (by omega)).symm|exact dcu|exact lk1 (by assumption)|exact lk0 (by assumption)))|fail) ?_)
  refine CG.draw0 mixed [0, 1, 2, 3, 4, 5, 6, 7, 8, 9] [] (by kernel_rfl) ?_
  repeat (refine Der.val rfl rfl rfl (by first|((first|apply qmv|apply qas|apply qlc|apply qla|apply qfa|apply qnc|apply qic|apply qix|apply qpk|apply qls|apply qei|apply qni|apply qed|apply qnd|apply qad|apply qln|apply qle|apply qgt|apply qge|apply qlk|apply qlv|apply qxt|apply qsb|apply qnt|apply qep|apply qnp|apply qeb|apply qnb|apply qcv|apply qlm|apply qfr|apply qto|apply qmx|apply qen|apply qsn|apply qx0)<;>(first|exact rfl|exact Ar.mk (by omega)|assumption|exact dct (by assumption)|exact dcf (by assumption)|exact dct (by omega)|exact dcf (by omega)|exact List.not_mem_nil|exact dc_length _|exact nc_length _|exact rc_length _ _ _|exact nm1 (by omega)|exact nm2 (by omega) (by omega)|exact dct rfl|exact dct (by decide)|exact dcf (by decide)|exact (Int.toNat_of_nonneg (by omega)).symm|exact dcu|exact lk1 (by assumption)|exact lk0 (by assumption)))|fail) ?_)
  refine Der.val rfl rfl rfl (vals_tick (k := k) rfl rfl hm htv1 List.not_mem_nil) ?_
  repeat (refine Der.val rfl rfl rfl (by first|((first|apply qmv|apply qas|apply qlc|apply qla|apply qfa|apply qnc|apply qic|apply qix|apply qpk|apply qls|apply qei|apply qni|apply qed|apply qnd|apply qad|apply qln|apply qle|apply qgt|apply qge|apply qlk|apply qlv|apply qxt|apply qsb|apply qnt|apply qep|apply qnp|apply qeb|apply qnb|apply qcv|apply qlm|apply qfr|apply qto|apply qmx|apply qen|apply qsn|apply qx0)<;>(first|exact rfl|exact Ar.mk (by omega)|assumption|exact dct (by assumption)|exact dcf (by assumption)|exact dct (by omega)|exact dcf (by omega)|exact List.not_mem_nil|exact dc_length _|exact nc_length _|exact rc_length _ _ _|exact nm1 (by omega)|exact nm2 (by omega) (by omega)|exact dct rfl|exact dct (by decide)|exact dcf (by decide)|exact (Int.toNat_of_nonneg (by omega)).symm|exact dcu|exact lk1 (by assumption)|exact lk0 (by assumption)))|fail) ?_)
  refine Der.fin (fun w1 hk1 _ _ => ?_)
  repeat (first|apply CG.seq|apply CG.region|apply SG.nil|apply NG.next|apply CG.skip|apply CG.block|apply CG.ret|apply CG.exit|apply CG.scope|apply NG.ret_then|apply NG.ret_block|apply NG.ret_scope|apply NG.exit_then|refine NG.exit_block rfl ?_|refine NG.exit_other rfl ?_|apply NG.exit_scope|apply NG.normal_block|apply NG.normal_scope|refine SG.val rfl rfl rfl rfl (by first|((first|apply qmv|apply qas|apply qlc|apply qla|apply qfa|apply qnc|apply qic|apply qix|apply qpk|apply qls|apply qei|apply qni|apply qed|apply qnd|apply qad|apply qln|apply qle|apply qgt|apply qge|apply qlk|apply qlv|apply qxt|apply qsb|apply qnt|apply qep|apply qnp|apply qeb|apply qnb|apply qcv|apply qlm|apply qfr|apply qto|apply qmx|apply qen|apply qsn|apply qx0)<;>(first|exact rfl|exact Ar.mk (by omega)|assumption|exact dct (by assumption)|exact dcf (by assumption)|exact dct (by omega)|exact dcf (by omega)|exact List.not_mem_nil|exact dc_length _|exact nc_length _|exact rc_length _ _ _|exact nm1 (by omega)|exact nm2 (by omega) (by omega)|exact dct rfl|exact dct (by decide)|exact dcf (by decide)|exact (Int.toNat_of_nonneg (by omega)).symm|exact dcu|exact lk1 (by assumption)|exact lk0 (by assumption)))|fail) ?_)
  refine CG.label ?_
  repeat (first|apply CG.seq|apply CG.region|apply SG.nil|apply NG.next|apply CG.skip|apply CG.block|apply CG.ret|apply CG.exit|apply CG.scope|apply NG.ret_then|apply NG.ret_block|apply NG.ret_scope|apply NG.exit_then|refine NG.exit_block rfl ?_|refine NG.exit_other rfl ?_|apply NG.exit_scope|apply NG.normal_block|apply NG.normal_scope|refine SG.val rfl rfl rfl rfl (by first|((first|apply qmv|apply qas|apply qlc|apply qla|apply qfa|apply qnc|apply qic|apply qix|apply qpk|apply qls|apply qei|apply qni|apply qed|apply qnd|apply qad|apply qln|apply qle|apply qgt|apply qge|apply qlk|apply qlv|apply qxt|apply qsb|apply qnt|apply qep|apply qnp|apply qeb|apply qnb|apply qcv|apply qlm|apply qfr|apply qto|apply qmx|apply qen|apply qsn|apply qx0)<;>(first|exact rfl|exact Ar.mk (by omega)|assumption|exact dct (by assumption)|exact dcf (by assumption)|exact dct (by omega)|exact dcf (by omega)|exact List.not_mem_nil|exact dc_length _|exact nc_length _|exact rc_length _ _ _|exact nm1 (by omega)|exact nm2 (by omega) (by omega)|exact dct rfl|exact dct (by decide)|exact dcf (by decide)|exact (Int.toNat_of_nonneg (by omega)).symm|exact dcu|exact lk1 (by assumption)|exact lk0 (by assumption)))|fail) ?_)
  refine CG.loop (X := Nat × Value) (fun q => [(0, .pointer (some ⟨bt, 0, none⟩)), (3, q.2), (4, .slice ta tl.length tc), (19, .slice ta tl.length tc), (20, .int .i64 tl.length), (21, .int .i64 (q.1 : Int))])
    (fun q w' => q.1 ≤ tl.length ∧ ∃ ls : List Lt, ls.length ≤ q.1 ∧ w'.ownsRow w.heap.size 35 3 q.2 ls.length (flt lcl ls) ∧ ls.map ltc = (s.open_ ((tl.take q.1).map (·.cp))).map cpc ∧ (∀ l ∈ ls, ByAt w' l.a l.bs ∧ ∀ b off, l.a = some ⟨b, off, none⟩ → w.heap.size ≤ b) ∧ Kp [] w w')
    (fun q => tl.length - q.1) (0, .slice none 0 0) ⟨Nat.zero_le _, [], Nat.le_refl _, own_nil, rfl, by simp, hk1⟩ (by (repeat' (first | exact True.intro | exact rfl | refine And.intro ?_ ?_))) ?_
  rintro ⟨i, v⟩ w2 ⟨hi, ls, hlen, hv, hls, hlb, hk2⟩
  refine CG.to [(0, .pointer (some ⟨bt, 0, none⟩)), (3, v), (4, .slice ta tl.length tc), (19, .slice ta tl.length tc), (20, .int .i64 tl.length), (21, .int .i64 (i : Int))] (by (repeat' (first | exact True.intro | exact rfl | refine And.intro ?_ ?_))) ?_
  have hi : i ≤ tl.length := hi
  have hR2 := hR.kp0 hk2
  by_cases hlt : i < tl.length
  · have g1 : (i : Int) < (tl.length : Int) := by omega
    obtain ⟨ba, oa, rfl, hr⟩ := (htS.sl.kp0 hk2).at hlt
    obtain ⟨p, hp⟩ : ∃ p, p = tl[i] := ⟨_, rfl⟩
    rw [← hp] at hr
    have hpm : p ∈ tl := by rw [hp]; exact List.getElem_mem hlt
    obtain ⟨hp1, hp2, hp3, hp4⟩ := htin p hpm
    have hr : Row w2 ba (oa + i * 5) [.int .i64 p.cp.fr, .int .i64 p.cp.to, .slice p.a p.cp.bs.length p.c, .int .i64 p.sent, .int .i64 p.cp.due] := hr
    repeat (first|apply CG.seq|apply CG.region|apply SG.nil|apply NG.next|apply CG.skip|apply CG.block|apply CG.ret|apply CG.exit|apply CG.scope|apply NG.ret_then|apply NG.ret_block|apply NG.ret_scope|apply NG.exit_then|refine NG.exit_block rfl ?_|refine NG.exit_other rfl ?_|apply NG.exit_scope|apply NG.normal_block|apply NG.normal_scope|refine SG.val rfl rfl rfl rfl (by first|((first|apply qmv|apply qas|apply qlc|apply qla|apply qfa|apply qnc|apply qic|apply qix|apply qpk|apply qls|apply qei|apply qni|apply qed|apply qnd|apply qad|apply qln|apply qle|apply qgt|apply qge|apply qlk|apply qlv|apply qxt|apply qsb|apply qnt|apply qep|apply qnp|apply qeb|apply qnb|apply qcv|apply qlm|apply qfr|apply qto|apply qmx|apply qen|apply qsn|apply qx0)<;>(first|exact rfl|exact Ar.mk (by omega)|assumption|exact dct (by assumption)|exact dcf (by assumption)|exact dct (by omega)|exact dcf (by omega)|exact List.not_mem_nil|exact dc_length _|exact nc_length _|exact rc_length _ _ _|exact nm1 (by omega)|exact nm2 (by omega) (by omega)|exact dct rfl|exact dct (by decide)|exact dcf (by decide)|exact (Int.toNat_of_nonneg (by omega)).symm|exact dcu|exact lk1 (by assumption)|exact lk0 (by assumption)))|fail) ?_)
    refine CG.cond_t rfl (by exact rho_of rfl) rfl ?_
    repeat (first|apply CG.seq|apply CG.region|apply SG.nil|apply NG.next|apply CG.skip|apply CG.block|apply CG.ret|apply CG.exit|apply CG.scope|apply NG.ret_then|apply NG.ret_block|apply NG.ret_scope|apply NG.exit_then|refine NG.exit_block rfl ?_|refine NG.exit_other rfl ?_|apply NG.exit_scope|apply NG.normal_block|apply NG.normal_scope|refine SG.val rfl rfl rfl rfl (by first|((first|apply qmv|apply qas|apply qlc|apply qla|apply qfa|apply qnc|apply qic|apply qix|apply qpk|apply qls|apply qei|apply qni|apply qed|apply qnd|apply qad|apply qln|apply qle|apply qgt|apply qge|apply qlk|apply qlv|apply qxt|apply qsb|apply qnt|apply qep|apply qnp|apply qeb|apply qnb|apply qcv|apply qlm|apply qfr|apply qto|apply qmx|apply qen|apply qsn|apply qx0)<;>(first|exact rfl|exact Ar.mk (by omega)|assumption|exact dct (by assumption)|exact dcf (by assumption)|exact dct (by omega)|exact dcf (by omega)|exact List.not_mem_nil|exact dc_length _|exact nc_length _|exact rc_length _ _ _|exact nm1 (by omega)|exact nm2 (by omega) (by omega)|exact dct rfl|exact dct (by decide)|exact dcf (by decide)|exact (Int.toNat_of_nonneg (by omega)).symm|exact dcu|exact lk1 (by assumption)|exact lk0 (by assumption)))|fail) ?_)
    refine SG.alloc rfl rfl rfl (fun b6 w3 hk3 hb6 hB6 => ?_)
    refine SG.setAll (old := [.int .i64 0, .int .i64 0, .slice none 0 0, .int .i64 0, .int .i64 0]) rfl rfl (by exact rho_of rfl) (by exact rho_of rfl) hB6 rfl rfl rfl (fun w4 hk4 hB6 => ?_)
    have hk34 : Kp [] w2 w4 := hk3.trans_new hk4 (by first | exact new1 (by omega) | exact new2 (by omega) (by omega))
    have hk04 := hk2.trans hk34
    have hR4 := hR.kp0 hk04
    have hcut := hR4.cut hp1 hp2
    have q0 : Row w4 b6 0 [.int .i64 p.cp.fr] := Row.of hB6 [] [.int .i64 p.cp.to, .slice p.a p.cp.bs.length p.c, .int .i64 p.sent, .int .i64 p.cp.due] rfl rfl
    have q1 : Row w4 b6 1 [.int .i64 p.cp.to] := Row.of hB6 [.int .i64 p.cp.fr] [.slice p.a p.cp.bs.length p.c, .int .i64 p.sent, .int .i64 p.cp.due] rfl rfl
    have q2 : Row w4 b6 2 [.slice p.a p.cp.bs.length p.c] := Row.of hB6 [.int .i64 p.cp.fr, .int .i64 p.cp.to] [.int .i64 p.sent, .int .i64 p.cp.due] rfl rfl
    have q3 : Row w4 b6 0 [.int .i64 p.cp.fr, .int .i64 p.cp.to, .slice p.a p.cp.bs.length p.c] := Row.of hB6 [] [.int .i64 p.sent, .int .i64 p.cp.due] rfl rfl
    repeat (first|apply CG.seq|apply CG.region|apply SG.nil|apply NG.next|apply CG.skip|apply CG.block|apply CG.ret|apply CG.exit|apply CG.scope|apply NG.ret_then|apply NG.ret_block|apply NG.ret_scope|apply NG.exit_then|refine NG.exit_block rfl ?_|refine NG.exit_other rfl ?_|apply NG.exit_scope|apply NG.normal_block|apply NG.normal_scope|refine SG.val rfl rfl rfl rfl (by first|((first|apply qmv|apply qas|apply qlc|apply qla|apply qfa|apply qnc|apply qic|apply qix|apply qpk|apply qls|apply qei|apply qni|apply qed|apply qnd|apply qad|apply qln|apply qle|apply qgt|apply qge|apply qlk|apply qlv|apply qxt|apply qsb|apply qnt|apply qep|apply qnp|apply qeb|apply qnb|apply qcv|apply qlm|apply qfr|apply qto|apply qmx|apply qen|apply qsn|apply qx0)<;>(first|exact rfl|exact Ar.mk (by omega)|assumption|exact dct (by assumption)|exact dcf (by assumption)|exact dct (by omega)|exact dcf (by omega)|exact List.not_mem_nil|exact dc_length _|exact nc_length _|exact rc_length _ _ _|exact nm1 (by omega)|exact nm2 (by omega) (by omega)|exact dct rfl|exact dct (by decide)|exact dcf (by decide)|exact (Int.toNat_of_nonneg (by omega)).symm|exact dcu|exact lk1 (by assumption)|exact lk0 (by assumption)))|fail) ?_)
    refine CG.draw0 mixed [0, 1, 2, 3, 4, 5, 6, 7, 8, 9, 10, 11] [] (by kernel_rfl) ?_
    repeat (refine Der.val rfl rfl rfl (by first|((first|apply qmv|apply qas|apply qlc|apply qla|apply qfa|apply qnc|apply qic|apply qix|apply qpk|apply qls|apply qei|apply qni|apply qed|apply qnd|apply qad|apply qln|apply qle|apply qgt|apply qge|apply qlk|apply qlv|apply qxt|apply qsb|apply qnt|apply qep|apply qnp|apply qeb|apply qnb|apply qcv|apply qlm|apply qfr|apply qto|apply qmx|apply qen|apply qsn|apply qx0)<;>(first|exact rfl|exact Ar.mk (by omega)|assumption|exact dct (by assumption)|exact dcf (by assumption)|exact dct (by omega)|exact dcf (by omega)|exact List.not_mem_nil|exact dc_length _|exact nc_length _|exact rc_length _ _ _|exact nm1 (by omega)|exact nm2 (by omega) (by omega)|exact dct rfl|exact dct (by decide)|exact dcf (by decide)|exact (Int.toNat_of_nonneg (by omega)).symm|exact dcu|exact lk1 (by assumption)|exact lk0 (by assumption)))|fail) ?_)
    refine Der.fin (fun w5 hk5 _ _ => ?_)
    have hk05 := hk04.trans hk5
    have hv5 := own_kp0 (own_kp0 hv hk34) hk5
    have hlb5 : ∀ l ∈ ls, ByAt w5 l.a l.bs ∧ ∀ b off, l.a = some ⟨b, off, none⟩ → w.heap.size ≤ b := fun l hl => ⟨((hlb l hl).1.kp hk34 (by simp)).kp hk5 (by simp), (hlb l hl).2⟩
    have hto : (tl.take (i + 1)).map (·.cp) = (tl.take i).map (·.cp) ++ [p.cp] := by
      rw [List.take_add_one, List.getElem?_eq_getElem hlt, ← hp]
      simp
    cases hc : s.cutAt p.cp.fr p.cp.to with
    | true =>
      repeat (first|apply CG.seq|apply CG.region|apply SG.nil|apply NG.next|apply CG.skip|apply CG.block|apply CG.ret|apply CG.exit|apply CG.scope|apply NG.ret_then|apply NG.ret_block|apply NG.ret_scope|apply NG.exit_then|refine NG.exit_block rfl ?_|refine NG.exit_other rfl ?_|apply NG.exit_scope|apply NG.normal_block|apply NG.normal_scope|refine SG.val rfl rfl rfl rfl (by first|((first|apply qmv|apply qas|apply qlc|apply qla|apply qfa|apply qnc|apply qic|apply qix|apply qpk|apply qls|apply qei|apply qni|apply qed|apply qnd|apply qad|apply qln|apply qle|apply qgt|apply qge|apply qlk|apply qlv|apply qxt|apply qsb|apply qnt|apply qep|apply qnp|apply qeb|apply qnb|apply qcv|apply qlm|apply qfr|apply qto|apply qmx|apply qen|apply qsn|apply qx0)<;>(first|exact rfl|exact Ar.mk (by omega)|assumption|exact dct (by assumption)|exact dcf (by assumption)|exact dct (by omega)|exact dcf (by omega)|exact List.not_mem_nil|exact dc_length _|exact nc_length _|exact rc_length _ _ _|exact nm1 (by omega)|exact nm2 (by omega) (by omega)|exact dct rfl|exact dct (by decide)|exact dcf (by decide)|exact (Int.toNat_of_nonneg (by omega)).symm|exact dcu|exact lk1 (by assumption)|exact lk0 (by assumption)))|fail) ?_)
      refine CG.cond_t rfl (by exact rho_of rfl) rfl ?_
      repeat (first|apply CG.seq|apply CG.region|apply SG.nil|apply NG.next|apply CG.skip|apply CG.block|apply CG.ret|apply CG.exit|apply CG.scope|apply NG.ret_then|apply NG.ret_block|apply NG.ret_scope|apply NG.exit_then|refine NG.exit_block rfl ?_|refine NG.exit_other rfl ?_|apply NG.exit_scope|apply NG.normal_block|apply NG.normal_scope|refine SG.val rfl rfl rfl rfl (by first|((first|apply qmv|apply qas|apply qlc|apply qla|apply qfa|apply qnc|apply qic|apply qix|apply qpk|apply qls|apply qei|apply qni|apply qed|apply qnd|apply qad|apply qln|apply qle|apply qgt|apply qge|apply qlk|apply qlv|apply qxt|apply qsb|apply qnt|apply qep|apply qnp|apply qeb|apply qnb|apply qcv|apply qlm|apply qfr|apply qto|apply qmx|apply qen|apply qsn|apply qx0)<;>(first|exact rfl|exact Ar.mk (by omega)|assumption|exact dct (by assumption)|exact dcf (by assumption)|exact dct (by omega)|exact dcf (by omega)|exact List.not_mem_nil|exact dc_length _|exact nc_length _|exact rc_length _ _ _|exact nm1 (by omega)|exact nm2 (by omega) (by omega)|exact dct rfl|exact dct (by decide)|exact dcf (by decide)|exact (Int.toNat_of_nonneg (by omega)).symm|exact dcu|exact lk1 (by assumption)|exact lk0 (by assumption)))|fail) ?_)
      refine NG.round (i + 1, v) (by (repeat' (first | exact True.intro | exact rfl | refine And.intro ?_ ?_))) ⟨hlt, ls, Nat.le_succ_of_le hlen, hv5, ?_, hlb5, hk05⟩ (by show tl.length - (i + 1) < tl.length - i; omega)
      show _ = (s.open_ ((tl.take (i + 1)).map (·.cp))).map cpc
      rw [hto]
      simp only [Ns.open_, List.filter_append] at hls ⊢
      rw [hls]
      simp [hc]
    | false =>
      repeat (first|apply CG.seq|apply CG.region|apply SG.nil|apply NG.next|apply CG.skip|apply CG.block|apply CG.ret|apply CG.exit|apply CG.scope|apply NG.ret_then|apply NG.ret_block|apply NG.ret_scope|apply NG.exit_then|refine NG.exit_block rfl ?_|refine NG.exit_other rfl ?_|apply NG.exit_scope|apply NG.normal_block|apply NG.normal_scope|refine SG.val rfl rfl rfl rfl (by first|((first|apply qmv|apply qas|apply qlc|apply qla|apply qfa|apply qnc|apply qic|apply qix|apply qpk|apply qls|apply qei|apply qni|apply qed|apply qnd|apply qad|apply qln|apply qle|apply qgt|apply qge|apply qlk|apply qlv|apply qxt|apply qsb|apply qnt|apply qep|apply qnp|apply qeb|apply qnb|apply qcv|apply qlm|apply qfr|apply qto|apply qmx|apply qen|apply qsn|apply qx0)<;>(first|exact rfl|exact Ar.mk (by omega)|assumption|exact dct (by assumption)|exact dcf (by assumption)|exact dct (by omega)|exact dcf (by omega)|exact List.not_mem_nil|exact dc_length _|exact nc_length _|exact rc_length _ _ _|exact nm1 (by omega)|exact nm2 (by omega) (by omega)|exact dct rfl|exact dct (by decide)|exact dcf (by decide)|exact (Int.toNat_of_nonneg (by omega)).symm|exact dcu|exact lk1 (by assumption)|exact lk0 (by assumption)))|fail) ?_)
      refine CG.cond_f rfl (by exact rho_of rfl) rfl ?_
      have q0 := q0.kp0 hk5
      have q2 := q2.kp0 hk5
      have q3 := q3.kp0 hk5
      repeat (first|apply CG.seq|apply CG.region|apply SG.nil|apply NG.next|apply CG.skip|apply CG.block|apply CG.ret|apply CG.exit|apply CG.scope|apply NG.ret_then|apply NG.ret_block|apply NG.ret_scope|apply NG.exit_then|refine NG.exit_block rfl ?_|refine NG.exit_other rfl ?_|apply NG.exit_scope|apply NG.normal_block|apply NG.normal_scope|refine SG.val rfl rfl rfl rfl (by first|((first|apply qmv|apply qas|apply qlc|apply qla|apply qfa|apply qnc|apply qic|apply qix|apply qpk|apply qls|apply qei|apply qni|apply qed|apply qnd|apply qad|apply qln|apply qle|apply qgt|apply qge|apply qlk|apply qlv|apply qxt|apply qsb|apply qnt|apply qep|apply qnp|apply qeb|apply qnb|apply qcv|apply qlm|apply qfr|apply qto|apply qmx|apply qen|apply qsn|apply qx0)<;>(first|exact rfl|exact Ar.mk (by omega)|assumption|exact dct (by assumption)|exact dcf (by assumption)|exact dct (by omega)|exact dcf (by omega)|exact List.not_mem_nil|exact dc_length _|exact nc_length _|exact rc_length _ _ _|exact nm1 (by omega)|exact nm2 (by omega) (by omega)|exact dct rfl|exact dct (by decide)|exact dcf (by decide)|exact (Int.toNat_of_nonneg (by omega)).symm|exact dcu|exact lk1 (by assumption)|exact lk0 (by assumption)))|fail) ?_)
      refine SG.alloc rfl rfl rfl (fun b7 w6 hk6 hb7 hB7 => ?_)
      refine SG.setAll (old := [.int .i64 0, .int .i64 0, .slice none 0 0]) rfl rfl (by exact rho_of rfl) (by exact rho_of rfl) hB7 rfl rfl rfl (fun w7 hk7 hB7 => ?_)
      have hk67 : Kp [] w5 w7 := hk6.trans_new hk7 (by first | exact new1 (by omega) | exact new2 (by omega) (by omega))
      have hk07 := hk05.trans hk67
      have q2 := q2.kp0 hk67
      repeat (first|apply CG.seq|apply CG.region|apply SG.nil|apply NG.next|apply CG.skip|apply CG.block|apply CG.ret|apply CG.exit|apply CG.scope|apply NG.ret_then|apply NG.ret_block|apply NG.ret_scope|apply NG.exit_then|refine NG.exit_block rfl ?_|refine NG.exit_other rfl ?_|apply NG.exit_scope|apply NG.normal_block|apply NG.normal_scope|refine SG.val rfl rfl rfl rfl (by first|((first|apply qmv|apply qas|apply qlc|apply qla|apply qfa|apply qnc|apply qic|apply qix|apply qpk|apply qls|apply qei|apply qni|apply qed|apply qnd|apply qad|apply qln|apply qle|apply qgt|apply qge|apply qlk|apply qlv|apply qxt|apply qsb|apply qnt|apply qep|apply qnp|apply qeb|apply qnb|apply qcv|apply qlm|apply qfr|apply qto|apply qmx|apply qen|apply qsn|apply qx0)<;>(first|exact rfl|exact Ar.mk (by omega)|assumption|exact dct (by assumption)|exact dcf (by assumption)|exact dct (by omega)|exact dcf (by omega)|exact List.not_mem_nil|exact dc_length _|exact nc_length _|exact rc_length _ _ _|exact nm1 (by omega)|exact nm2 (by omega) (by omega)|exact dct rfl|exact dct (by decide)|exact dcf (by decide)|exact (Int.toNat_of_nonneg (by omega)).symm|exact dcu|exact lk1 (by assumption)|exact lk0 (by assumption)))|fail) ?_)
      refine SG.call rfl rfl rfl (by repeat' (first | exact True.intro | exact rho_of rfl | refine And.intro ?_ ?_)) ((bclone_spec p.c ((hp4.kp hk07 (by simp)).sl) (by omega)).mono (fun e w8 h => ?_))
      obtain ⟨v8, he, hov, hk8⟩ := h
      refine ⟨v8, he, ?_⟩
      obtain ⟨a, c, rfl, hc8, hby, hab⟩ := own_by hov rfl
      repeat (first|apply CG.seq|apply CG.region|apply SG.nil|apply NG.next|apply CG.skip|apply CG.block|apply CG.ret|apply CG.exit|apply CG.scope|apply NG.ret_then|apply NG.ret_block|apply NG.ret_scope|apply NG.exit_then|refine NG.exit_block rfl ?_|refine NG.exit_other rfl ?_|apply NG.exit_scope|apply NG.normal_block|apply NG.normal_scope|refine SG.val rfl rfl rfl rfl (by first|((first|apply qmv|apply qas|apply qlc|apply qla|apply qfa|apply qnc|apply qic|apply qix|apply qpk|apply qls|apply qei|apply qni|apply qed|apply qnd|apply qad|apply qln|apply qle|apply qgt|apply qge|apply qlk|apply qlv|apply qxt|apply qsb|apply qnt|apply qep|apply qnp|apply qeb|apply qnb|apply qcv|apply qlm|apply qfr|apply qto|apply qmx|apply qen|apply qsn|apply qx0)<;>(first|exact rfl|exact Ar.mk (by omega)|assumption|exact dct (by assumption)|exact dcf (by assumption)|exact dct (by omega)|exact dcf (by omega)|exact List.not_mem_nil|exact dc_length _|exact nc_length _|exact rc_length _ _ _|exact nm1 (by omega)|exact nm2 (by omega) (by omega)|exact dct rfl|exact dct (by decide)|exact dcf (by decide)|exact (Int.toNat_of_nonneg (by omega)).symm|exact dcu|exact lk1 (by assumption)|exact lk0 (by assumption)))|fail) ?_)
      refine SG.setMid [.int .i64 p.cp.fr, .int .i64 p.cp.to] [.slice p.a p.cp.bs.length p.c] [] rfl rfl (by exact rho_of rfl) (by exact rho_of rfl) (hB7.kp0 hk8) rfl rfl rfl rfl rfl (fun w9 hk9 hB9 => ?_)
      have hby9 : ByAt w9 a p.cp.bs := hby.kp1 (hB7.kp0 hk8) (by decide) hk9
      have R7 : Row w9 b7 0 [.int .i64 p.cp.fr, .int .i64 p.cp.to, .slice a p.cp.bs.length c] := Row.all hB9 rfl
      have hk79 : Kp [] w5 w9 := (hk67.trans hk8).trans_new hk9 (by first | exact new1 (by omega) | exact new2 (by omega) (by omega))
      have hk09 := hk05.trans hk79
      have hv9 := own_kp0 hv5 hk79
      repeat (first|apply CG.seq|apply CG.region|apply SG.nil|apply NG.next|apply CG.skip|apply CG.block|apply CG.ret|apply CG.exit|apply CG.scope|apply NG.ret_then|apply NG.ret_block|apply NG.ret_scope|apply NG.exit_then|refine NG.exit_block rfl ?_|refine NG.exit_other rfl ?_|apply NG.exit_scope|apply NG.normal_block|apply NG.normal_scope|refine SG.val rfl rfl rfl rfl (by first|((first|apply qmv|apply qas|apply qlc|apply qla|apply qfa|apply qnc|apply qic|apply qix|apply qpk|apply qls|apply qei|apply qni|apply qed|apply qnd|apply qad|apply qln|apply qle|apply qgt|apply qge|apply qlk|apply qlv|apply qxt|apply qsb|apply qnt|apply qep|apply qnp|apply qeb|apply qnb|apply qcv|apply qlm|apply qfr|apply qto|apply qmx|apply qen|apply qsn|apply qx0)<;>(first|exact rfl|exact Ar.mk (by omega)|assumption|exact dct (by assumption)|exact dcf (by assumption)|exact dct (by omega)|exact dcf (by omega)|exact List.not_mem_nil|exact dc_length _|exact nc_length _|exact rc_length _ _ _|exact nm1 (by omega)|exact nm2 (by omega) (by omega)|exact dct rfl|exact dct (by decide)|exact dcf (by decide)|exact (Int.toNat_of_nonneg (by omega)).symm|exact dcu|exact lk1 (by assumption)|exact lk0 (by assumption)))|fail) ?_)
      refine SG.buildSlice rfl rfl rfl rfl (fun w => bslice35 w p.cp.fr p.cp.to a p.cp.bs.length c) (fun bn w10 hk10 hbn hBn => ?_)
      have hRn : Row w10 bn 0 (lcl ⟨p.cp.fr, p.cp.to, p.cp.bs, a, c⟩) := Row.all hBn rfl
      have hv10 := own_kp0 hv9 hk10
      refine SG.append (f := ty.i35) rfl rfl rfl (by exact rho_of rfl) (by exact rho_of rfl) rfl rfl rfl hv10 hRn rfl rfl (by simp only [maxLen]; omega) (Nat.le_trans (Nat.mul_le_mul_right _ (show _ ≤ 5000 by omega)) (by decide)) (Nat.le_trans hk09.size hk10.size) (fun v' w11 hk11 hown11 => ?_)
      repeat (first|apply CG.seq|apply CG.region|apply SG.nil|apply NG.next|apply CG.skip|apply CG.block|apply CG.ret|apply CG.exit|apply CG.scope|apply NG.ret_then|apply NG.ret_block|apply NG.ret_scope|apply NG.exit_then|refine NG.exit_block rfl ?_|refine NG.exit_other rfl ?_|apply NG.exit_scope|apply NG.normal_block|apply NG.normal_scope|refine SG.val rfl rfl rfl rfl (by first|((first|apply qmv|apply qas|apply qlc|apply qla|apply qfa|apply qnc|apply qic|apply qix|apply qpk|apply qls|apply qei|apply qni|apply qed|apply qnd|apply qad|apply qln|apply qle|apply qgt|apply qge|apply qlk|apply qlv|apply qxt|apply qsb|apply qnt|apply qep|apply qnp|apply qeb|apply qnb|apply qcv|apply qlm|apply qfr|apply qto|apply qmx|apply qen|apply qsn|apply qx0)<;>(first|exact rfl|exact Ar.mk (by omega)|assumption|exact dct (by assumption)|exact dcf (by assumption)|exact dct (by omega)|exact dcf (by omega)|exact List.not_mem_nil|exact dc_length _|exact nc_length _|exact rc_length _ _ _|exact nm1 (by omega)|exact nm2 (by omega) (by omega)|exact dct rfl|exact dct (by decide)|exact dcf (by decide)|exact (Int.toNat_of_nonneg (by omega)).symm|exact dcu|exact lk1 (by assumption)|exact lk0 (by assumption)))|fail) ?_)
      have hkA := hk09.trans hk10
      refine NG.round (i + 1, v') (by (repeat' (first | exact True.intro | exact rfl | refine And.intro ?_ ?_))) ⟨hlt, ls ++ [⟨p.cp.fr, p.cp.to, p.cp.bs, a, c⟩], by simp; exact hlen, ?_, ?_, ?_, hkA.trans_new hk11 (own_new hv10 (Nat.le_refl _))⟩ (by show tl.length - (i + 1) < tl.length - i; omega)
      · have : flt lcl (ls ++ [⟨p.cp.fr, p.cp.to, p.cp.bs, a, c⟩]) = flt lcl ls ++ lcl ⟨p.cp.fr, p.cp.to, p.cp.bs, a, c⟩ := by simp [flt]
        rw [this, List.length_append]
        exact hown11
      · show _ = (s.open_ ((tl.take (i + 1)).map (·.cp))).map cpc
        rw [hto]
        simp only [Ns.open_, List.filter_append] at hls ⊢
        rw [List.map_append, List.map_append, hls]
        simp [hc, ltc, cpc]
      · intro l hl
        rcases List.mem_append.1 hl with hl | hl
        · exact ⟨((((hlb5 l hl).1.kp hk79 (by simp)).kp hk10 (by simp))).kpo hv10 (by decide) hk11, (hlb5 l hl).2⟩
        · rw [List.mem_singleton] at hl
          subst hl
          refine ⟨(hby9.kp hk10 (by simp)).kpo hv10 (by decide) hk11, fun b off e => ?_⟩
          have h1 := hab b off e
          have h2 := hk07.size
          omega
  · have g1 : ¬ (i : Int) < (tl.length : Int) := by omega
    repeat (first|apply CG.seq|apply CG.region|apply SG.nil|apply NG.next|apply CG.skip|apply CG.block|apply CG.ret|apply CG.exit|apply CG.scope|apply NG.ret_then|apply NG.ret_block|apply NG.ret_scope|apply NG.exit_then|refine NG.exit_block rfl ?_|refine NG.exit_other rfl ?_|apply NG.exit_scope|apply NG.normal_block|apply NG.normal_scope|refine SG.val rfl rfl rfl rfl (by first|((first|apply qmv|apply qas|apply qlc|apply qla|apply qfa|apply qnc|apply qic|apply qix|apply qpk|apply qls|apply qei|apply qni|apply qed|apply qnd|apply qad|apply qln|apply qle|apply qgt|apply qge|apply qlk|apply qlv|apply qxt|apply qsb|apply qnt|apply qep|apply qnp|apply qeb|apply qnb|apply qcv|apply qlm|apply qfr|apply qto|apply qmx|apply qen|apply qsn|apply qx0)<;>(first|exact rfl|exact Ar.mk (by omega)|assumption|exact dct (by assumption)|exact dcf (by assumption)|exact dct (by omega)|exact dcf (by omega)|exact List.not_mem_nil|exact dc_length _|exact nc_length _|exact rc_length _ _ _|exact nm1 (by omega)|exact nm2 (by omega) (by omega)|exact dct rfl|exact dct (by decide)|exact dcf (by decide)|exact (Int.toNat_of_nonneg (by omega)).symm|exact dcu|exact lk1 (by assumption)|exact lk0 (by assumption)))|fail) ?_)
    refine CG.cond_f rfl (by exact rho_of rfl) rfl ?_
    have hr4 := hR2.r4
    have hr1 := hR2.r1
    have hm := hR2.map
    rw [← hk] at hr1
    repeat (first|apply CG.seq|apply CG.region|apply SG.nil|apply NG.next|apply CG.skip|apply CG.block|apply CG.ret|apply CG.exit|apply CG.scope|apply NG.ret_then|apply NG.ret_block|apply NG.ret_scope|apply NG.exit_then|refine NG.exit_block rfl ?_|refine NG.exit_other rfl ?_|apply NG.exit_scope|apply NG.normal_block|apply NG.normal_scope|refine SG.val rfl rfl rfl rfl (by first|((first|apply qmv|apply qas|apply qlc|apply qla|apply qfa|apply qnc|apply qic|apply qix|apply qpk|apply qls|apply qei|apply qni|apply qed|apply qnd|apply qad|apply qln|apply qle|apply qgt|apply qge|apply qlk|apply qlv|apply qxt|apply qsb|apply qnt|apply qep|apply qnp|apply qeb|apply qnb|apply qcv|apply qlm|apply qfr|apply qto|apply qmx|apply qen|apply qsn|apply qx0)<;>(first|exact rfl|exact Ar.mk (by omega)|assumption|exact dct (by assumption)|exact dcf (by assumption)|exact dct (by omega)|exact dcf (by omega)|exact List.not_mem_nil|exact dc_length _|exact nc_length _|exact rc_length _ _ _|exact nm1 (by omega)|exact nm2 (by omega) (by omega)|exact dct rfl|exact dct (by decide)|exact dcf (by decide)|exact (Int.toNat_of_nonneg (by omega)).symm|exact dcu|exact lk1 (by assumption)|exact lk0 (by assumption)))|fail) ?_)
    refine CG.tail mixed 8 [0, 1, 2, 3, 4, 5, 6, 7] (by kernel_rfl) ?_
    repeat (refine Der.val rfl rfl rfl (by first|((first|apply qmv|apply qas|apply qlc|apply qla|apply qfa|apply qnc|apply qic|apply qix|apply qpk|apply qls|apply qei|apply qni|apply qed|apply qnd|apply qad|apply qln|apply qle|apply qgt|apply qge|apply qlk|apply qlv|apply qxt|apply qsb|apply qnt|apply qep|apply qnp|apply qeb|apply qnb|apply qcv|apply qlm|apply qfr|apply qto|apply qmx|apply qen|apply qsn|apply qx0)<;>(first|exact rfl|exact Ar.mk (by omega)|assumption|exact dct (by assumption)|exact dcf (by assumption)|exact dct (by omega)|exact dcf (by omega)|exact List.not_mem_nil|exact dc_length _|exact nc_length _|exact rc_length _ _ _|exact nm1 (by omega)|exact nm2 (by omega) (by omega)|exact dct rfl|exact dct (by decide)|exact dcf (by decide)|exact (Int.toNat_of_nonneg (by omega)).symm|exact dcu|exact lk1 (by assumption)|exact lk0 (by assumption)))|fail) ?_)
    refine Der.tl (fun w3 hk3 _ _ => ?_)
    have hR3 := hR2.kp0 hk3
    refine SG.delete (V := fun q : Value × List Pc => q.1) (kx := k) rfl rfl (by exact rho_of rfl) (by exact rho_of rfl) hR3.map (fun w4 hk4 hm4 => ?_)
    have hne : bt ≠ bm := by obtain ⟨es, ec, hmb⟩ := hR3.map.blk; exact ne_map hmb hR3.blk
    have hB4 := hR3.blk.kp hk4 (by simpa using hne)
    have q3 := Row.of hB4 [.int .i64 s.parties, .int .i64 s.now, .int .i64 s.sent] (l := [.int .i64 s.pend.length]) ([.map (some bm)] ++ s.cuts.map .bool) rfl rfl
    repeat (first|apply CG.seq|apply CG.region|apply SG.nil|apply NG.next|apply CG.skip|apply CG.block|apply CG.ret|apply CG.exit|apply CG.scope|apply NG.ret_then|apply NG.ret_block|apply NG.ret_scope|apply NG.exit_then|refine NG.exit_block rfl ?_|refine NG.exit_other rfl ?_|apply NG.exit_scope|apply NG.normal_block|apply NG.normal_scope|refine SG.val rfl rfl rfl rfl (by first|((first|apply qmv|apply qas|apply qlc|apply qla|apply qfa|apply qnc|apply qic|apply qix|apply qpk|apply qls|apply qei|apply qni|apply qed|apply qnd|apply qad|apply qln|apply qle|apply qgt|apply qge|apply qlk|apply qlv|apply qxt|apply qsb|apply qnt|apply qep|apply qnp|apply qeb|apply qnb|apply qcv|apply qlm|apply qfr|apply qto|apply qmx|apply qen|apply qsn|apply qx0)<;>(first|exact rfl|exact Ar.mk (by omega)|assumption|exact dct (by assumption)|exact dcf (by assumption)|exact dct (by omega)|exact dcf (by omega)|exact List.not_mem_nil|exact dc_length _|exact nc_length _|exact rc_length _ _ _|exact nm1 (by omega)|exact nm2 (by omega) (by omega)|exact dct rfl|exact dct (by decide)|exact dcf (by decide)|exact (Int.toNat_of_nonneg (by omega)).symm|exact dcu|exact lk1 (by assumption)|exact lk0 (by assumption)))|fail) ?_)
    refine SG.setMid [.int .i64 s.parties, .int .i64 s.now, .int .i64 s.sent] [.int .i64 s.pend.length] ([.map (some bm)] ++ s.cuts.map .bool) rfl rfl (by exact rho_of rfl) (by exact rho_of rfl) hB4 rfl rfl rfl rfl rfl (fun w5 hk5 hB5 => ?_)
    have q1 := Row.of hB5 [.int .i64 s.parties] (l := [.int .i64 s.now]) ([.int .i64 s.sent, .int .i64 (s.pend.length - tl.length), .map (some bm)] ++ s.cuts.map .bool) rfl rfl
    repeat (first|apply CG.seq|apply CG.region|apply SG.nil|apply NG.next|apply CG.skip|apply CG.block|apply CG.ret|apply CG.exit|apply CG.scope|apply NG.ret_then|apply NG.ret_block|apply NG.ret_scope|apply NG.exit_then|refine NG.exit_block rfl ?_|refine NG.exit_other rfl ?_|apply NG.exit_scope|apply NG.normal_block|apply NG.normal_scope|refine SG.val rfl rfl rfl rfl (by first|((first|apply qmv|apply qas|apply qlc|apply qla|apply qfa|apply qnc|apply qic|apply qix|apply qpk|apply qls|apply qei|apply qni|apply qed|apply qnd|apply qad|apply qln|apply qle|apply qgt|apply qge|apply qlk|apply qlv|apply qxt|apply qsb|apply qnt|apply qep|apply qnp|apply qeb|apply qnb|apply qcv|apply qlm|apply qfr|apply qto|apply qmx|apply qen|apply qsn|apply qx0)<;>(first|exact rfl|exact Ar.mk (by omega)|assumption|exact dct (by assumption)|exact dcf (by assumption)|exact dct (by omega)|exact dcf (by omega)|exact List.not_mem_nil|exact dc_length _|exact nc_length _|exact rc_length _ _ _|exact nm1 (by omega)|exact nm2 (by omega) (by omega)|exact dct rfl|exact dct (by decide)|exact dcf (by decide)|exact (Int.toNat_of_nonneg (by omega)).symm|exact dcu|exact lk1 (by assumption)|exact lk0 (by assumption)))|fail) ?_)
    refine SG.setMid [.int .i64 s.parties] [.int .i64 s.now] ([.int .i64 s.sent, .int .i64 (s.pend.length - tl.length), .map (some bm)] ++ s.cuts.map .bool) rfl rfl (by exact rho_of rfl) (by exact rho_of rfl) hB5 rfl rfl rfl rfl rfl (fun w6 hk6 hB6 => ?_)
    repeat (first|apply CG.seq|apply CG.region|apply SG.nil|apply NG.next|apply CG.skip|apply CG.block|apply CG.ret|apply CG.exit|apply CG.scope|apply NG.ret_then|apply NG.ret_block|apply NG.ret_scope|apply NG.exit_then|refine NG.exit_block rfl ?_|refine NG.exit_other rfl ?_|apply NG.exit_scope|apply NG.normal_block|apply NG.normal_scope|refine SG.val rfl rfl rfl rfl (by first|((first|apply qmv|apply qas|apply qlc|apply qla|apply qfa|apply qnc|apply qic|apply qix|apply qpk|apply qls|apply qei|apply qni|apply qed|apply qnd|apply qad|apply qln|apply qle|apply qgt|apply qge|apply qlk|apply qlv|apply qxt|apply qsb|apply qnt|apply qep|apply qnp|apply qeb|apply qnb|apply qcv|apply qlm|apply qfr|apply qto|apply qmx|apply qen|apply qsn|apply qx0)<;>(first|exact rfl|exact Ar.mk (by omega)|assumption|exact dct (by assumption)|exact dcf (by assumption)|exact dct (by omega)|exact dcf (by omega)|exact List.not_mem_nil|exact dc_length _|exact nc_length _|exact rc_length _ _ _|exact nm1 (by omega)|exact nm2 (by omega) (by omega)|exact dct rfl|exact dct (by decide)|exact dcf (by decide)|exact (Int.toNat_of_nonneg (by omega)).symm|exact dcu|exact lk1 (by assumption)|exact lk0 (by assumption)))|fail) ?_)
    refine ret1 (Or.inl rfl) Try.results14 (by first | exact ResV.tmp rfl | exact ResV.agg rfl rfl (by assumption) (by first | exact dc_length _ | exact nc_length _ | exact rc_length _ _ _ | rfl) | exact ResV.cell rfl rfl (by assumption)) ?_
    have hie : i = tl.length := by omega
    subst hie
    rw [List.take_length, htc] at hls
    have hlc : ((s.pend.length : Int) - (tl.length : Int)) = (s.step.pend.length : Int) := by
      have h1 := congrArg List.length htc
      rw [List.length_map] at h1
      have h2 := len_filter (fun c : Cp => decide ((c.due : Int) = s.now)) s.pend
      have h3 : s.step.pend.length = (s.pend.filter (fun c : Cp => !decide ((c.due : Int) = s.now))).length := rfl
      have h4 : s.come.length = (s.pend.filter (fun c : Cp => decide ((c.due : Int) = s.now))).length := rfl
      omega
    have hk56 := hk5.trans hk6
    have hB7 : Blk w6 bt (.cells (ncl s.step bm).toArray 72) := by
      rw [hlc] at hB6
      exact hB6
    have hnew := hR3.del k hk hk4 hm4 hk56 hB7
    have hk03 := hk2.trans hk3
    have hnb := own_nb (own_kp0 hv hk3)
    have eM := hR.map.lt
    have eT := hR.blk.lt
    refine ⟨v, _, ls, rfl, own_kp (own_kp (own_kp0 hv hk3) hk4 (fun b hb hm => ?_)) hk56 (fun b hb hm => ?_), hls, fun l hl => ⟨(((hlb l hl).1.kp hk3 (by simp)).kp hk4 (fun b off e hm => ?_)).kp hk56 (fun b off e hm => ?_), (hlb l hl).2⟩, hnew, fun z hz => uses_del hz, ((hk03.any).trans (hk4.mono (by simp))).trans (hk56.mono (by simp))⟩
    · rw [List.mem_singleton] at hm
      subst hm
      exact hnb _ eM (mem_ownB.2 hb)
    · rw [List.mem_singleton] at hm
      subst hm
      exact hnb _ eT (mem_ownB.2 hb)
    · rw [List.mem_singleton] at hm
      subst hm
      have := (hlb l hl).2 _ _ e
      omega
    · rw [List.mem_singleton] at hm
      subst hm
      have := (hlb l hl).2 _ _ e
      omega
end Go.Proofs.Ytfelaicoedlejaa
