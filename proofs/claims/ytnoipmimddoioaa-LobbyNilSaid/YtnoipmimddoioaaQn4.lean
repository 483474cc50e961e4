/-
  LobbyNil answers true for every input, and leaves its arguments as they were. No conditions.
-/
import Derived.Test.YtnoipmimddoioaaQn3
/-
  The deal of offers.
-/
namespace Go.Proofs.Ytnoipmimddoioaa
open Go.Proofs Go.Shelf Go.Sort
set_option linter.unusedVariables false

def zDel : Del := ⟨zd, [], 0, 0⟩
def maxs (f : Ofr → Int) (l : List Ofr) : Int := l.foldl (fun m o => if m < f o then f o else m) 0
def goodDel (r : Dg) (l : List Ofr) : Del := ⟨r, sortK (kW (mixD l)) (l.map (·.who)), maxs (·.least) l, maxs (·.window) l⟩
def dealOf (l : List Ofr) : Del × Int :=
  match l with
  | [] => (zDel, 3)
  | o :: _ => if (l.length : Int) = o.seats then (if l.all (fun x => decide x.Ok) then (if decide (l.Pairwise fitP) then (goodDel o.rules l, 0) else (zDel, 11)) else (zDel, 2)) else (zDel, 3)
theorem maxs_nil (f : Ofr → Int) : maxs f [] = 0 := rfl
theorem maxs_snoc (f : Ofr → Int) (l : List Ofr) (i : Nat) (h : i < l.length) : maxs f (l.take (i + 1)) = if maxs f (l.take i) < f l[i] then f l[i] else maxs f (l.take i) := by
  unfold maxs
  rw [List.take_succ_eq_append_getElem h, List.foldl_append]
  rfl
theorem dl_set1 {r : Dg} {s s' : Value} {st wi : Int} : spl (dl r s st wi) 8 [s'] = dl r s' st wi := by
  have := spl_mid (pre := dc r) (old := [s]) (post := [.int .i64 st, .int .i64 wi]) (l := [s']) rfl
  rw [dc_length] at this
  exact this
theorem dl_set2 {r : Dg} {s : Value} {st st' wi : Int} : spl (dl r s st wi) 9 [.int .i64 st'] = dl r s st' wi := by
  have := spl_mid (pre := dc r ++ [s]) (old := [.int .i64 st]) (post := [.int .i64 wi]) (l := [.int .i64 st']) rfl
  rw [List.length_append, dc_length] at this
  simpa [dl] using this
theorem dl_set3 {r : Dg} {s : Value} {st wi wi' : Int} : spl (dl r s st wi) 10 [.int .i64 wi'] = dl r s st wi' := by
  have := spl_mid (pre := dc r ++ [s, .int .i64 st]) (old := [.int .i64 wi]) (post := []) (l := [.int .i64 wi']) rfl
  rw [List.length_append, dc_length] at this
  simpa [dl] using this
theorem bdz (w : World) : (Instr.build 27 #[]).run Try.prog w = .ok (dealV zd (.slice none 0 0) 0 0) w := by kernel_rfl
theorem bdr' (w : World) (a0 a1 a2 a3 a4 a5 a6 a7 : UInt8) : (Instr.build 27 #[(0, .agg #[bv a0, bv a1, bv a2, bv a3, bv a4, bv a5, bv a6, bv a7])]).run Try.prog w = .ok (.agg #[bv a0, bv a1, bv a2, bv a3, bv a4, bv a5, bv a6, bv a7, .slice none 0 0, .int .i64 0, .int .i64 0]) w := by kernel_rfl
theorem bdr (r : Dg) (w : World) : (Instr.build 27 #[(0, dv r)]).run Try.prog w = .ok (dealV r (.slice none 0 0) 0 0) w := by
  obtain ⟨l, hl⟩ := r
  match l, hl with
  | [a0, a1, a2, a3, a4, a5, a6, a7], _ => exact bdr' w a0 a1 a2 a3 a4 a5 a6 a7
theorem pw_take {l : List Ofr} {i : Nat} (h : i < l.length) (hp : (l.take i).Pairwise fitP) (hb : (l.take i).any (fun x => !decide (fitP x l[i])) = false) : (l.take (i + 1)).Pairwise fitP := by
  rw [List.take_succ_eq_append_getElem h, List.pairwise_append]
  refine ⟨hp, List.pairwise_singleton _ _, fun x hx y hy => ?_⟩
  rw [List.mem_singleton] at hy
  subst hy
  have := List.any_eq_false.1 hb x hx
  simpa using this
theorem pw_not {l : List Ofr} {i : Nat} (h : i < l.length) (hb : (l.take i).any (fun x => !decide (fitP x l[i])) = true) : ¬ l.Pairwise fitP := by
  intro hp
  obtain ⟨x, hx, hx2⟩ := List.any_eq_true.1 hb
  have h1 : (l.take (i + 1)).Pairwise fitP := hp.sublist (List.take_sublist _ _)
  rw [List.take_succ_eq_append_getElem h, List.pairwise_append] at h1
  have := h1.2.2 x hx l[i] (by simp)
  simp [this] at hx2

theorem Row.part {w : World} {b off : Nat} {l : List Value} (h : Row w b off l) (pre m post : List Value) (he : l = pre ++ (m ++ post)) : Row w b (off + pre.length) m := by
  obtain ⟨cs, T, f, h1, h2⟩ := h
  refine ⟨cs, T, f, h1, fun i v hv => ?_⟩
  rw [Nat.add_assoc]
  refine h2 _ v ?_
  have hi := (List.getElem?_eq_some_iff.1 hv).1
  rw [he, List.getElem?_append_right (by omega), Nat.add_sub_cancel_left, List.getElem?_append_left hi]
  exact hv
theorem ec_rowsO {w : World} {b off : Nat} {o : Ofr} (h : Row w b off (ec o)) : Row w b off (dc o.who) ∧ Row w b (off + 8) (dc o.rules) ∧ Row w b (off + 16) [.int .i64 o.seats] ∧ Row w b (off + 17) [.int .i64 o.least] ∧ Row w b (off + 18) [.int .i64 o.most] ∧ Row w b (off + 19) [.int .i64 o.window] ∧ Row w b (off + 20) [.int .i64 o.till] := by
  have l8 : (dc o.who).length = 8 := dc_length _
  have l16 : (dc o.who ++ dc o.rules).length = 16 := by simp [dc_length]
  refine ⟨?_, ?_, ?_, ?_, ?_, ?_, ?_⟩
  · exact h.part [] (dc o.who) _ rfl
  · have := h.part (dc o.who) (dc o.rules) _ rfl
    rwa [l8] at this
  · have := h.part (dc o.who ++ dc o.rules) [.int .i64 o.seats] [.int .i64 o.least, .int .i64 o.most, .int .i64 o.window, .int .i64 o.till] (by simp [ec])
    rwa [l16] at this
  · have := h.part (dc o.who ++ dc o.rules ++ [.int .i64 o.seats]) [.int .i64 o.least] [.int .i64 o.most, .int .i64 o.window, .int .i64 o.till] (by simp [ec])
    rwa [List.length_append, l16] at this
  · have := h.part (dc o.who ++ dc o.rules ++ [.int .i64 o.seats, .int .i64 o.least]) [.int .i64 o.most] [.int .i64 o.window, .int .i64 o.till] (by simp [ec])
    rwa [List.length_append, l16] at this
  · have := h.part (dc o.who ++ dc o.rules ++ [.int .i64 o.seats, .int .i64 o.least, .int .i64 o.most]) [.int .i64 o.window] [.int .i64 o.till] (by simp [ec])
    rwa [List.length_append, l16] at this
  · have := h.part (dc o.who ++ dc o.rules ++ [.int .i64 o.seats, .int .i64 o.least, .int .i64 o.most, .int .i64 o.window]) [.int .i64 o.till] [] (by simp [ec])
    rwa [List.length_append, l16] at this
theorem own_neb {w : World} {base n sz : Nat} {T T' : TypeId} {v : Value} {xs : List Value} {z : Nat} {cs : Array Value} (ho : w.ownsRow base T sz v n xs) (hT : T' ≠ T) (hz : Blk w z (.cells cs T')) : ∀ b, v.ownBlock = some b → b ∉ [z] := by
  intro b hb hm
  rw [List.mem_singleton] at hm
  subst hm
  rcases ho.2 with ⟨rfl, _⟩ | ⟨g, cap, cur, rfl, _, hg, _⟩
  · cases hb
  · cases hb
    have := hz.uniq hg
    simp only [Obj.cells.injEq] at this
    exact hT this.2.1
theorem own_lt {w : World} {base n sz : Nat} {T : TypeId} {v : Value} {xs : List Value} (ho : w.ownsRow base T sz v n xs) : ∀ b, v.ownBlock = some b → b < w.heap.size := by
  intro b hb
  rcases ho.2 with ⟨rfl, _⟩ | ⟨g, cap, cur, rfl, _, hg, _⟩
  · cases hb
  · cases hb
    exact (Array.getElem?_eq_some_iff.1 hg).1
theorem own_notB {v : Value} {z : Nat} (h : ∀ b, v.ownBlock = some b → b < z) : z ∉ ownB v := by
  intro hm
  have := h z (ownB_mem hm)
  omega
/-- A deal, as it is answered. -/
def DealAt (w0 w : World) (T : TypeId) (v : Value) (d : Del) : Prop := ∃ s, v = dealV d.rules s d.stake d.window ∧ w.ownsRow w0.heap.size T 8 s d.who.length (flt dc d.who)

attribute [local irreducible] CG NG SG Vals Der Row Blk MapIs IterAt addI xorI orI andI shlI shrI mulI twoI cmpD cmpW kW digO manyI mixD sortK maxs
set_option maxHeartbeats 32000000 in
theorem of2_spec {w : World} {l : List Ofr} {a : Option Addr} {c : Nat} (hS : Sl ec 21 w a l) (hl : l.length ≤ 10000) (hc : l.length ≤ c) : Calls Try.prog 11 #[.slice a l.length c] w (fun e w' => ∃ v, e = .returned (.tuple #[v, .int .i64 (dealOf l).2]) ∧ DealAt w w' 24 v (dealOf l).1 ∧ Kp [] w w') := by
  refine enter1 Try.func11 rfl Try.ntmps11 rfl ?_
  have hz0 : ∀ W, DealAt w W 24 (dealV zd (.slice none 0 0) 0 0) zDel := fun W => ⟨_, rfl, own_nil⟩
  repeat (first|apply CG.seq|apply CG.region|apply SG.nil|apply NG.next|apply CG.skip|apply CG.block|apply CG.ret|apply CG.exit|apply NG.ret_then|apply NG.ret_block|apply NG.exit_then|refine NG.exit_block rfl ?_|apply NG.normal_block|refine SG.val rfl rfl rfl rfl (by first|((first|apply qmf|apply qmv|apply qas|apply qlc|apply qla|apply qfa|apply qic|apply qix|apply qpk|apply qls|apply qei|apply qni|apply qad|apply qln|apply qnt|apply qto|apply qmx)<;>(first|exact rfl|assumption|exact Ar.mk (by omega)|exact dct (by first|assumption|omega)|exact dcf (by first|assumption|omega)|exact List.not_mem_nil|apply dc_length|apply ec_length|apply dl_length|exact nm1 (by omega)|fail))|fail) ?_)
  refine SG.alloc rfl rfl rfl (fun b2 w1 hk1 hb2 hB2 => ?_)
  have hB2 : Blk w1 b2 (.cells (dl zd (.slice none 0 0) 0 0).toArray 27) := hB2
  have l2 := hB2.lt
  have s1 := hk1.size
  cases l with
  | nil =>
    have g0 : (([] : List Ofr).length : Int) = 0 := rfl
    repeat (first | first|apply CG.seq|apply CG.region|apply SG.nil|apply NG.next|apply CG.skip|apply CG.block|apply CG.ret|apply CG.exit|apply NG.ret_then|apply NG.ret_block|apply NG.exit_then|refine NG.exit_block rfl ?_|apply NG.normal_block|refine SG.val rfl rfl rfl rfl (by first|((first|apply qmf|apply qmv|apply qas|apply qlc|apply qla|apply qfa|apply qic|apply qix|apply qpk|apply qls|apply qei|apply qni|apply qad|apply qln|apply qnt|apply qto|apply qmx)<;>(first|exact rfl|assumption|exact Ar.mk (by omega)|exact dct (by first|assumption|omega)|exact dcf (by first|assumption|omega)|exact List.not_mem_nil|apply dc_length|apply ec_length|apply dl_length|exact nm1 (by omega)|fail))|fail) ?_ | refine SG.skip rfl rfl ?_)
    refine CG.cond_t rfl (by exact rho_of rfl) rfl ?_
    repeat (first|apply CG.seq|apply CG.region|apply SG.nil|apply NG.next|apply CG.skip|apply CG.block|apply CG.ret|apply CG.exit|apply NG.ret_then|apply NG.ret_block|apply NG.exit_then|refine NG.exit_block rfl ?_|apply NG.normal_block|refine SG.val rfl rfl rfl rfl (by first|((first|apply qmf|apply qmv|apply qas|apply qlc|apply qla|apply qfa|apply qic|apply qix|apply qpk|apply qls|apply qei|apply qni|apply qad|apply qln|apply qnt|apply qto|apply qmx)<;>(first|exact rfl|assumption|exact Ar.mk (by omega)|exact dct (by first|assumption|omega)|exact dcf (by first|assumption|omega)|exact List.not_mem_nil|apply dc_length|apply ec_length|apply dl_length|exact nm1 (by omega)|fail))|fail) ?_)
    refine SG.val rfl rfl rfl rfl (vals_build rfl bdz) ?_
    refine SG.setAll (old := dl zd (.slice none 0 0) 0 0) (l := dl zd (.slice none 0 0) 0 0) rfl rfl (by exact rho_of rfl) (by exact rho_of rfl) hB2 (dl_length _ _ _ _) (dl_length _ _ _ _) (dl_one _ _ _ _ _ _) (fun w2 hk2 hB3 => ?_)
    have hr : Row w2 b2 0 (dl zd (.slice none 0 0) 0 0) := Row.all hB3 rfl
    repeat (first|apply CG.seq|apply CG.region|apply SG.nil|apply NG.next|apply CG.skip|apply CG.block|apply CG.ret|apply CG.exit|apply NG.ret_then|apply NG.ret_block|apply NG.exit_then|refine NG.exit_block rfl ?_|apply NG.normal_block|refine SG.val rfl rfl rfl rfl (by first|((first|apply qmf|apply qmv|apply qas|apply qlc|apply qla|apply qfa|apply qic|apply qix|apply qpk|apply qls|apply qei|apply qni|apply qad|apply qln|apply qnt|apply qto|apply qmx)<;>(first|exact rfl|assumption|exact Ar.mk (by omega)|exact dct (by first|assumption|omega)|exact dcf (by first|assumption|omega)|exact List.not_mem_nil|apply dc_length|apply ec_length|apply dl_length|exact nm1 (by omega)|fail))|fail) ?_)
    refine ret2 (Or.inl rfl) Try.results11 (ResV.agg rfl rfl hr (dl_length _ _ _ _)) (by first | exact ResV.tmp rfl | exact ResV.agg rfl rfl (by assumption) (by first | exact dc_length _ | exact nc_length _ | exact rc_length _ _ _ | exact ec_length _ | exact dl_length _ _ _ _ | rfl) | exact ResV.cell rfl rfl (by assumption)) ?_
    exact ⟨_, rfl, hz0 w2, hk1.trans_new hk2 (new1 (by omega))⟩
  | cons o r =>
    generalize hL : o :: r = l at hS hl hc ⊢
    have hpos : 0 < l.length := by rw [← hL]; simp
    have ho : l[0] = o := by subst hL; rfl
    obtain ⟨ba, oa, rfl, hr0⟩ := (hS.kp0 hk1).at hpos
    rw [ho] at hr0
    obtain ⟨-, rru, rs, -⟩ := ec_rowsO hr0
    have e0 : dealOf l = if (l.length : Int) = o.seats then (if l.all (fun x => decide x.Ok) then (if decide (l.Pairwise fitP) then (goodDel o.rules l, 0) else (zDel, 11)) else (zDel, 2)) else (zDel, 3) := by
      rw [← hL]
      rfl
    have g0 : ¬ (l.length : Int) = 0 := by omega
    by_cases hse : (l.length : Int) = o.seats
    rotate_left
    · rw [if_neg hse] at e0
      repeat (first | first|apply CG.seq|apply CG.region|apply SG.nil|apply NG.next|apply CG.skip|apply CG.block|apply CG.ret|apply CG.exit|apply NG.ret_then|apply NG.ret_block|apply NG.exit_then|refine NG.exit_block rfl ?_|apply NG.normal_block|refine SG.val rfl rfl rfl rfl (by first|((first|apply qmf|apply qmv|apply qas|apply qlc|apply qla|apply qfa|apply qic|apply qix|apply qpk|apply qls|apply qei|apply qni|apply qad|apply qln|apply qnt|apply qto|apply qmx)<;>(first|exact rfl|assumption|exact Ar.mk (by omega)|exact dct (by first|assumption|omega)|exact dcf (by first|assumption|omega)|exact List.not_mem_nil|apply dc_length|apply ec_length|apply dl_length|exact nm1 (by omega)|fail))|fail) ?_ | refine SG.skip rfl rfl ?_)
      refine CG.cond_t rfl (by exact rho_of rfl) rfl ?_
      repeat (first|apply CG.seq|apply CG.region|apply SG.nil|apply NG.next|apply CG.skip|apply CG.block|apply CG.ret|apply CG.exit|apply NG.ret_then|apply NG.ret_block|apply NG.exit_then|refine NG.exit_block rfl ?_|apply NG.normal_block|refine SG.val rfl rfl rfl rfl (by first|((first|apply qmf|apply qmv|apply qas|apply qlc|apply qla|apply qfa|apply qic|apply qix|apply qpk|apply qls|apply qei|apply qni|apply qad|apply qln|apply qnt|apply qto|apply qmx)<;>(first|exact rfl|assumption|exact Ar.mk (by omega)|exact dct (by first|assumption|omega)|exact dcf (by first|assumption|omega)|exact List.not_mem_nil|apply dc_length|apply ec_length|apply dl_length|exact nm1 (by omega)|fail))|fail) ?_)
      refine SG.val rfl rfl rfl rfl (vals_build rfl bdz) ?_
      refine SG.setAll (old := dl zd (.slice none 0 0) 0 0) (l := dl zd (.slice none 0 0) 0 0) rfl rfl (by exact rho_of rfl) (by exact rho_of rfl) hB2 (dl_length _ _ _ _) (dl_length _ _ _ _) (dl_one _ _ _ _ _ _) (fun wz hkz hBz => ?_)
      have hrz : Row wz b2 0 (dl zd (.slice none 0 0) 0 0) := Row.all hBz rfl
      repeat (first|apply CG.seq|apply CG.region|apply SG.nil|apply NG.next|apply CG.skip|apply CG.block|apply CG.ret|apply CG.exit|apply NG.ret_then|apply NG.ret_block|apply NG.exit_then|refine NG.exit_block rfl ?_|apply NG.normal_block|refine SG.val rfl rfl rfl rfl (by first|((first|apply qmf|apply qmv|apply qas|apply qlc|apply qla|apply qfa|apply qic|apply qix|apply qpk|apply qls|apply qei|apply qni|apply qad|apply qln|apply qnt|apply qto|apply qmx)<;>(first|exact rfl|assumption|exact Ar.mk (by omega)|exact dct (by first|assumption|omega)|exact dcf (by first|assumption|omega)|exact List.not_mem_nil|apply dc_length|apply ec_length|apply dl_length|exact nm1 (by omega)|fail))|fail) ?_)
      refine ret2 (Or.inl rfl) Try.results11 (ResV.agg rfl rfl hrz (dl_length _ _ _ _)) (by first | exact ResV.tmp rfl | exact ResV.agg rfl rfl (by assumption) (by first | exact dc_length _ | exact nc_length _ | exact rc_length _ _ _ | exact ec_length _ | exact dl_length _ _ _ _ | rfl) | exact ResV.cell rfl rfl (by assumption)) ?_
      rw [e0]
      exact ⟨_, rfl, hz0 wz, hk1.trans_new hkz (new1 (by omega))⟩
    rw [if_pos hse] at e0
    repeat (first | first|apply CG.seq|apply CG.region|apply SG.nil|apply NG.next|apply CG.skip|apply CG.block|apply CG.ret|apply CG.exit|apply NG.ret_then|apply NG.ret_block|apply NG.exit_then|refine NG.exit_block rfl ?_|apply NG.normal_block|refine SG.val rfl rfl rfl rfl (by first|((first|apply qmf|apply qmv|apply qas|apply qlc|apply qla|apply qfa|apply qic|apply qix|apply qpk|apply qls|apply qei|apply qni|apply qad|apply qln|apply qnt|apply qto|apply qmx)<;>(first|exact rfl|assumption|exact Ar.mk (by omega)|exact dct (by first|assumption|omega)|exact dcf (by first|assumption|omega)|exact List.not_mem_nil|apply dc_length|apply ec_length|apply dl_length|exact nm1 (by omega)|fail))|fail) ?_ | refine SG.skip rfl rfl ?_)
    refine CG.cond_f rfl (by exact rho_of rfl) rfl ?_
    repeat (first|apply CG.seq|apply CG.region|apply SG.nil|apply NG.next|apply CG.skip|apply CG.block|apply CG.ret|apply CG.exit|apply NG.ret_then|apply NG.ret_block|apply NG.exit_then|refine NG.exit_block rfl ?_|apply NG.normal_block|refine SG.val rfl rfl rfl rfl (by first|((first|apply qmf|apply qmv|apply qas|apply qlc|apply qla|apply qfa|apply qic|apply qix|apply qpk|apply qls|apply qei|apply qni|apply qad|apply qln|apply qnt|apply qto|apply qmx)<;>(first|exact rfl|assumption|exact Ar.mk (by omega)|exact dct (by first|assumption|omega)|exact dcf (by first|assumption|omega)|exact List.not_mem_nil|apply dc_length|apply ec_length|apply dl_length|exact nm1 (by omega)|fail))|fail) ?_)
    refine CG.loop (X := Nat) (fun i => [(0, .slice (some ⟨ba, oa, none⟩) l.length c), (2, .pointer (some ⟨b2, 0, none⟩)), (25, .slice (some ⟨ba, oa, none⟩) l.length c), (26, .int .i64 (l.length : Int)), (27, .int .i64 (i : Int))]) (fun i w' => i ≤ l.length ∧ Kp [] w1 w' ∧ ∀ j (h : j < l.length), j < i → l[j].Ok) (fun i => l.length - i) 0 ⟨by omega, Kp.refl _ _, fun j _ h => absurd h (Nat.not_lt_zero j)⟩ (by (repeat' (first | exact True.intro | exact rfl | refine And.intro ?_ ?_))) ?_
    rintro i w2 ⟨hi, hk2, hall⟩
    have hB2 := hB2.kp0 hk2
    by_cases hlt : i < l.length
    · have g1 : (i : Int) < (l.length : Int) := by omega
      have hri := (hS.kp0 (hk1.trans hk2)).row (List.getElem?_eq_getElem hlt)
      repeat (first|apply CG.seq|apply CG.region|apply SG.nil|apply NG.next|apply CG.skip|apply CG.block|apply CG.ret|apply CG.exit|apply NG.ret_then|apply NG.ret_block|apply NG.exit_then|refine NG.exit_block rfl ?_|apply NG.normal_block|refine SG.val rfl rfl rfl rfl (by first|((first|apply qmf|apply qmv|apply qas|apply qlc|apply qla|apply qfa|apply qic|apply qix|apply qpk|apply qls|apply qei|apply qni|apply qad|apply qln|apply qnt|apply qto|apply qmx)<;>(first|exact rfl|assumption|exact Ar.mk (by omega)|exact dct (by first|assumption|omega)|exact dcf (by first|assumption|omega)|exact List.not_mem_nil|apply dc_length|apply ec_length|apply dl_length|exact nm1 (by omega)|fail))|fail) ?_)
      refine CG.cond_t rfl (by exact rho_of rfl) rfl ?_
      repeat (first|apply CG.seq|apply CG.region|apply SG.nil|apply NG.next|apply CG.skip|apply CG.block|apply CG.ret|apply CG.exit|apply NG.ret_then|apply NG.ret_block|apply NG.exit_then|refine NG.exit_block rfl ?_|apply NG.normal_block|refine SG.val rfl rfl rfl rfl (by first|((first|apply qmf|apply qmv|apply qas|apply qlc|apply qla|apply qfa|apply qic|apply qix|apply qpk|apply qls|apply qei|apply qni|apply qad|apply qln|apply qnt|apply qto|apply qmx)<;>(first|exact rfl|assumption|exact Ar.mk (by omega)|exact dct (by first|assumption|omega)|exact dcf (by first|assumption|omega)|exact List.not_mem_nil|apply dc_length|apply ec_length|apply dl_length|exact nm1 (by omega)|fail))|fail) ?_)
      refine SG.alloc rfl rfl rfl (fun b5 w3 hk3 hb5 hB5 => ?_)
      refine SG.setAll (l := ec l[i]) rfl rfl (by exact rho_of rfl) (by exact rho_of rfl) hB5 (ec_length _) rfl (ec_one _) (fun w4 hk4 hB6 => ?_)
      have hr6 : Row w4 b5 0 (ec l[i]) := Row.all hB6 rfl
      have k4 : Kp [] w2 w4 := hk3.trans_new hk4 (new1 (by omega))
      repeat (first|apply CG.seq|apply CG.region|apply SG.nil|apply NG.next|apply CG.skip|apply CG.block|apply CG.ret|apply CG.exit|apply NG.ret_then|apply NG.ret_block|apply NG.exit_then|refine NG.exit_block rfl ?_|apply NG.normal_block|refine SG.val rfl rfl rfl rfl (by first|((first|apply qmf|apply qmv|apply qas|apply qlc|apply qla|apply qfa|apply qic|apply qix|apply qpk|apply qls|apply qei|apply qni|apply qad|apply qln|apply qnt|apply qto|apply qmx)<;>(first|exact rfl|assumption|exact Ar.mk (by omega)|exact dct (by first|assumption|omega)|exact dcf (by first|assumption|omega)|exact List.not_mem_nil|apply dc_length|apply ec_length|apply dl_length|exact nm1 (by omega)|fail))|fail) ?_)
      refine SG.ret rfl rfl rfl (vs := [ov l[i]]) (by repeat' (first | exact True.intro | exact rho_of rfl | refine And.intro ?_ ?_)) (check_spec l[i] w4) (fun w5 hk5 => ?_)
      have k5 := k4.trans hk5
      by_cases hok : l[i].Ok
      · have g2 : (if l[i].Ok then 0 else 2 : Int) = 0 := if_pos hok
        rw [g2]
        repeat (first|apply CG.seq|apply CG.region|apply SG.nil|apply NG.next|apply CG.skip|apply CG.block|apply CG.ret|apply CG.exit|apply NG.ret_then|apply NG.ret_block|apply NG.exit_then|refine NG.exit_block rfl ?_|apply NG.normal_block|refine SG.val rfl rfl rfl rfl (by first|((first|apply qmf|apply qmv|apply qas|apply qlc|apply qla|apply qfa|apply qic|apply qix|apply qpk|apply qls|apply qei|apply qni|apply qad|apply qln|apply qnt|apply qto|apply qmx)<;>(first|exact rfl|assumption|exact Ar.mk (by omega)|exact dct (by first|assumption|omega)|exact dcf (by first|assumption|omega)|exact List.not_mem_nil|apply dc_length|apply ec_length|apply dl_length|exact nm1 (by omega)|fail))|fail) ?_)
        refine CG.cond_f rfl (by exact rho_of rfl) rfl ?_
        repeat (first|apply CG.seq|apply CG.region|apply SG.nil|apply NG.next|apply CG.skip|apply CG.block|apply CG.ret|apply CG.exit|apply NG.ret_then|apply NG.ret_block|apply NG.exit_then|refine NG.exit_block rfl ?_|apply NG.normal_block|refine SG.val rfl rfl rfl rfl (by first|((first|apply qmf|apply qmv|apply qas|apply qlc|apply qla|apply qfa|apply qic|apply qix|apply qpk|apply qls|apply qei|apply qni|apply qad|apply qln|apply qnt|apply qto|apply qmx)<;>(first|exact rfl|assumption|exact Ar.mk (by omega)|exact dct (by first|assumption|omega)|exact dcf (by first|assumption|omega)|exact List.not_mem_nil|apply dc_length|apply ec_length|apply dl_length|exact nm1 (by omega)|fail))|fail) ?_)
        refine NG.round (i + 1) (by (repeat' (first | exact True.intro | exact rfl | refine And.intro ?_ ?_))) ⟨by omega, hk2.trans k5, fun j h hj => ?_⟩ (by omega)
        by_cases e : j = i
        · subst e; exact hok
        · exact hall j h (by omega)
      · have g2 : (if l[i].Ok then 0 else 2 : Int) = 2 := if_neg hok
        have hno : ¬ (l.all (fun x => decide x.Ok) = true) := fun h => by
          have := List.all_eq_true.1 h l[i] (List.getElem_mem hlt)
          exact hok (of_decide_eq_true this)
        rw [if_neg hno] at e0
        rw [g2]
        repeat (first|apply CG.seq|apply CG.region|apply SG.nil|apply NG.next|apply CG.skip|apply CG.block|apply CG.ret|apply CG.exit|apply NG.ret_then|apply NG.ret_block|apply NG.exit_then|refine NG.exit_block rfl ?_|apply NG.normal_block|refine SG.val rfl rfl rfl rfl (by first|((first|apply qmf|apply qmv|apply qas|apply qlc|apply qla|apply qfa|apply qic|apply qix|apply qpk|apply qls|apply qei|apply qni|apply qad|apply qln|apply qnt|apply qto|apply qmx)<;>(first|exact rfl|assumption|exact Ar.mk (by omega)|exact dct (by first|assumption|omega)|exact dcf (by first|assumption|omega)|exact List.not_mem_nil|apply dc_length|apply ec_length|apply dl_length|exact nm1 (by omega)|fail))|fail) ?_)
        refine CG.cond_t rfl (by exact rho_of rfl) rfl ?_
        repeat (first|apply CG.seq|apply CG.region|apply SG.nil|apply NG.next|apply CG.skip|apply CG.block|apply CG.ret|apply CG.exit|apply NG.ret_then|apply NG.ret_block|apply NG.exit_then|refine NG.exit_block rfl ?_|apply NG.normal_block|refine SG.val rfl rfl rfl rfl (by first|((first|apply qmf|apply qmv|apply qas|apply qlc|apply qla|apply qfa|apply qic|apply qix|apply qpk|apply qls|apply qei|apply qni|apply qad|apply qln|apply qnt|apply qto|apply qmx)<;>(first|exact rfl|assumption|exact Ar.mk (by omega)|exact dct (by first|assumption|omega)|exact dcf (by first|assumption|omega)|exact List.not_mem_nil|apply dc_length|apply ec_length|apply dl_length|exact nm1 (by omega)|fail))|fail) ?_)
        refine SG.val rfl rfl rfl rfl (vals_build rfl bdz) ?_
        refine SG.setAll (old := dl zd (.slice none 0 0) 0 0) (l := dl zd (.slice none 0 0) 0 0) rfl rfl (by exact rho_of rfl) (by exact rho_of rfl) (hB2.kp0 k5) (dl_length _ _ _ _) (dl_length _ _ _ _) (dl_one _ _ _ _ _ _) (fun wz hkz hBz => ?_)
        have hrz : Row wz b2 0 (dl zd (.slice none 0 0) 0 0) := Row.all hBz rfl
        repeat (first|apply CG.seq|apply CG.region|apply SG.nil|apply NG.next|apply CG.skip|apply CG.block|apply CG.ret|apply CG.exit|apply NG.ret_then|apply NG.ret_block|apply NG.exit_then|refine NG.exit_block rfl ?_|apply NG.normal_block|refine SG.val rfl rfl rfl rfl (by first|((first|apply qmf|apply qmv|apply qas|apply qlc|apply qla|apply qfa|apply qic|apply qix|apply qpk|apply qls|apply qei|apply qni|apply qad|apply qln|apply qnt|apply qto|apply qmx)<;>(first|exact rfl|assumption|exact Ar.mk (by omega)|exact dct (by first|assumption|omega)|exact dcf (by first|assumption|omega)|exact List.not_mem_nil|apply dc_length|apply ec_length|apply dl_length|exact nm1 (by omega)|fail))|fail) ?_)
        refine ret2 (Or.inl rfl) Try.results11 (ResV.agg rfl rfl hrz (dl_length _ _ _ _)) (by first | exact ResV.tmp rfl | exact ResV.agg rfl rfl (by assumption) (by first | exact dc_length _ | exact nc_length _ | exact rc_length _ _ _ | exact ec_length _ | exact dl_length _ _ _ _ | rfl) | exact ResV.cell rfl rfl (by assumption)) ?_
        rw [e0]
        exact ⟨_, rfl, hz0 wz, (hk1.trans (hk2.trans k5)).trans_new hkz (new1 (by omega))⟩
    have g1 : ¬ (i : Int) < (l.length : Int) := by omega
    have hok : l.all (fun x => decide x.Ok) = true := List.all_eq_true.2 (fun x hx => by
      obtain ⟨j, hj, rfl⟩ := List.getElem_of_mem hx
      exact decide_eq_true (hall j hj (by omega)))
    rw [if_pos hok] at e0
    clear hall
    repeat (first|apply CG.seq|apply CG.region|apply SG.nil|apply NG.next|apply CG.skip|apply CG.block|apply CG.ret|apply CG.exit|apply NG.ret_then|apply NG.ret_block|apply NG.exit_then|refine NG.exit_block rfl ?_|apply NG.normal_block|refine SG.val rfl rfl rfl rfl (by first|((first|apply qmf|apply qmv|apply qas|apply qlc|apply qla|apply qfa|apply qic|apply qix|apply qpk|apply qls|apply qei|apply qni|apply qad|apply qln|apply qnt|apply qto|apply qmx)<;>(first|exact rfl|assumption|exact Ar.mk (by omega)|exact dct (by first|assumption|omega)|exact dcf (by first|assumption|omega)|exact List.not_mem_nil|apply dc_length|apply ec_length|apply dl_length|exact nm1 (by omega)|fail))|fail) ?_)
    refine CG.cond_f rfl (by exact rho_of rfl) rfl ?_
    repeat (first|apply CG.seq|apply CG.region|apply SG.nil|apply NG.next|apply CG.skip|apply CG.block|apply CG.ret|apply CG.exit|apply NG.ret_then|apply NG.ret_block|apply NG.exit_then|refine NG.exit_block rfl ?_|apply NG.normal_block|refine SG.val rfl rfl rfl rfl (by first|((first|apply qmf|apply qmv|apply qas|apply qlc|apply qla|apply qfa|apply qic|apply qix|apply qpk|apply qls|apply qei|apply qni|apply qad|apply qln|apply qnt|apply qto|apply qmx)<;>(first|exact rfl|assumption|exact Ar.mk (by omega)|exact dct (by first|assumption|omega)|exact dcf (by first|assumption|omega)|exact List.not_mem_nil|apply dc_length|apply ec_length|apply dl_length|exact nm1 (by omega)|fail))|fail) ?_)
    refine CG.loop (X := Nat) (fun i => [(0, .slice (some ⟨ba, oa, none⟩) l.length c), (2, .pointer (some ⟨b2, 0, none⟩)), (36, .slice (some ⟨ba, oa, none⟩) l.length c), (37, .int .i64 (l.length : Int)), (38, .int .i64 (i : Int))]) (fun i w' => i ≤ l.length ∧ Kp [] w2 w' ∧ (l.take i).Pairwise fitP) (fun i => l.length - i) 0 ⟨by omega, Kp.refl _ _, List.Pairwise.nil⟩ (by (repeat' (first | exact True.intro | exact rfl | refine And.intro ?_ ?_))) ?_
    clear hi g1 hlt i
    rintro i w3 ⟨hi, hk3, hpw⟩
    have hB2 := hB2.kp0 hk3
    by_cases hlt : i < l.length
    · have g1 : (i : Int) < (l.length : Int) := by omega
      have k3 := (hk1.trans hk2).trans hk3
      have hri := (hS.kp0 k3).row (List.getElem?_eq_getElem hlt)
      have hlen : (l.take i).length = i := by rw [List.length_take]; omega
      repeat (first|apply CG.seq|apply CG.region|apply SG.nil|apply NG.next|apply CG.skip|apply CG.block|apply CG.ret|apply CG.exit|apply NG.ret_then|apply NG.ret_block|apply NG.exit_then|refine NG.exit_block rfl ?_|apply NG.normal_block|refine SG.val rfl rfl rfl rfl (by first|((first|apply qmf|apply qmv|apply qas|apply qlc|apply qla|apply qfa|apply qic|apply qix|apply qpk|apply qls|apply qei|apply qni|apply qad|apply qln|apply qnt|apply qto|apply qmx)<;>(first|exact rfl|assumption|exact Ar.mk (by omega)|exact dct (by first|assumption|omega)|exact dcf (by first|assumption|omega)|exact List.not_mem_nil|apply dc_length|apply ec_length|apply dl_length|exact nm1 (by omega)|fail))|fail) ?_)
      refine CG.cond_t rfl (by exact rho_of rfl) rfl ?_
      repeat (first|apply CG.seq|apply CG.region|apply SG.nil|apply NG.next|apply CG.skip|apply CG.block|apply CG.ret|apply CG.exit|apply NG.ret_then|apply NG.ret_block|apply NG.exit_then|refine NG.exit_block rfl ?_|apply NG.normal_block|refine SG.val rfl rfl rfl rfl (by first|((first|apply qmf|apply qmv|apply qas|apply qlc|apply qla|apply qfa|apply qic|apply qix|apply qpk|apply qls|apply qei|apply qni|apply qad|apply qln|apply qnt|apply qto|apply qmx)<;>(first|exact rfl|assumption|exact Ar.mk (by omega)|exact dct (by first|assumption|omega)|exact dcf (by first|assumption|omega)|exact List.not_mem_nil|apply dc_length|apply ec_length|apply dl_length|exact nm1 (by omega)|fail))|fail) ?_)
      refine SG.alloc rfl rfl rfl (fun b5 w4 hk4 hb5 hB5 => ?_)
      repeat (first|apply CG.seq|apply CG.region|apply SG.nil|apply NG.next|apply CG.skip|apply CG.block|apply CG.ret|apply CG.exit|apply NG.ret_then|apply NG.ret_block|apply NG.exit_then|refine NG.exit_block rfl ?_|apply NG.normal_block|refine SG.val rfl rfl rfl rfl (by first|((first|apply qmf|apply qmv|apply qas|apply qlc|apply qla|apply qfa|apply qic|apply qix|apply qpk|apply qls|apply qei|apply qni|apply qad|apply qln|apply qnt|apply qto|apply qmx)<;>(first|exact rfl|assumption|exact Ar.mk (by omega)|exact dct (by first|assumption|omega)|exact dcf (by first|assumption|omega)|exact List.not_mem_nil|apply dc_length|apply ec_length|apply dl_length|exact nm1 (by omega)|fail))|fail) ?_)
      refine SG.setAll (l := ec l[i]) rfl rfl (by exact rho_of rfl) (by exact rho_of rfl) hB5 (ec_length _) rfl (ec_one _) (fun w5 hk5 hB6 => ?_)
      have hr6 : Row w5 b5 0 (ec l[i]) := Row.all hB6 rfl
      have k5 : Kp [] w3 w5 := hk4.trans_new hk5 (new1 (by omega))
      have hf : ∀ W, Kp [] w5 W → Ret Try.prog 35 #[.slice (some ⟨ba, oa, none⟩) i c, ov l[i]] W (.bool (!(l.take i).any (fun x => !decide (fitP x l[i])))) := fun W hk => by
        have := fits_spec (c := c) (((hS.take i).kp0 (k3.trans k5)).kp0 hk) (by rw [hlen]; omega) l[i]
        rwa [hlen] at this
      have hbt := pw_take hlt hpw
      have hbf := pw_not (l := l) hlt
      generalize (l.take i).any (fun x => !decide (fitP x l[i])) = bb at hf hbt hbf
      repeat (first|apply CG.seq|apply CG.region|apply SG.nil|apply NG.next|apply CG.skip|apply CG.block|apply CG.ret|apply CG.exit|apply NG.ret_then|apply NG.ret_block|apply NG.exit_then|refine NG.exit_block rfl ?_|apply NG.normal_block|refine SG.val rfl rfl rfl rfl (by first|((first|apply qmf|apply qmv|apply qas|apply qlc|apply qla|apply qfa|apply qic|apply qix|apply qpk|apply qls|apply qei|apply qni|apply qad|apply qln|apply qnt|apply qto|apply qmx)<;>(first|exact rfl|assumption|exact Ar.mk (by omega)|exact dct (by first|assumption|omega)|exact dcf (by first|assumption|omega)|exact List.not_mem_nil|apply dc_length|apply ec_length|apply dl_length|exact nm1 (by omega)|fail))|fail) ?_)
      refine CG.draw0 mixed [0, 1, 2, 3, 4, 5] [] (by kernel_rfl) ?_
      repeat (refine Der.val rfl rfl rfl (by first|((first|apply qmf|apply qmv|apply qas|apply qlc|apply qla|apply qfa|apply qic|apply qix|apply qpk|apply qls|apply qei|apply qni|apply qad|apply qln|apply qnt|apply qto|apply qmx)<;>(first|exact rfl|assumption|exact Ar.mk (by omega)|exact dct (by first|assumption|omega)|exact dcf (by first|assumption|omega)|exact List.not_mem_nil|apply dc_length|apply ec_length|apply dl_length|exact nm1 (by omega)|fail))|fail) ?_)
      refine Der.call rfl rfl rfl (vs := [.slice (some ⟨ba, oa, none⟩) i c, ov l[i]]) (by repeat' (first | exact True.intro | exact rho_of rfl | refine And.intro ?_ ?_)) (fun W hk _ => hf W hk) ?_
      repeat (refine Der.val rfl rfl rfl (by first|((first|apply qmf|apply qmv|apply qas|apply qlc|apply qla|apply qfa|apply qic|apply qix|apply qpk|apply qls|apply qei|apply qni|apply qad|apply qln|apply qnt|apply qto|apply qmx)<;>(first|exact rfl|assumption|exact Ar.mk (by omega)|exact dct (by first|assumption|omega)|exact dcf (by first|assumption|omega)|exact List.not_mem_nil|apply dc_length|apply ec_length|apply dl_length|exact nm1 (by omega)|fail))|fail) ?_)
      refine Der.fin (fun w6 hk6 _ _ => ?_)
      have k6 := k5.trans hk6
      cases bb with
      | false =>
        repeat (first|apply CG.seq|apply CG.region|apply SG.nil|apply NG.next|apply CG.skip|apply CG.block|apply CG.ret|apply CG.exit|apply NG.ret_then|apply NG.ret_block|apply NG.exit_then|refine NG.exit_block rfl ?_|apply NG.normal_block|refine SG.val rfl rfl rfl rfl (by first|((first|apply qmf|apply qmv|apply qas|apply qlc|apply qla|apply qfa|apply qic|apply qix|apply qpk|apply qls|apply qei|apply qni|apply qad|apply qln|apply qnt|apply qto|apply qmx)<;>(first|exact rfl|assumption|exact Ar.mk (by omega)|exact dct (by first|assumption|omega)|exact dcf (by first|assumption|omega)|exact List.not_mem_nil|apply dc_length|apply ec_length|apply dl_length|exact nm1 (by omega)|fail))|fail) ?_)
        refine CG.cond_f rfl (by exact rho_of rfl) rfl ?_
        repeat (first|apply CG.seq|apply CG.region|apply SG.nil|apply NG.next|apply CG.skip|apply CG.block|apply CG.ret|apply CG.exit|apply NG.ret_then|apply NG.ret_block|apply NG.exit_then|refine NG.exit_block rfl ?_|apply NG.normal_block|refine SG.val rfl rfl rfl rfl (by first|((first|apply qmf|apply qmv|apply qas|apply qlc|apply qla|apply qfa|apply qic|apply qix|apply qpk|apply qls|apply qei|apply qni|apply qad|apply qln|apply qnt|apply qto|apply qmx)<;>(first|exact rfl|assumption|exact Ar.mk (by omega)|exact dct (by first|assumption|omega)|exact dcf (by first|assumption|omega)|exact List.not_mem_nil|apply dc_length|apply ec_length|apply dl_length|exact nm1 (by omega)|fail))|fail) ?_)
        refine NG.round (i + 1) (by (repeat' (first | exact True.intro | exact rfl | refine And.intro ?_ ?_))) ⟨by omega, hk3.trans k6, hbt rfl⟩ (by omega)
      | true =>
        have hno : ¬ (decide (l.Pairwise fitP) = true) := fun h => hbf rfl (of_decide_eq_true h)
        rw [if_neg hno] at e0
        repeat (first|apply CG.seq|apply CG.region|apply SG.nil|apply NG.next|apply CG.skip|apply CG.block|apply CG.ret|apply CG.exit|apply NG.ret_then|apply NG.ret_block|apply NG.exit_then|refine NG.exit_block rfl ?_|apply NG.normal_block|refine SG.val rfl rfl rfl rfl (by first|((first|apply qmf|apply qmv|apply qas|apply qlc|apply qla|apply qfa|apply qic|apply qix|apply qpk|apply qls|apply qei|apply qni|apply qad|apply qln|apply qnt|apply qto|apply qmx)<;>(first|exact rfl|assumption|exact Ar.mk (by omega)|exact dct (by first|assumption|omega)|exact dcf (by first|assumption|omega)|exact List.not_mem_nil|apply dc_length|apply ec_length|apply dl_length|exact nm1 (by omega)|fail))|fail) ?_)
        refine CG.cond_t rfl (by exact rho_of rfl) rfl ?_
        repeat (first|apply CG.seq|apply CG.region|apply SG.nil|apply NG.next|apply CG.skip|apply CG.block|apply CG.ret|apply CG.exit|apply NG.ret_then|apply NG.ret_block|apply NG.exit_then|refine NG.exit_block rfl ?_|apply NG.normal_block|refine SG.val rfl rfl rfl rfl (by first|((first|apply qmf|apply qmv|apply qas|apply qlc|apply qla|apply qfa|apply qic|apply qix|apply qpk|apply qls|apply qei|apply qni|apply qad|apply qln|apply qnt|apply qto|apply qmx)<;>(first|exact rfl|assumption|exact Ar.mk (by omega)|exact dct (by first|assumption|omega)|exact dcf (by first|assumption|omega)|exact List.not_mem_nil|apply dc_length|apply ec_length|apply dl_length|exact nm1 (by omega)|fail))|fail) ?_)
        refine SG.val rfl rfl rfl rfl (vals_build rfl bdz) ?_
        refine SG.setAll (old := dl zd (.slice none 0 0) 0 0) (l := dl zd (.slice none 0 0) 0 0) rfl rfl (by exact rho_of rfl) (by exact rho_of rfl) (hB2.kp0 k6) (dl_length _ _ _ _) (dl_length _ _ _ _) (dl_one _ _ _ _ _ _) (fun wz hkz hBz => ?_)
        have hrz : Row wz b2 0 (dl zd (.slice none 0 0) 0 0) := Row.all hBz rfl
        repeat (first|apply CG.seq|apply CG.region|apply SG.nil|apply NG.next|apply CG.skip|apply CG.block|apply CG.ret|apply CG.exit|apply NG.ret_then|apply NG.ret_block|apply NG.exit_then|refine NG.exit_block rfl ?_|apply NG.normal_block|refine SG.val rfl rfl rfl rfl (by first|((first|apply qmf|apply qmv|apply qas|apply qlc|apply qla|apply qfa|apply qic|apply qix|apply qpk|apply qls|apply qei|apply qni|apply qad|apply qln|apply qnt|apply qto|apply qmx)<;>(first|exact rfl|assumption|exact Ar.mk (by omega)|exact dct (by first|assumption|omega)|exact dcf (by first|assumption|omega)|exact List.not_mem_nil|apply dc_length|apply ec_length|apply dl_length|exact nm1 (by omega)|fail))|fail) ?_)
        refine ret2 (Or.inl rfl) Try.results11 (ResV.agg rfl rfl hrz (dl_length _ _ _ _)) (by first | exact ResV.tmp rfl | exact ResV.agg rfl rfl (by assumption) (by first | exact dc_length _ | exact nc_length _ | exact rc_length _ _ _ | exact ec_length _ | exact dl_length _ _ _ _ | rfl) | exact ResV.cell rfl rfl (by assumption)) ?_
        rw [e0]
        exact ⟨_, rfl, hz0 wz, (hk1.trans (hk2.trans (hk3.trans k6))).trans_new hkz (new1 (by omega))⟩
    have g1 : ¬ (i : Int) < (l.length : Int) := by omega
    rw [List.take_of_length_le (by omega)] at hpw
    rw [if_pos (decide_eq_true hpw)] at e0
    have k3 := (hk1.trans hk2).trans hk3
    have k13 := hk2.trans hk3
    have rru := rru.kp0 k13
    repeat (first|apply CG.seq|apply CG.region|apply SG.nil|apply NG.next|apply CG.skip|apply CG.block|apply CG.ret|apply CG.exit|apply NG.ret_then|apply NG.ret_block|apply NG.exit_then|refine NG.exit_block rfl ?_|apply NG.normal_block|refine SG.val rfl rfl rfl rfl (by first|((first|apply qmf|apply qmv|apply qas|apply qlc|apply qla|apply qfa|apply qic|apply qix|apply qpk|apply qls|apply qei|apply qni|apply qad|apply qln|apply qnt|apply qto|apply qmx)<;>(first|exact rfl|assumption|exact Ar.mk (by omega)|exact dct (by first|assumption|omega)|exact dcf (by first|assumption|omega)|exact List.not_mem_nil|apply dc_length|apply ec_length|apply dl_length|exact nm1 (by omega)|fail))|fail) ?_)
    refine CG.cond_f rfl (by exact rho_of rfl) rfl ?_
    repeat (first|apply CG.seq|apply CG.region|apply SG.nil|apply NG.next|apply CG.skip|apply CG.block|apply CG.ret|apply CG.exit|apply NG.ret_then|apply NG.ret_block|apply NG.exit_then|refine NG.exit_block rfl ?_|apply NG.normal_block|refine SG.val rfl rfl rfl rfl (by first|((first|apply qmf|apply qmv|apply qas|apply qlc|apply qla|apply qfa|apply qic|apply qix|apply qpk|apply qls|apply qei|apply qni|apply qad|apply qln|apply qnt|apply qto|apply qmx)<;>(first|exact rfl|assumption|exact Ar.mk (by omega)|exact dct (by first|assumption|omega)|exact dcf (by first|assumption|omega)|exact List.not_mem_nil|apply dc_length|apply ec_length|apply dl_length|exact nm1 (by omega)|fail))|fail) ?_)
    refine SG.val rfl rfl rfl rfl (vals_build rfl (bdr _)) ?_
    refine SG.alloc rfl rfl rfl (fun b8 w4 hk4 hb8 hB8 => ?_)
    refine SG.setAll (l := dl o.rules (.slice none 0 0) 0 0) rfl rfl (by exact rho_of rfl) (by exact rho_of rfl) hB8 (dl_length _ _ _ _) rfl (dl_one _ _ _ _ _ _) (fun w5 hk5 hB9 => ?_)
    have hB9 : Blk w5 b8 (.cells (dl o.rules (.slice none 0 0) 0 0).toArray 27) := hB9
    have s3 := k3.size
    have s13 := k13.size
    have s4 := hk4.size
    have s5 := hk5.size
    have l8 := hB9.lt
    have k5 : Kp [] w3 w5 := hk4.trans_new hk5 (new1 (by omega))
    repeat (first|apply CG.seq|apply CG.region|apply SG.nil|apply NG.next|apply CG.skip|apply CG.block|apply CG.ret|apply CG.exit|apply NG.ret_then|apply NG.ret_block|apply NG.exit_then|refine NG.exit_block rfl ?_|apply NG.normal_block|refine SG.val rfl rfl rfl rfl (by first|((first|apply qmf|apply qmv|apply qas|apply qlc|apply qla|apply qfa|apply qic|apply qix|apply qpk|apply qls|apply qei|apply qni|apply qad|apply qln|apply qnt|apply qto|apply qmx)<;>(first|exact rfl|assumption|exact Ar.mk (by omega)|exact dct (by first|assumption|omega)|exact dcf (by first|assumption|omega)|exact List.not_mem_nil|apply dc_length|apply ec_length|apply dl_length|exact nm1 (by omega)|fail))|fail) ?_)
    refine CG.loop (X := Value × Nat) (fun x => [(0, .slice (some ⟨ba, oa, none⟩) l.length c), (2, .pointer (some ⟨b2, 0, none⟩)), (8, .pointer (some ⟨b8, 0, none⟩)), (56, .slice (some ⟨ba, oa, none⟩) l.length c), (57, .int .i64 (l.length : Int)), (58, .int .i64 (x.2 : Int))])
      (fun x w' => x.2 ≤ l.length ∧ Kp [] w3 w' ∧ w5.heap.size ≤ w'.heap.size ∧ Blk w' b8 (.cells (dl o.rules x.1 (maxs (·.least) (l.take x.2)) (maxs (·.window) (l.take x.2))).toArray 27) ∧ w'.ownsRow w3.heap.size 24 8 x.1 ((l.take x.2).map (·.who)).length (flt dc ((l.take x.2).map (·.who)))) (fun x => l.length - x.2) (.slice none 0 0, 0) ⟨by simp only; omega, k5, Nat.le_refl _, by simp only [List.take_zero, maxs_nil]; exact hB9, own_nil⟩ (by (repeat' (first | exact True.intro | exact rfl | refine And.intro ?_ ?_))) ?_
    clear hi g1 hlt i hpw
    rintro ⟨v, i⟩ w6 ⟨hi, hk6, s6, hB, hov⟩
    simp only at hi hB hov
    refine CG.to [(0, .slice (some ⟨ba, oa, none⟩) l.length c), (2, .pointer (some ⟨b2, 0, none⟩)), (8, .pointer (some ⟨b8, 0, none⟩)), (56, .slice (some ⟨ba, oa, none⟩) l.length c), (57, .int .i64 (l.length : Int)), (58, .int .i64 (i : Int))] (by (repeat' (first | exact True.intro | exact rfl | refine And.intro ?_ ?_))) ?_
    have hlen : ((l.take i).map (·.who)).length = i := by rw [List.length_map, List.length_take]; omega
    obtain ⟨av, cv, rfl, hcv, hSv⟩ := Sl.own dc_length hov rfl
    by_cases hlt : i < l.length
    · have g1 : (i : Int) < (l.length : Int) := by omega
      have hri := (hS.kp0 (k3.trans hk6)).row (List.getElem?_eq_getElem hlt)
      have em1 := maxs_snoc (·.least) l i hlt
      have em2 := maxs_snoc (·.window) l i hlt
      repeat (first|apply CG.seq|apply CG.region|apply SG.nil|apply NG.next|apply CG.skip|apply CG.block|apply CG.ret|apply CG.exit|apply NG.ret_then|apply NG.ret_block|apply NG.exit_then|refine NG.exit_block rfl ?_|apply NG.normal_block|refine SG.val rfl rfl rfl rfl (by first|((first|apply qmf|apply qmv|apply qas|apply qlc|apply qla|apply qfa|apply qic|apply qix|apply qpk|apply qls|apply qei|apply qni|apply qad|apply qln|apply qnt|apply qto|apply qmx)<;>(first|exact rfl|assumption|exact Ar.mk (by omega)|exact dct (by first|assumption|omega)|exact dcf (by first|assumption|omega)|exact List.not_mem_nil|apply dc_length|apply ec_length|apply dl_length|exact nm1 (by omega)|fail))|fail) ?_)
      refine CG.cond_t rfl (by exact rho_of rfl) rfl ?_
      repeat (first|apply CG.seq|apply CG.region|apply SG.nil|apply NG.next|apply CG.skip|apply CG.block|apply CG.ret|apply CG.exit|apply NG.ret_then|apply NG.ret_block|apply NG.exit_then|refine NG.exit_block rfl ?_|apply NG.normal_block|refine SG.val rfl rfl rfl rfl (by first|((first|apply qmf|apply qmv|apply qas|apply qlc|apply qla|apply qfa|apply qic|apply qix|apply qpk|apply qls|apply qei|apply qni|apply qad|apply qln|apply qnt|apply qto|apply qmx)<;>(first|exact rfl|assumption|exact Ar.mk (by omega)|exact dct (by first|assumption|omega)|exact dcf (by first|assumption|omega)|exact List.not_mem_nil|apply dc_length|apply ec_length|apply dl_length|exact nm1 (by omega)|fail))|fail) ?_)
      refine SG.alloc rfl rfl rfl (fun b10 w7 hk7 hb10 hB10 => ?_)
      refine SG.setAll (l := ec l[i]) rfl rfl (by exact rho_of rfl) (by exact rho_of rfl) hB10 (ec_length _) rfl (ec_one _) (fun w8 hk8 hB11 => ?_)
      have hB11 : Blk w8 b10 (.cells (ec l[i]).toArray 47) := hB11
      have k8 : Kp [] w6 w8 := hk7.trans_new hk8 (new1 (by omega))
      obtain ⟨q0, -, -, q3, -, q5, -, -⟩ := ec_rows hB11
      have hBa := hB.kp0 k8
      obtain ⟨-, d1, d2, d3, -⟩ := dl_rows hBa
      have s7 := hk7.size
      have l10 := hB11.lt
      repeat (first|apply CG.seq|apply CG.region|apply SG.nil|apply NG.next|apply CG.skip|apply CG.block|apply CG.ret|apply CG.exit|apply NG.ret_then|apply NG.ret_block|apply NG.exit_then|refine NG.exit_block rfl ?_|apply NG.normal_block|refine SG.val rfl rfl rfl rfl (by first|((first|apply qmf|apply qmv|apply qas|apply qlc|apply qla|apply qfa|apply qic|apply qix|apply qpk|apply qls|apply qei|apply qni|apply qad|apply qln|apply qnt|apply qto|apply qmx)<;>(first|exact rfl|assumption|exact Ar.mk (by omega)|exact dct (by first|assumption|omega)|exact dcf (by first|assumption|omega)|exact List.not_mem_nil|apply dc_length|apply ec_length|apply dl_length|exact nm1 (by omega)|fail))|fail) ?_)
      refine SG.buildSlice rfl rfl rfl rfl (bsg _) (fun b12 w9 hk9 hb12 hB12 => ?_)
      have k9 := k8.trans hk9
      have hov9 := own_kp0 hov k9
      refine SG.appO (enc := dc) (xs := (l.take i).map (·.who)) (ys := [l[i].who]) (base := w3.heap.size) rfl rfl rfl (by exact rho_of rfl) (by exact rho_of rfl) rfl rfl rfl rfl dc_length dc_one hov9 (sl_one dc_length hB12) (by rw [hlen]; simp only [maxLen, List.length_cons, List.length_nil]; omega) (by rw [hlen]; show (i + 1) * 8 ≤ _; omega) (hk6.trans k9).size (fun v13 w10 hk10 ho13 _ => ?_)
      have e : (l.take i).map (·.who) ++ [l[i].who] = (l.take (i + 1)).map (·.who) := by rw [List.take_succ_eq_append_getElem hlt, List.map_append]; rfl
      rw [e] at ho13
      have hBb := blk_own hov9 (by decide) (hBa.kp0 hk9) hk10
      have hBo := blk_own hov9 (by decide) (hB11.kp0 hk9) hk10
      have k10 : Kp [] w3 w10 := (hk6.trans k9).trans_new hk10 (own_new hov9 (Nat.le_refl _))
      obtain ⟨a13, c13, rfl, _, _⟩ := Sl.own dc_length ho13 rfl
      repeat (first|apply CG.seq|apply CG.region|apply SG.nil|apply NG.next|apply CG.skip|apply CG.block|apply CG.ret|apply CG.exit|apply NG.ret_then|apply NG.ret_block|apply NG.exit_then|refine NG.exit_block rfl ?_|apply NG.normal_block|refine SG.val rfl rfl rfl rfl (by first|((first|apply qmf|apply qmv|apply qas|apply qlc|apply qla|apply qfa|apply qic|apply qix|apply qpk|apply qls|apply qei|apply qni|apply qad|apply qln|apply qnt|apply qto|apply qmx)<;>(first|exact rfl|assumption|exact Ar.mk (by omega)|exact dct (by first|assumption|omega)|exact dcf (by first|assumption|omega)|exact List.not_mem_nil|apply dc_length|apply ec_length|apply dl_length|exact nm1 (by omega)|fail))|fail) ?_)
      refine SG.store rfl rfl (by exact rho_of rfl) (by exact rho_of rfl) hBb rfl (by show 8 + 1 ≤ _; simp [dl_length]) rfl (fun w11 hk11 hBc => ?_)
      have ho14 := own_kp ho13 hk11 (own_neb ho13 (by decide) hBb)
      have hBc : Blk w11 b8 (.cells (spl (dl o.rules (.slice av ((l.take i).map (·.who)).length cv) (maxs (·.least) (l.take i)) (maxs (·.window) (l.take i))) 8 [.slice a13 ((l.take (i + 1)).map (·.who)).length c13]).toArray 27) := hBc
      rw [dl_set1] at hBc
      have hBo := hBo.kp hk11 (nm1 (by omega))
      obtain ⟨-, -, d2, d3, -⟩ := dl_rows hBc
      obtain ⟨-, -, -, q3, -, -, -, -⟩ := ec_rows hBo
      repeat (first|apply CG.seq|apply CG.region|apply SG.nil|apply NG.next|apply CG.skip|apply CG.block|apply CG.ret|apply CG.exit|apply NG.ret_then|apply NG.ret_block|apply NG.exit_then|refine NG.exit_block rfl ?_|apply NG.normal_block|refine SG.val rfl rfl rfl rfl (by first|((first|apply qmf|apply qmv|apply qas|apply qlc|apply qla|apply qfa|apply qic|apply qix|apply qpk|apply qls|apply qei|apply qni|apply qad|apply qln|apply qnt|apply qto|apply qmx)<;>(first|exact rfl|assumption|exact Ar.mk (by omega)|exact dct (by first|assumption|omega)|exact dcf (by first|assumption|omega)|exact List.not_mem_nil|apply dc_length|apply ec_length|apply dl_length|exact nm1 (by omega)|fail))|fail) ?_)
      rw [← em1]
      refine SG.store rfl rfl (by exact rho_of rfl) (by exact rho_of rfl) hBc rfl (by show 9 + 1 ≤ _; simp [dl_length]) rfl (fun w12 hk12 hBd => ?_)
      have ho15 := own_kp ho14 hk12 (own_neb ho14 (by decide) hBc)
      have hBd : Blk w12 b8 (.cells (spl (dl o.rules (.slice a13 ((l.take (i + 1)).map (·.who)).length c13) (maxs (·.least) (l.take i)) (maxs (·.window) (l.take i))) 9 [.int .i64 (maxs (·.least) (l.take (i + 1)))]).toArray 27) := hBd
      rw [dl_set2] at hBd
      have hBo := hBo.kp hk12 (nm1 (by omega))
      obtain ⟨-, -, -, d3, -⟩ := dl_rows hBd
      obtain ⟨-, -, -, -, -, q5, -, -⟩ := ec_rows hBo
      repeat (first|apply CG.seq|apply CG.region|apply SG.nil|apply NG.next|apply CG.skip|apply CG.block|apply CG.ret|apply CG.exit|apply NG.ret_then|apply NG.ret_block|apply NG.exit_then|refine NG.exit_block rfl ?_|apply NG.normal_block|refine SG.val rfl rfl rfl rfl (by first|((first|apply qmf|apply qmv|apply qas|apply qlc|apply qla|apply qfa|apply qic|apply qix|apply qpk|apply qls|apply qei|apply qni|apply qad|apply qln|apply qnt|apply qto|apply qmx)<;>(first|exact rfl|assumption|exact Ar.mk (by omega)|exact dct (by first|assumption|omega)|exact dcf (by first|assumption|omega)|exact List.not_mem_nil|apply dc_length|apply ec_length|apply dl_length|exact nm1 (by omega)|fail))|fail) ?_)
      rw [← em2]
      refine SG.store rfl rfl (by exact rho_of rfl) (by exact rho_of rfl) hBd rfl (by show 10 + 1 ≤ _; simp [dl_length]) rfl (fun w13 hk13 hBe => ?_)
      have ho16 := own_kp ho15 hk13 (own_neb ho15 (by decide) hBd)
      have hBe : Blk w13 b8 (.cells (spl (dl o.rules (.slice a13 ((l.take (i + 1)).map (·.who)).length c13) (maxs (·.least) (l.take (i + 1))) (maxs (·.window) (l.take i))) 10 [.int .i64 (maxs (·.window) (l.take (i + 1)))]).toArray 27) := hBe
      rw [dl_set3] at hBe
      have s9 := (hk6.trans k9).size
      have k13 : Kp [] w3 w13 := ((k10.trans_new hk11 (new1 (by omega))).trans_new hk12 (new1 (by omega))).trans_new hk13 (new1 (by omega))
      have z1 := k9.size
      have z2 := hk10.size
      have z3 := hk11.size
      have z4 := hk12.size
      have z5 := hk13.size
      repeat (first|apply CG.seq|apply CG.region|apply SG.nil|apply NG.next|apply CG.skip|apply CG.block|apply CG.ret|apply CG.exit|apply NG.ret_then|apply NG.ret_block|apply NG.exit_then|refine NG.exit_block rfl ?_|apply NG.normal_block|refine SG.val rfl rfl rfl rfl (by first|((first|apply qmf|apply qmv|apply qas|apply qlc|apply qla|apply qfa|apply qic|apply qix|apply qpk|apply qls|apply qei|apply qni|apply qad|apply qln|apply qnt|apply qto|apply qmx)<;>(first|exact rfl|assumption|exact Ar.mk (by omega)|exact dct (by first|assumption|omega)|exact dcf (by first|assumption|omega)|exact List.not_mem_nil|apply dc_length|apply ec_length|apply dl_length|exact nm1 (by omega)|fail))|fail) ?_)
      refine NG.round (.slice a13 ((l.take (i + 1)).map (·.who)).length c13, i + 1) (by (repeat' (first | exact True.intro | exact rfl | refine And.intro ?_ ?_))) ⟨by simp only; omega, k13, by omega, hBe, ho16⟩ (by simp only; omega)
    · have g1 : ¬ (i : Int) < (l.length : Int) := by omega
      rw [List.take_of_length_le (by omega)] at hov hB hSv ⊢
      have k6 := k3.trans hk6
      repeat (first|apply CG.seq|apply CG.region|apply SG.nil|apply NG.next|apply CG.skip|apply CG.block|apply CG.ret|apply CG.exit|apply NG.ret_then|apply NG.ret_block|apply NG.exit_then|refine NG.exit_block rfl ?_|apply NG.normal_block|refine SG.val rfl rfl rfl rfl (by first|((first|apply qmf|apply qmv|apply qas|apply qlc|apply qla|apply qfa|apply qic|apply qix|apply qpk|apply qls|apply qei|apply qni|apply qad|apply qln|apply qnt|apply qto|apply qmx)<;>(first|exact rfl|assumption|exact Ar.mk (by omega)|exact dct (by first|assumption|omega)|exact dcf (by first|assumption|omega)|exact List.not_mem_nil|apply dc_length|apply ec_length|apply dl_length|exact nm1 (by omega)|fail))|fail) ?_)
      refine CG.cond_f rfl (by exact rho_of rfl) rfl ?_
      repeat (first|apply CG.seq|apply CG.region|apply SG.nil|apply NG.next|apply CG.skip|apply CG.block|apply CG.ret|apply CG.exit|apply NG.ret_then|apply NG.ret_block|apply NG.exit_then|refine NG.exit_block rfl ?_|apply NG.normal_block|refine SG.val rfl rfl rfl rfl (by first|((first|apply qmf|apply qmv|apply qas|apply qlc|apply qla|apply qfa|apply qic|apply qix|apply qpk|apply qls|apply qei|apply qni|apply qad|apply qln|apply qnt|apply qto|apply qmx)<;>(first|exact rfl|assumption|exact Ar.mk (by omega)|exact dct (by first|assumption|omega)|exact dcf (by first|assumption|omega)|exact List.not_mem_nil|apply dc_length|apply ec_length|apply dl_length|exact nm1 (by omega)|fail))|fail) ?_)
      refine SG.ret rfl rfl rfl (vs := [.slice (some ⟨ba, oa, none⟩) l.length c]) (by repeat' (first | exact True.intro | exact rho_of rfl | refine And.intro ?_ ?_)) (mix_spec (c := c) (hS.kp0 k6) (by omega)) (fun w7 hk7 => ?_)
      refine SG.alloc rfl rfl rfl (fun b11 w8 hk8 hb11 hB11 => ?_)
      refine SG.setAll (l := dc (mixD l)) rfl rfl (by exact rho_of rfl) (by exact rho_of rfl) hB11 (dc_length _) rfl (dc_one _) (fun w9 hk9 hB12 => ?_)
      have hr12 : Row w9 b11 0 (dc (mixD l)) := Row.all hB12 rfl
      have s7 := hk7.size
      have k9 : Kp [] w6 w9 := (hk7.trans hk8).trans_new hk9 (new1 (by omega))
      have hov9 := own_kp0 hov k9
      have hBd := hB.kp0 k9
      obtain ⟨-, d1, -, -, -⟩ := dl_rows hBd
      have hlt6 := own_lt hov
      have hnb : b11 ∉ ownB (.slice av (l.map (·.who)).length cv) := own_notB (fun b hb => by have := hlt6 b hb; omega)
      repeat (first|apply CG.seq|apply CG.region|apply SG.nil|apply NG.next|apply CG.skip|apply CG.block|apply CG.ret|apply CG.exit|apply NG.ret_then|apply NG.ret_block|apply NG.exit_then|refine NG.exit_block rfl ?_|apply NG.normal_block|refine SG.val rfl rfl rfl rfl (by first|((first|apply qmf|apply qmv|apply qas|apply qlc|apply qla|apply qfa|apply qic|apply qix|apply qpk|apply qls|apply qei|apply qni|apply qad|apply qln|apply qnt|apply qto|apply qmx)<;>(first|exact rfl|assumption|exact Ar.mk (by omega)|exact dct (by first|assumption|omega)|exact dcf (by first|assumption|omega)|exact List.not_mem_nil|apply dc_length|apply ec_length|apply dl_length|exact nm1 (by omega)|fail))|fail) ?_)
      refine SG.val rfl rfl rfl rfl (qmf (vs := [.pointer (some ⟨b11, 0, none⟩)]) rfl) ?_
      have hsw := sortw_spec (m := mixD l) (bm := b11) hov9 (by rw [List.length_map]; omega) hr12 hnb
      refine SG.call rfl rfl rfl (vs := [.slice av (l.map (·.who)).length cv, fnv 38 [.pointer (some ⟨b11, 0, none⟩)]]) ⟨rho_of rfl, rho_of rfl, True.intro⟩ ?_
      refine hsw.mono (fun e w10 hh => ?_)
      obtain ⟨he, hk10, ho10⟩ := hh
      refine ⟨_, he, ?_⟩
      have hBe := blk_own hov9 (by decide) hBd hk10
      have hB2z := blk_own hov9 (by decide) ((hB2.kp0 hk6).kp0 k9) hk10
      have hrd := Row.all (l := dl o.rules (.slice av (l.map (·.who)).length cv) (maxs (·.least) l) (maxs (·.window) l)) hBe rfl
      have k10 : Kp [] w3 w10 := (hk6.trans k9).trans_new hk10 (own_new hov9 (Nat.le_refl _))
      repeat (first|apply CG.seq|apply CG.region|apply SG.nil|apply NG.next|apply CG.skip|apply CG.block|apply CG.ret|apply CG.exit|apply NG.ret_then|apply NG.ret_block|apply NG.exit_then|refine NG.exit_block rfl ?_|apply NG.normal_block|refine SG.val rfl rfl rfl rfl (by first|((first|apply qmf|apply qmv|apply qas|apply qlc|apply qla|apply qfa|apply qic|apply qix|apply qpk|apply qls|apply qei|apply qni|apply qad|apply qln|apply qnt|apply qto|apply qmx)<;>(first|exact rfl|assumption|exact Ar.mk (by omega)|exact dct (by first|assumption|omega)|exact dcf (by first|assumption|omega)|exact List.not_mem_nil|apply dc_length|apply ec_length|apply dl_length|exact nm1 (by omega)|fail))|fail) ?_)
      refine SG.setAll (old := dl zd (.slice none 0 0) 0 0) (l := dl o.rules (.slice av (l.map (·.who)).length cv) (maxs (·.least) l) (maxs (·.window) l)) rfl rfl (by exact rho_of rfl) (by exact rho_of rfl) hB2z (dl_length _ _ _ _) (dl_length _ _ _ _) (dl_one _ _ _ _ _ _) (fun w11 hk11 hB13 => ?_)
      have hrz : Row w11 b2 0 (dl o.rules (.slice av (l.map (·.who)).length cv) (maxs (·.least) l) (maxs (·.window) l)) := Row.all hB13 rfl
      have ho11 := own_kp ho10 hk11 (own_neb ho10 (by decide) hB2z)
      repeat (first|apply CG.seq|apply CG.region|apply SG.nil|apply NG.next|apply CG.skip|apply CG.block|apply CG.ret|apply CG.exit|apply NG.ret_then|apply NG.ret_block|apply NG.exit_then|refine NG.exit_block rfl ?_|apply NG.normal_block|refine SG.val rfl rfl rfl rfl (by first|((first|apply qmf|apply qmv|apply qas|apply qlc|apply qla|apply qfa|apply qic|apply qix|apply qpk|apply qls|apply qei|apply qni|apply qad|apply qln|apply qnt|apply qto|apply qmx)<;>(first|exact rfl|assumption|exact Ar.mk (by omega)|exact dct (by first|assumption|omega)|exact dcf (by first|assumption|omega)|exact List.not_mem_nil|apply dc_length|apply ec_length|apply dl_length|exact nm1 (by omega)|fail))|fail) ?_)
      refine ret2 (Or.inl rfl) Try.results11 (ResV.agg rfl rfl hrz (dl_length _ _ _ _)) (by first | exact ResV.tmp rfl | exact ResV.agg rfl rfl (by assumption) (by first | exact dc_length _ | exact nc_length _ | exact rc_length _ _ _ | exact ec_length _ | exact dl_length _ _ _ _ | rfl) | exact ResV.cell rfl rfl (by assumption)) ?_
      rw [e0]
      have elen : (l.map (·.who)).length = (sortK (kW (mixD l)) (l.map (·.who))).length := (sortK_perm _ (l.map (·.who))).length_eq.symm
      refine ⟨_, rfl, ⟨_, rfl, ?_⟩, (k3.trans k10).trans_new hk11 (new1 (by omega))⟩
      show w11.ownsRow w.heap.size 24 8 (.slice av (l.map (·.who)).length cv) (sortK (kW (mixD l)) (l.map (·.who))).length (flt dc (sortK (kW (mixD l)) (l.map (·.who))))
      rw [← elen]
      exact own_mono ho11 k3.size
end Go.Proofs.Ytnoipmimddoioaa
/-
  The law's own: offers turned, the chapter's example.
-/
namespace Go.Proofs.Ytnoipmimddoioaa
open Go.Proofs Go.Shelf Go.Sort
set_option linter.unusedVariables false

set_option maxRecDepth 20000 in
theorem bso' (w : World) (a0 a1 a2 a3 a4 a5 a6 a7 b0 b1 b2 b3 b4 b5 b6 b7 : UInt8) (x y z u v : Int) : (Instr.buildSlice 31 1 #[(0, .agg #[bv a0, bv a1, bv a2, bv a3, bv a4, bv a5, bv a6, bv a7, bv b0, bv b1, bv b2, bv b3, bv b4, bv b5, bv b6, bv b7, .int .i64 x, .int .i64 y, .int .i64 z, .int .i64 u, .int .i64 v])]).run Try.prog w = .ok (.slice (some ⟨w.heap.size, 0, none⟩) 1 1) { w with heap := w.heap.push (.cells #[bv a0, bv a1, bv a2, bv a3, bv a4, bv a5, bv a6, bv a7, bv b0, bv b1, bv b2, bv b3, bv b4, bv b5, bv b6, bv b7, .int .i64 x, .int .i64 y, .int .i64 z, .int .i64 u, .int .i64 v] 47) } := by kernel_rfl
theorem bso (o : Ofr) (w : World) : (Instr.buildSlice 31 1 #[(0, ov o)]).run Try.prog w = .ok (.slice (some ⟨w.heap.size, 0, none⟩) 1 1) { w with heap := w.heap.push (.cells (ec o).toArray 47) } := by
  obtain ⟨⟨l, hl⟩, ⟨m, hm⟩, x, y, z, u, v⟩ := o
  match l, hl, m, hm with
  | [a0, a1, a2, a3, a4, a5, a6, a7], _, [b0, b1, b2, b3, b4, b5, b6, b7], _ => exact bso' w a0 a1 a2 a3 a4 a5 a6 a7 b0 b1 b2 b3 b4 b5 b6 b7 x y z u v
set_option maxRecDepth 20000 in
theorem bto' (w : World) (a0 a1 a2 a3 a4 a5 a6 a7 b0 b1 b2 b3 b4 b5 b6 b7 : UInt8) (x y z u v : Int) : (Instr.build 47 #[(0, .agg #[bv a0, bv a1, bv a2, bv a3, bv a4, bv a5, bv a6, bv a7]), (1, .agg #[bv b0, bv b1, bv b2, bv b3, bv b4, bv b5, bv b6, bv b7]), (2, .int .i64 x), (3, .int .i64 y), (4, .int .i64 z), (5, .int .i64 u), (6, .int .i64 v)]).run Try.prog w = .ok (.agg #[bv a0, bv a1, bv a2, bv a3, bv a4, bv a5, bv a6, bv a7, bv b0, bv b1, bv b2, bv b3, bv b4, bv b5, bv b6, bv b7, .int .i64 x, .int .i64 y, .int .i64 z, .int .i64 u, .int .i64 v]) w := by kernel_rfl
theorem bto (o : Ofr) (w : World) : (Instr.build 47 #[(0, dv o.who), (1, dv o.rules), (2, .int .i64 o.seats), (3, .int .i64 o.least), (4, .int .i64 o.most), (5, .int .i64 o.window), (6, .int .i64 o.till)]).run Try.prog w = .ok (ov o) w := by
  obtain ⟨⟨l, hl⟩, ⟨m, hm⟩, x, y, z, u, v⟩ := o
  match l, hl, m, hm with
  | [a0, a1, a2, a3, a4, a5, a6, a7], _, [b0, b1, b2, b3, b4, b5, b6, b7], _ => exact bto' w a0 a1 a2 a3 a4 a5 a6 a7 b0 b1 b2 b3 b4 b5 b6 b7 x y z u v
def d1 (x : UInt8) : Dg := ⟨[x, 0, 0, 0, 0, 0, 0, 0], rfl⟩
theorem bd1 (x : UInt8) (w : World) : (Instr.build 24 #[(0, bv x)]).run Try.prog w = .ok (dv (d1 x)) w := by kernel_rfl
def oneO (x : UInt8) (least most window : Int) : Ofr := ⟨d1 x, d1 7, 2, least, most, window, 50⟩
set_option maxRecDepth 20000 in
theorem bso2' (w : World) (a b : UInt8) (x y z x' y' z' : Int) : (Instr.buildSlice 31 2 #[(0, ov (oneO a x y z)), (1, ov (oneO b x' y' z'))]).run Try.prog w = .ok (.slice (some ⟨w.heap.size, 0, none⟩) 2 2) { w with heap := w.heap.push (.cells (flt ec [oneO a x y z, oneO b x' y' z']).toArray 47) } := by kernel_rfl
theorem own_sl {w : World} {base n sz : Nat} {T : TypeId} {v : Value} {xs : List Value} (ho : w.ownsRow base T sz v n xs) : ∃ a c, v = .slice a n c := by
  rcases ho.2 with ⟨rfl, rfl⟩ | ⟨g, cap, cur, rfl, _⟩
  · exact ⟨_, _, rfl⟩
  · exact ⟨_, _, rfl⟩

attribute [local irreducible] CG NG SG Vals Der Row Blk MapIs IterAt addI xorI orI andI shlI shrI mulI twoI cmpD cmpW kW digO manyI mixD sortK maxs
set_option maxHeartbeats 16000000 in
theorem to_spec (o : Ofr) (w : World) : Ret Try.prog 19 #[ov o] w (ov o) := by
  refine enter1 Try.func19 rfl Try.ntmps19 rfl ?_
  repeat (first|apply CG.seq|apply CG.region|apply SG.nil|apply NG.next|apply CG.skip|apply CG.block|apply CG.ret|apply CG.exit|apply NG.exit_then|refine NG.exit_block rfl ?_|apply NG.normal_block|refine SG.val rfl rfl rfl rfl (by first|((first|apply qmv|apply qas|apply qlc|apply qla|apply qfa|apply qix|apply qpk|apply qls|apply qad|apply qln)<;>(first|exact rfl|assumption|exact Ar.mk (by omega)|exact dct (by first|assumption|omega)|exact dcf (by first|assumption|omega)|exact List.not_mem_nil|apply dc_length|apply ec_length|fail))|fail) ?_)
  refine SG.box rfl rfl rfl (by exact rho_of rfl) (fun b1 w1 hk1 hb1 hB1 => ?_)
  have hB1 : Blk w1 b1 (.cells (ec o).toArray 35) := hB1
  refine SG.alloc rfl rfl rfl (fun b2 w2 hk2 hb2 hB2 => ?_)
  obtain ⟨r0, r1, r2, r3, r4, r5, r6, -⟩ := ec_rows (hB1.kp0 hk2)
  repeat (first|apply CG.seq|apply CG.region|apply SG.nil|apply NG.next|apply CG.skip|apply CG.block|apply CG.ret|apply CG.exit|apply NG.exit_then|refine NG.exit_block rfl ?_|apply NG.normal_block|refine SG.val rfl rfl rfl rfl (by first|((first|apply qmv|apply qas|apply qlc|apply qla|apply qfa|apply qix|apply qpk|apply qls|apply qad|apply qln)<;>(first|exact rfl|assumption|exact Ar.mk (by omega)|exact dct (by first|assumption|omega)|exact dcf (by first|assumption|omega)|exact List.not_mem_nil|apply dc_length|apply ec_length|fail))|fail) ?_)
  refine SG.val rfl rfl rfl rfl (vals_build rfl (bto o)) ?_
  refine SG.setAll (l := ec o) rfl rfl (by exact rho_of rfl) (by exact rho_of rfl) hB2 (ec_length _) rfl (ec_one _) (fun w3 hk3 hB3 => ?_)
  have hr : Row w3 b2 0 (ec o) := Row.all hB3 rfl
  have s1 := hk1.size
  repeat (first|apply CG.seq|apply CG.region|apply SG.nil|apply NG.next|apply CG.skip|apply CG.block|apply CG.ret|apply CG.exit|apply NG.exit_then|refine NG.exit_block rfl ?_|apply NG.normal_block|refine SG.val rfl rfl rfl rfl (by first|((first|apply qmv|apply qas|apply qlc|apply qla|apply qfa|apply qix|apply qpk|apply qls|apply qad|apply qln)<;>(first|exact rfl|assumption|exact Ar.mk (by omega)|exact dct (by first|assumption|omega)|exact dcf (by first|assumption|omega)|exact List.not_mem_nil|apply dc_length|apply ec_length|fail))|fail) ?_)
  refine ret1 (Or.inl rfl) Try.results19 (by first | exact ResV.tmp rfl | exact ResV.agg rfl rfl (by assumption) (by first | exact dc_length _ | exact nc_length _ | exact rc_length _ _ _ | exact ec_length _ | exact dl_length _ _ _ _ | rfl) | exact ResV.cell rfl rfl (by assumption)) ?_
  exact ⟨rfl, (hk1.trans hk2).trans_new hk3 (new1 (by omega))⟩
set_option maxHeartbeats 16000000 in
theorem all_spec {w : World} {l : List Ofr} {a : Option Addr} {c : Nat} (hS : Sl ec 21 w a l) (m : Nat) (hm : m ≤ 1000) (hl : l.length < 9223372036854775808) : RetO Try.prog 47 ec 21 12 #[.slice a l.length c, .int .i64 (m : Int)] w (l.take m) := by
  refine enter2 Try.func12 rfl Try.ntmps12 rfl ?_
  clear hl
  repeat (first|apply CG.seq|apply CG.region|apply SG.nil|apply NG.next|apply CG.skip|apply CG.block|apply CG.ret|apply CG.exit|apply NG.exit_then|refine NG.exit_block rfl ?_|apply NG.normal_block|refine SG.val rfl rfl rfl rfl (by first|((first|apply qmv|apply qas|apply qlc|apply qla|apply qfa|apply qix|apply qpk|apply qls|apply qad|apply qln)<;>(first|exact rfl|assumption|exact Ar.mk (by omega)|exact dct (by first|assumption|omega)|exact dcf (by first|assumption|omega)|exact List.not_mem_nil|apply dc_length|apply ec_length|fail))|fail) ?_)
  refine CG.loop (X := Value × Nat) (fun x => [(0, .slice a l.length c), (1, .int .i64 (m : Int)), (5, x.1), (6, .int .i64 (x.2 : Int))]) (fun x w' => x.2 ≤ m ∧ x.2 ≤ l.length ∧ Kp [] w w' ∧ w'.ownsRow w.heap.size 47 21 x.1 (l.take x.2).length (flt ec (l.take x.2))) (fun x => m - x.2) (.slice none 0 0, 0) ⟨by simp only; omega, by simp only; omega, Kp.refl _ _, own_nil⟩ (by (repeat' (first | exact True.intro | exact rfl | refine And.intro ?_ ?_))) ?_
  rintro ⟨v, i⟩ w1 ⟨him, hil, hk1, ho⟩
  simp only at him hil ho
  refine CG.to [(0, .slice a l.length c), (1, .int .i64 (m : Int)), (5, v), (6, .int .i64 (i : Int))] (by (repeat' (first | exact True.intro | exact rfl | refine And.intro ?_ ?_))) ?_
  have hlen : (l.take i).length = i := by rw [List.length_take]; omega
  by_cases hlt : i < l.length
  · have g1 : (i : Int) < (l.length : Int) := by omega
    by_cases hlm : i < m
    · have g2 : (i : Int) < (m : Int) := by omega
      obtain ⟨b1, o1, rfl, hr1⟩ := (hS.kp0 hk1).at hlt
      repeat (first | first|apply CG.seq|apply CG.region|apply SG.nil|apply NG.next|apply CG.skip|apply CG.block|apply CG.ret|apply CG.exit|apply NG.exit_then|refine NG.exit_block rfl ?_|apply NG.normal_block|refine SG.val rfl rfl rfl rfl (by first|((first|apply qmv|apply qas|apply qlc|apply qla|apply qfa|apply qix|apply qpk|apply qls|apply qad|apply qln)<;>(first|exact rfl|assumption|exact Ar.mk (by omega)|exact dct (by first|assumption|omega)|exact dcf (by first|assumption|omega)|exact List.not_mem_nil|apply dc_length|apply ec_length|fail))|fail) ?_ | refine SG.skip rfl rfl ?_)
      refine CG.cond_t rfl (by exact rho_of rfl) rfl ?_
      repeat (first|apply CG.seq|apply CG.region|apply SG.nil|apply NG.next|apply CG.skip|apply CG.block|apply CG.ret|apply CG.exit|apply NG.exit_then|refine NG.exit_block rfl ?_|apply NG.normal_block|refine SG.val rfl rfl rfl rfl (by first|((first|apply qmv|apply qas|apply qlc|apply qla|apply qfa|apply qix|apply qpk|apply qls|apply qad|apply qln)<;>(first|exact rfl|assumption|exact Ar.mk (by omega)|exact dct (by first|assumption|omega)|exact dcf (by first|assumption|omega)|exact List.not_mem_nil|apply dc_length|apply ec_length|fail))|fail) ?_)
      refine SG.ret rfl rfl rfl (vs := [ov l[i]]) (by repeat' (first | exact True.intro | exact rho_of rfl | refine And.intro ?_ ?_)) (to_spec l[i] w1) (fun w2 hk2 => ?_)
      refine SG.buildSlice rfl rfl rfl rfl (bso _) (fun b3 w3 hk3 hb3 hB3 => ?_)
      have k3 := hk2.trans hk3
      refine SG.appO (enc := ec) (xs := l.take i) (ys := [l[i]]) (base := w.heap.size) rfl rfl rfl (by exact rho_of rfl) (by exact rho_of rfl) rfl rfl rfl rfl ec_length ec_one (own_kp0 ho k3) (sl_one ec_length hB3) (by rw [hlen]; simp only [maxLen, List.length_cons, List.length_nil]; omega) (by rw [hlen]; show (i + 1) * 56 ≤ _; omega) (hk1.trans k3).size (fun v4 w4 hk4 ho4 _ => ?_)
      rw [← List.take_succ_eq_append_getElem hlt] at ho4
      repeat (first|apply CG.seq|apply CG.region|apply SG.nil|apply NG.next|apply CG.skip|apply CG.block|apply CG.ret|apply CG.exit|apply NG.exit_then|refine NG.exit_block rfl ?_|apply NG.normal_block|refine SG.val rfl rfl rfl rfl (by first|((first|apply qmv|apply qas|apply qlc|apply qla|apply qfa|apply qix|apply qpk|apply qls|apply qad|apply qln)<;>(first|exact rfl|assumption|exact Ar.mk (by omega)|exact dct (by first|assumption|omega)|exact dcf (by first|assumption|omega)|exact List.not_mem_nil|apply dc_length|apply ec_length|fail))|fail) ?_)
      refine NG.round (v4, i + 1) (by (repeat' (first | exact True.intro | exact rfl | refine And.intro ?_ ?_))) ⟨by simp only; omega, by simp only; omega, (hk1.trans k3).trans_new hk4 (own_new (own_kp0 ho k3) (Nat.le_refl _)), ho4⟩ (by simp only; omega)
    · have g2 : ¬ (i : Int) < (m : Int) := by omega
      have e : i = m := by omega
      subst e
      repeat (first | first|apply CG.seq|apply CG.region|apply SG.nil|apply NG.next|apply CG.skip|apply CG.block|apply CG.ret|apply CG.exit|apply NG.exit_then|refine NG.exit_block rfl ?_|apply NG.normal_block|refine SG.val rfl rfl rfl rfl (by first|((first|apply qmv|apply qas|apply qlc|apply qla|apply qfa|apply qix|apply qpk|apply qls|apply qad|apply qln)<;>(first|exact rfl|assumption|exact Ar.mk (by omega)|exact dct (by first|assumption|omega)|exact dcf (by first|assumption|omega)|exact List.not_mem_nil|apply dc_length|apply ec_length|fail))|fail) ?_ | refine SG.skip rfl rfl ?_)
      refine CG.cond_f rfl (by exact rho_of rfl) rfl ?_
      repeat (first|apply CG.seq|apply CG.region|apply SG.nil|apply NG.next|apply CG.skip|apply CG.block|apply CG.ret|apply CG.exit|apply NG.exit_then|refine NG.exit_block rfl ?_|apply NG.normal_block|refine SG.val rfl rfl rfl rfl (by first|((first|apply qmv|apply qas|apply qlc|apply qla|apply qfa|apply qix|apply qpk|apply qls|apply qad|apply qln)<;>(first|exact rfl|assumption|exact Ar.mk (by omega)|exact dct (by first|assumption|omega)|exact dcf (by first|assumption|omega)|exact List.not_mem_nil|apply dc_length|apply ec_length|fail))|fail) ?_)
      refine ret1 (Or.inl rfl) Try.results12 (by first | exact ResV.tmp rfl | exact ResV.agg rfl rfl (by assumption) (by first | exact dc_length _ | exact nc_length _ | exact rc_length _ _ _ | exact ec_length _ | exact dl_length _ _ _ _ | rfl) | exact ResV.cell rfl rfl (by assumption)) ?_
      exact ⟨_, rfl, ho, hk1⟩
  · have g1 : ¬ (i : Int) < (l.length : Int) := by omega
    have e : l.take i = l.take m := by rw [List.take_of_length_le (by omega), List.take_of_length_le (by omega)]
    rw [e] at ho
    repeat (first | first|apply CG.seq|apply CG.region|apply SG.nil|apply NG.next|apply CG.skip|apply CG.block|apply CG.ret|apply CG.exit|apply NG.exit_then|refine NG.exit_block rfl ?_|apply NG.normal_block|refine SG.val rfl rfl rfl rfl (by first|((first|apply qmv|apply qas|apply qlc|apply qla|apply qfa|apply qix|apply qpk|apply qls|apply qad|apply qln)<;>(first|exact rfl|assumption|exact Ar.mk (by omega)|exact dct (by first|assumption|omega)|exact dcf (by first|assumption|omega)|exact List.not_mem_nil|apply dc_length|apply ec_length|fail))|fail) ?_ | refine SG.skip rfl rfl ?_)
    refine CG.cond_f rfl (by exact rho_of rfl) rfl ?_
    repeat (first|apply CG.seq|apply CG.region|apply SG.nil|apply NG.next|apply CG.skip|apply CG.block|apply CG.ret|apply CG.exit|apply NG.exit_then|refine NG.exit_block rfl ?_|apply NG.normal_block|refine SG.val rfl rfl rfl rfl (by first|((first|apply qmv|apply qas|apply qlc|apply qla|apply qfa|apply qix|apply qpk|apply qls|apply qad|apply qln)<;>(first|exact rfl|assumption|exact Ar.mk (by omega)|exact dct (by first|assumption|omega)|exact dcf (by first|assumption|omega)|exact List.not_mem_nil|apply dc_length|apply ec_length|fail))|fail) ?_)
    refine ret1 (Or.inl rfl) Try.results12 (by first | exact ResV.tmp rfl | exact ResV.agg rfl rfl (by assumption) (by first | exact dc_length _ | exact nc_length _ | exact rc_length _ _ _ | exact ec_length _ | exact dl_length _ _ _ _ | rfl) | exact ResV.cell rfl rfl (by assumption)) ?_
    exact ⟨_, rfl, ho, hk1⟩
set_option maxHeartbeats 16000000 in
theorem one_spec (x : UInt8) (least most window : Int) (w : World) : Ret Try.prog 42 #[bv x, .int .i64 least, .int .i64 most, .int .i64 window] w (ov (oneO x least most window)) := by
  refine enter4 Try.func42 rfl Try.ntmps42 rfl ?_
  repeat (first|apply CG.seq|apply CG.region|apply SG.nil|apply NG.next|apply CG.skip|apply CG.block|apply CG.ret|apply CG.exit|apply NG.exit_then|refine NG.exit_block rfl ?_|apply NG.normal_block|refine SG.val rfl rfl rfl rfl (by first|((first|apply qmv|apply qas|apply qlc|apply qla|apply qfa|apply qix|apply qpk|apply qls|apply qad|apply qln)<;>(first|exact rfl|assumption|exact Ar.mk (by omega)|exact dct (by first|assumption|omega)|exact dcf (by first|assumption|omega)|exact List.not_mem_nil|apply dc_length|apply ec_length|fail))|fail) ?_)
  refine SG.alloc rfl rfl rfl (fun b2 w1 hk1 hb2 hB2 => ?_)
  repeat (first|apply CG.seq|apply CG.region|apply SG.nil|apply NG.next|apply CG.skip|apply CG.block|apply CG.ret|apply CG.exit|apply NG.exit_then|refine NG.exit_block rfl ?_|apply NG.normal_block|refine SG.val rfl rfl rfl rfl (by first|((first|apply qmv|apply qas|apply qlc|apply qla|apply qfa|apply qix|apply qpk|apply qls|apply qad|apply qln)<;>(first|exact rfl|assumption|exact Ar.mk (by omega)|exact dct (by first|assumption|omega)|exact dcf (by first|assumption|omega)|exact List.not_mem_nil|apply dc_length|apply ec_length|fail))|fail) ?_)
  refine SG.val rfl rfl rfl rfl (vals_build rfl (bd1 x)) ?_
  refine SG.val rfl rfl rfl rfl (vals_build rfl (bd1 7)) ?_
  repeat (first|apply CG.seq|apply CG.region|apply SG.nil|apply NG.next|apply CG.skip|apply CG.block|apply CG.ret|apply CG.exit|apply NG.exit_then|refine NG.exit_block rfl ?_|apply NG.normal_block|refine SG.val rfl rfl rfl rfl (by first|((first|apply qmv|apply qas|apply qlc|apply qla|apply qfa|apply qix|apply qpk|apply qls|apply qad|apply qln)<;>(first|exact rfl|assumption|exact Ar.mk (by omega)|exact dct (by first|assumption|omega)|exact dcf (by first|assumption|omega)|exact List.not_mem_nil|apply dc_length|apply ec_length|fail))|fail) ?_)
  refine SG.val rfl rfl rfl rfl (vals_build rfl (bto (oneO x least most window))) ?_
  refine SG.setAll (l := ec (oneO x least most window)) rfl rfl (by exact rho_of rfl) (by exact rho_of rfl) hB2 (ec_length _) rfl (ec_one _) (fun w3 hk3 hB3 => ?_)
  have hr : Row w3 b2 0 (ec (oneO x least most window)) := Row.all hB3 rfl
  repeat (first|apply CG.seq|apply CG.region|apply SG.nil|apply NG.next|apply CG.skip|apply CG.block|apply CG.ret|apply CG.exit|apply NG.exit_then|refine NG.exit_block rfl ?_|apply NG.normal_block|refine SG.val rfl rfl rfl rfl (by first|((first|apply qmv|apply qas|apply qlc|apply qla|apply qfa|apply qix|apply qpk|apply qls|apply qad|apply qln)<;>(first|exact rfl|assumption|exact Ar.mk (by omega)|exact dct (by first|assumption|omega)|exact dcf (by first|assumption|omega)|exact List.not_mem_nil|apply dc_length|apply ec_length|fail))|fail) ?_)
  refine ret1 (Or.inl rfl) Try.results42 (by first | exact ResV.tmp rfl | exact ResV.agg rfl rfl (by assumption) (by first | exact dc_length _ | exact nc_length _ | exact rc_length _ _ _ | exact ec_length _ | exact dl_length _ _ _ _ | rfl) | exact ResV.cell rfl rfl (by assumption)) ?_
  exact ⟨rfl, hk1.trans_new hk3 (new1 (by omega))⟩
end Go.Proofs.Ytnoipmimddoioaa
/-
  Deals compared.
-/
namespace Go.Proofs.Ytnoipmimddoioaa
open Go.Proofs
set_option linter.unusedVariables false

theorem del_iff (a b : Del) : (a.rules = b.rules ∧ a.who = b.who ∧ a.stake = b.stake ∧ a.window = b.window) ↔ a = b := by
  obtain ⟨a1, a2, a3, a4⟩ := a
  obtain ⟨b1, b2, b3, b4⟩ := b
  simp
instance : DecidableEq Del := fun a b => decidable_of_iff _ (del_iff a b)
theorem del_cases (a b : Del) : (a ≠ b ∧ a.rules ≠ b.rules) ∨ (a ≠ b ∧ a.rules = b.rules ∧ a.who ≠ b.who) ∨ (a ≠ b ∧ a.rules = b.rules ∧ a.who = b.who ∧ a.stake ≠ b.stake) ∨ (a ≠ b ∧ a.rules = b.rules ∧ a.who = b.who ∧ a.stake = b.stake ∧ a.window ≠ b.window) ∨ (a = b ∧ a.rules = b.rules ∧ a.who = b.who ∧ a.stake = b.stake ∧ a.window = b.window) := by
  have hi := del_iff a b
  by_cases h1 : a.rules = b.rules
  rotate_left
  · exact Or.inl ⟨fun e => h1 (hi.2 e).1, h1⟩
  by_cases h2 : a.who = b.who
  rotate_left
  · exact Or.inr (Or.inl ⟨fun e => h2 (hi.2 e).2.1, h1, h2⟩)
  by_cases h3 : a.stake = b.stake
  rotate_left
  · exact Or.inr (Or.inr (Or.inl ⟨fun e => h3 (hi.2 e).2.2.1, h1, h2, h3⟩))
  by_cases h4 : a.window = b.window
  rotate_left
  · exact Or.inr (Or.inr (Or.inr (Or.inl ⟨fun e => h4 (hi.2 e).2.2.2, h1, h2, h3, h4⟩)))
  exact Or.inr (Or.inr (Or.inr (Or.inr ⟨hi.1 ⟨h1, h2, h3, h4⟩, h1, h2, h3, h4⟩)))
theorem take_eq_step {α : Type} {l m : List α} {i : Nat} (h : l.take i = m.take i) (h1 : i < l.length) (h2 : i < m.length) (he : l[i] = m[i]) : l.take (i + 1) = m.take (i + 1) := by
  rw [List.take_succ_eq_append_getElem h1, List.take_succ_eq_append_getElem h2, h, he]
theorem ne_of_get {α : Type} {l m : List α} {i : Nat} (h1 : i < l.length) (h2 : i < m.length) (he : l[i] ≠ m[i]) : l ≠ m := by
  intro e
  subst e
  exact he rfl

attribute [local irreducible] CG NG SG Vals Der Row Blk MapIs IterAt addI xorI orI andI shlI shrI mulI
set_option maxHeartbeats 16000000 in
theorem equal_spec {w : World} {l m : List Dg} {a a' : Option Addr} {c c' : Nat} (hS : Sl dc 8 w a l) (hT : Sl dc 8 w a' m) (hl : l.length ≤ 1000000000) : Ret Try.prog 56 #[.slice a l.length c, .slice a' m.length c'] w (.bool (decide (l = m))) := by
  refine enter2 Try.func56 rfl Try.ntmps56 rfl ?_
  by_cases hlen : l.length = m.length
  · have g0 : (l.length : Int) = (m.length : Int) := by omega
    repeat (first|apply CG.seq|apply CG.region|apply SG.nil|apply NG.next|apply CG.skip|apply CG.block|apply CG.ret|apply CG.exit|apply NG.ret_then|apply NG.ret_block|apply NG.exit_then|refine NG.exit_block rfl ?_|apply NG.normal_block|refine SG.val rfl rfl rfl rfl (by first|((first|apply qmv|apply qas|apply qlc|apply qla|apply qfa|apply qix|apply qpk|apply qls|apply qei|apply qni|apply qed|apply qnd|apply qad|apply qln)<;>(first|exact rfl|assumption|exact Ar.mk (by omega)|exact dct (by first|assumption|omega)|exact dcf (by first|assumption|omega)|exact List.not_mem_nil|apply dc_length|fail))|fail) ?_)
    refine CG.cond_f rfl (by exact rho_of rfl) rfl ?_
    repeat (first|apply CG.seq|apply CG.region|apply SG.nil|apply NG.next|apply CG.skip|apply CG.block|apply CG.ret|apply CG.exit|apply NG.ret_then|apply NG.ret_block|apply NG.exit_then|refine NG.exit_block rfl ?_|apply NG.normal_block|refine SG.val rfl rfl rfl rfl (by first|((first|apply qmv|apply qas|apply qlc|apply qla|apply qfa|apply qix|apply qpk|apply qls|apply qei|apply qni|apply qed|apply qnd|apply qad|apply qln)<;>(first|exact rfl|assumption|exact Ar.mk (by omega)|exact dct (by first|assumption|omega)|exact dcf (by first|assumption|omega)|exact List.not_mem_nil|apply dc_length|fail))|fail) ?_)
    refine CG.loop (X := Nat) (fun i => [(0, .slice a l.length c), (1, .slice a' m.length c'), (12, .int .i64 (l.length : Int)), (13, .int .i64 (i : Int))]) (fun i w' => i ≤ l.length ∧ Kp [] w w' ∧ l.take i = m.take i) (fun i => l.length - i) 0 ⟨by omega, Kp.refl _ _, rfl⟩ (by (repeat' (first | exact True.intro | exact rfl | refine And.intro ?_ ?_))) ?_
    rintro i w1 ⟨hi, hk, ht⟩
    by_cases hlt : i < l.length
    · have g1 : (i : Int) < (l.length : Int) := by omega
      have hlt2 : i < m.length := by omega
      obtain ⟨b1, o1, rfl, hr1⟩ := (hS.kp0 hk).at hlt
      obtain ⟨b2, o2, rfl, hr2⟩ := (hT.kp0 hk).at hlt2
      repeat (first|apply CG.seq|apply CG.region|apply SG.nil|apply NG.next|apply CG.skip|apply CG.block|apply CG.ret|apply CG.exit|apply NG.ret_then|apply NG.ret_block|apply NG.exit_then|refine NG.exit_block rfl ?_|apply NG.normal_block|refine SG.val rfl rfl rfl rfl (by first|((first|apply qmv|apply qas|apply qlc|apply qla|apply qfa|apply qix|apply qpk|apply qls|apply qei|apply qni|apply qed|apply qnd|apply qad|apply qln)<;>(first|exact rfl|assumption|exact Ar.mk (by omega)|exact dct (by first|assumption|omega)|exact dcf (by first|assumption|omega)|exact List.not_mem_nil|apply dc_length|fail))|fail) ?_)
      refine CG.cond_t rfl (by exact rho_of rfl) rfl ?_
      by_cases he : l[i] = m[i]
      · repeat (first|apply CG.seq|apply CG.region|apply SG.nil|apply NG.next|apply CG.skip|apply CG.block|apply CG.ret|apply CG.exit|apply NG.ret_then|apply NG.ret_block|apply NG.exit_then|refine NG.exit_block rfl ?_|apply NG.normal_block|refine SG.val rfl rfl rfl rfl (by first|((first|apply qmv|apply qas|apply qlc|apply qla|apply qfa|apply qix|apply qpk|apply qls|apply qei|apply qni|apply qed|apply qnd|apply qad|apply qln)<;>(first|exact rfl|assumption|exact Ar.mk (by omega)|exact dct (by first|assumption|omega)|exact dcf (by first|assumption|omega)|exact List.not_mem_nil|apply dc_length|fail))|fail) ?_)
        refine CG.draw0 mixed [0, 1, 2, 3, 4, 5, 6, 7, 8] [] (by kernel_rfl) ?_
        repeat (refine Der.val rfl rfl rfl (by first|((first|apply qmv|apply qas|apply qlc|apply qla|apply qfa|apply qix|apply qpk|apply qls|apply qei|apply qni|apply qed|apply qnd|apply qad|apply qln)<;>(first|exact rfl|assumption|exact Ar.mk (by omega)|exact dct (by first|assumption|omega)|exact dcf (by first|assumption|omega)|exact List.not_mem_nil|apply dc_length|fail))|fail) ?_)
        refine Der.fin (fun w2 hk2 _ _ => ?_)
        repeat (first|apply CG.seq|apply CG.region|apply SG.nil|apply NG.next|apply CG.skip|apply CG.block|apply CG.ret|apply CG.exit|apply NG.ret_then|apply NG.ret_block|apply NG.exit_then|refine NG.exit_block rfl ?_|apply NG.normal_block|refine SG.val rfl rfl rfl rfl (by first|((first|apply qmv|apply qas|apply qlc|apply qla|apply qfa|apply qix|apply qpk|apply qls|apply qei|apply qni|apply qed|apply qnd|apply qad|apply qln)<;>(first|exact rfl|assumption|exact Ar.mk (by omega)|exact dct (by first|assumption|omega)|exact dcf (by first|assumption|omega)|exact List.not_mem_nil|apply dc_length|fail))|fail) ?_)
        refine CG.cond_f rfl (by exact rho_of rfl) rfl ?_
        repeat (first|apply CG.seq|apply CG.region|apply SG.nil|apply NG.next|apply CG.skip|apply CG.block|apply CG.ret|apply CG.exit|apply NG.ret_then|apply NG.ret_block|apply NG.exit_then|refine NG.exit_block rfl ?_|apply NG.normal_block|refine SG.val rfl rfl rfl rfl (by first|((first|apply qmv|apply qas|apply qlc|apply qla|apply qfa|apply qix|apply qpk|apply qls|apply qei|apply qni|apply qed|apply qnd|apply qad|apply qln)<;>(first|exact rfl|assumption|exact Ar.mk (by omega)|exact dct (by first|assumption|omega)|exact dcf (by first|assumption|omega)|exact List.not_mem_nil|apply dc_length|fail))|fail) ?_)
        refine NG.round (i + 1) (by (repeat' (first | exact True.intro | exact rfl | refine And.intro ?_ ?_))) ⟨by omega, hk.trans hk2, take_eq_step ht hlt hlt2 he⟩ (by omega)
      · repeat (first|apply CG.seq|apply CG.region|apply SG.nil|apply NG.next|apply CG.skip|apply CG.block|apply CG.ret|apply CG.exit|apply NG.ret_then|apply NG.ret_block|apply NG.exit_then|refine NG.exit_block rfl ?_|apply NG.normal_block|refine SG.val rfl rfl rfl rfl (by first|((first|apply qmv|apply qas|apply qlc|apply qla|apply qfa|apply qix|apply qpk|apply qls|apply qei|apply qni|apply qed|apply qnd|apply qad|apply qln)<;>(first|exact rfl|assumption|exact Ar.mk (by omega)|exact dct (by first|assumption|omega)|exact dcf (by first|assumption|omega)|exact List.not_mem_nil|apply dc_length|fail))|fail) ?_)
        refine CG.draw0 mixed [0, 1, 2, 3, 4, 5, 6, 7, 8] [] (by kernel_rfl) ?_
        repeat (refine Der.val rfl rfl rfl (by first|((first|apply qmv|apply qas|apply qlc|apply qla|apply qfa|apply qix|apply qpk|apply qls|apply qei|apply qni|apply qed|apply qnd|apply qad|apply qln)<;>(first|exact rfl|assumption|exact Ar.mk (by omega)|exact dct (by first|assumption|omega)|exact dcf (by first|assumption|omega)|exact List.not_mem_nil|apply dc_length|fail))|fail) ?_)
        refine Der.fin (fun w2 hk2 _ _ => ?_)
        repeat (first|apply CG.seq|apply CG.region|apply SG.nil|apply NG.next|apply CG.skip|apply CG.block|apply CG.ret|apply CG.exit|apply NG.ret_then|apply NG.ret_block|apply NG.exit_then|refine NG.exit_block rfl ?_|apply NG.normal_block|refine SG.val rfl rfl rfl rfl (by first|((first|apply qmv|apply qas|apply qlc|apply qla|apply qfa|apply qix|apply qpk|apply qls|apply qei|apply qni|apply qed|apply qnd|apply qad|apply qln)<;>(first|exact rfl|assumption|exact Ar.mk (by omega)|exact dct (by first|assumption|omega)|exact dcf (by first|assumption|omega)|exact List.not_mem_nil|apply dc_length|fail))|fail) ?_)
        refine CG.cond_t rfl (by exact rho_of rfl) rfl ?_
        repeat (first|apply CG.seq|apply CG.region|apply SG.nil|apply NG.next|apply CG.skip|apply CG.block|apply CG.ret|apply CG.exit|apply NG.ret_then|apply NG.ret_block|apply NG.exit_then|refine NG.exit_block rfl ?_|apply NG.normal_block|refine SG.val rfl rfl rfl rfl (by first|((first|apply qmv|apply qas|apply qlc|apply qla|apply qfa|apply qix|apply qpk|apply qls|apply qei|apply qni|apply qed|apply qnd|apply qad|apply qln)<;>(first|exact rfl|assumption|exact Ar.mk (by omega)|exact dct (by first|assumption|omega)|exact dcf (by first|assumption|omega)|exact List.not_mem_nil|apply dc_length|fail))|fail) ?_)
        refine ret1 (Or.inl rfl) Try.results56 (by first | exact ResV.tmp rfl | exact ResV.agg rfl rfl (by assumption) (by first | exact dc_length _ | exact nc_length _ | exact rc_length _ _ _ | exact ec_length _ | exact dl_length _ _ _ _ | rfl) | exact ResV.cell rfl rfl (by assumption)) ?_
        rw [decide_eq_false (ne_of_get hlt hlt2 he)]
        exact ⟨rfl, hk.trans hk2⟩
    · have g1 : ¬ (i : Int) < (l.length : Int) := by omega
      have heq : l = m := by
        have e1 : l.take i = l := List.take_of_length_le (by omega)
        have e2 : m.take i = m := List.take_of_length_le (by omega)
        rw [← e1, ← e2, ht]
      repeat (first|apply CG.seq|apply CG.region|apply SG.nil|apply NG.next|apply CG.skip|apply CG.block|apply CG.ret|apply CG.exit|apply NG.ret_then|apply NG.ret_block|apply NG.exit_then|refine NG.exit_block rfl ?_|apply NG.normal_block|refine SG.val rfl rfl rfl rfl (by first|((first|apply qmv|apply qas|apply qlc|apply qla|apply qfa|apply qix|apply qpk|apply qls|apply qei|apply qni|apply qed|apply qnd|apply qad|apply qln)<;>(first|exact rfl|assumption|exact Ar.mk (by omega)|exact dct (by first|assumption|omega)|exact dcf (by first|assumption|omega)|exact List.not_mem_nil|apply dc_length|fail))|fail) ?_)
      refine CG.cond_f rfl (by exact rho_of rfl) rfl ?_
      repeat (first|apply CG.seq|apply CG.region|apply SG.nil|apply NG.next|apply CG.skip|apply CG.block|apply CG.ret|apply CG.exit|apply NG.ret_then|apply NG.ret_block|apply NG.exit_then|refine NG.exit_block rfl ?_|apply NG.normal_block|refine SG.val rfl rfl rfl rfl (by first|((first|apply qmv|apply qas|apply qlc|apply qla|apply qfa|apply qix|apply qpk|apply qls|apply qei|apply qni|apply qed|apply qnd|apply qad|apply qln)<;>(first|exact rfl|assumption|exact Ar.mk (by omega)|exact dct (by first|assumption|omega)|exact dcf (by first|assumption|omega)|exact List.not_mem_nil|apply dc_length|fail))|fail) ?_)
      refine ret1 (Or.inl rfl) Try.results56 (by first | exact ResV.tmp rfl | exact ResV.agg rfl rfl (by assumption) (by first | exact dc_length _ | exact nc_length _ | exact rc_length _ _ _ | exact ec_length _ | exact dl_length _ _ _ _ | rfl) | exact ResV.cell rfl rfl (by assumption)) ?_
      rw [decide_eq_true heq]
      exact ⟨rfl, hk⟩
  · have g0 : ¬ (l.length : Int) = (m.length : Int) := by omega
    have hne : l ≠ m := fun e => hlen (by rw [e])
    repeat (first|apply CG.seq|apply CG.region|apply SG.nil|apply NG.next|apply CG.skip|apply CG.block|apply CG.ret|apply CG.exit|apply NG.ret_then|apply NG.ret_block|apply NG.exit_then|refine NG.exit_block rfl ?_|apply NG.normal_block|refine SG.val rfl rfl rfl rfl (by first|((first|apply qmv|apply qas|apply qlc|apply qla|apply qfa|apply qix|apply qpk|apply qls|apply qei|apply qni|apply qed|apply qnd|apply qad|apply qln)<;>(first|exact rfl|assumption|exact Ar.mk (by omega)|exact dct (by first|assumption|omega)|exact dcf (by first|assumption|omega)|exact List.not_mem_nil|apply dc_length|fail))|fail) ?_)
    refine CG.cond_t rfl (by exact rho_of rfl) rfl ?_
    repeat (first|apply CG.seq|apply CG.region|apply SG.nil|apply NG.next|apply CG.skip|apply CG.block|apply CG.ret|apply CG.exit|apply NG.ret_then|apply NG.ret_block|apply NG.exit_then|refine NG.exit_block rfl ?_|apply NG.normal_block|refine SG.val rfl rfl rfl rfl (by first|((first|apply qmv|apply qas|apply qlc|apply qla|apply qfa|apply qix|apply qpk|apply qls|apply qei|apply qni|apply qed|apply qnd|apply qad|apply qln)<;>(first|exact rfl|assumption|exact Ar.mk (by omega)|exact dct (by first|assumption|omega)|exact dcf (by first|assumption|omega)|exact List.not_mem_nil|apply dc_length|fail))|fail) ?_)
    refine ret1 (Or.inl rfl) Try.results56 (by first | exact ResV.tmp rfl | exact ResV.agg rfl rfl (by assumption) (by first | exact dc_length _ | exact nc_length _ | exact rc_length _ _ _ | exact ec_length _ | exact dl_length _ _ _ _ | rfl) | exact ResV.cell rfl rfl (by assumption)) ?_
    rw [decide_eq_false hne]
    exact ⟨rfl, Kp.refl _ _⟩
set_option maxHeartbeats 16000000 in
theorem same_spec {w : World} (d e : Del) {a a' : Option Addr} {c c' : Nat} (hS : Sl dc 8 w a d.who) (hT : Sl dc 8 w a' e.who) (hl : d.who.length ≤ 1000000000) : Ret Try.prog 26 #[dealV d.rules (.slice a d.who.length c) d.stake d.window, dealV e.rules (.slice a' e.who.length c') e.stake e.window] w (.bool (decide (d = e))) := by
  refine enter2 Try.func26 rfl Try.ntmps26 rfl ?_
  repeat (first|apply CG.seq|apply CG.region|apply SG.nil|apply NG.next|apply CG.skip|apply CG.block|apply CG.ret|apply CG.exit|apply NG.ret_then|apply NG.ret_block|apply NG.exit_then|refine NG.exit_block rfl ?_|apply NG.normal_block|refine SG.val rfl rfl rfl rfl (by first|((first|apply qmv|apply qas|apply qlc|apply qla|apply qfa|apply qix|apply qpk|apply qls|apply qei|apply qni|apply qed|apply qnd|apply qad|apply qln)<;>(first|exact rfl|assumption|exact Ar.mk (by omega)|exact dct (by first|assumption|omega)|exact dcf (by first|assumption|omega)|exact List.not_mem_nil|apply dc_length|fail))|fail) ?_)
  refine SG.box rfl rfl rfl (by exact rho_of rfl) (fun b1 w1 hk1 hb1 hB1 => ?_)
  have hB1 : Blk w1 b1 (.cells (dl d.rules (.slice a d.who.length c) d.stake d.window).toArray 27) := hB1
  refine SG.box rfl rfl rfl (by exact rho_of rfl) (fun b2 w2 hk2 hb2 hB2 => ?_)
  have hB2 : Blk w2 b2 (.cells (dl e.rules (.slice a' e.who.length c') e.stake e.window).toArray 27) := hB2
  have k2 := hk1.trans hk2
  have hB1 := hB1.kp0 hk2
  obtain ⟨a0, a1, a2, a3, -⟩ := dl_rows hB1
  obtain ⟨r0, r1, r2, r3, -⟩ := dl_rows hB2
  rcases del_cases d e with ⟨h0, h1⟩ | h
  · repeat (first | first|apply CG.seq|apply CG.region|apply SG.nil|apply NG.next|apply CG.skip|apply CG.block|apply CG.ret|apply CG.exit|apply NG.ret_then|apply NG.ret_block|apply NG.exit_then|refine NG.exit_block rfl ?_|apply NG.normal_block|refine SG.val rfl rfl rfl rfl (by first|((first|apply qmv|apply qas|apply qlc|apply qla|apply qfa|apply qix|apply qpk|apply qls|apply qei|apply qni|apply qed|apply qnd|apply qad|apply qln)<;>(first|exact rfl|assumption|exact Ar.mk (by omega)|exact dct (by first|assumption|omega)|exact dcf (by first|assumption|omega)|exact List.not_mem_nil|apply dc_length|fail))|fail) ?_ | refine SG.skip rfl rfl ?_)
    refine ret1 (Or.inl rfl) Try.results26 (by first | exact ResV.tmp rfl | exact ResV.agg rfl rfl (by assumption) (by first | exact dc_length _ | exact nc_length _ | exact rc_length _ _ _ | exact ec_length _ | exact dl_length _ _ _ _ | rfl) | exact ResV.cell rfl rfl (by assumption)) ?_
    rw [decide_eq_false h0]
    exact ⟨rfl, k2⟩
  · have h1 : d.rules = e.rules := by rcases h with ⟨_, h, _⟩ | ⟨_, h, _⟩ | ⟨_, h, _⟩ | ⟨_, h, _⟩ <;> exact h
    have hsp := equal_spec (w := w2) (c := c) (c' := c') (hS.kp0 k2) (hT.kp0 k2) hl
    repeat (first | first|apply CG.seq|apply CG.region|apply SG.nil|apply NG.next|apply CG.skip|apply CG.block|apply CG.ret|apply CG.exit|apply NG.ret_then|apply NG.ret_block|apply NG.exit_then|refine NG.exit_block rfl ?_|apply NG.normal_block|refine SG.val rfl rfl rfl rfl (by first|((first|apply qmv|apply qas|apply qlc|apply qla|apply qfa|apply qix|apply qpk|apply qls|apply qei|apply qni|apply qed|apply qnd|apply qad|apply qln)<;>(first|exact rfl|assumption|exact Ar.mk (by omega)|exact dct (by first|assumption|omega)|exact dcf (by first|assumption|omega)|exact List.not_mem_nil|apply dc_length|fail))|fail) ?_ | refine SG.skip rfl rfl ?_)
    refine SG.ret rfl rfl rfl (by repeat' (first | exact True.intro | exact rho_of rfl | refine And.intro ?_ ?_)) hsp (fun w3 hk3 => ?_)
    have k3 := k2.trans hk3
    obtain ⟨-, -, a2, a3, -⟩ := dl_rows (hB1.kp0 hk3)
    obtain ⟨-, -, r2, r3, -⟩ := dl_rows (hB2.kp0 hk3)
    rcases h with ⟨h0, -, h2⟩ | ⟨h0, -, h2, h3⟩ | ⟨h0, -, h2, h3, h4⟩ | ⟨h0, -, h2, h3, h4⟩
    all_goals
      first
        | rw [decide_eq_true h2]
        | rw [decide_eq_false h2]
      repeat (first | first|apply CG.seq|apply CG.region|apply SG.nil|apply NG.next|apply CG.skip|apply CG.block|apply CG.ret|apply CG.exit|apply NG.ret_then|apply NG.ret_block|apply NG.exit_then|refine NG.exit_block rfl ?_|apply NG.normal_block|refine SG.val rfl rfl rfl rfl (by first|((first|apply qmv|apply qas|apply qlc|apply qla|apply qfa|apply qix|apply qpk|apply qls|apply qei|apply qni|apply qed|apply qnd|apply qad|apply qln)<;>(first|exact rfl|assumption|exact Ar.mk (by omega)|exact dct (by first|assumption|omega)|exact dcf (by first|assumption|omega)|exact List.not_mem_nil|apply dc_length|fail))|fail) ?_ | refine SG.skip rfl rfl ?_)
      refine ret1 (Or.inl rfl) Try.results26 (by first | exact ResV.tmp rfl | exact ResV.agg rfl rfl (by assumption) (by first | exact dc_length _ | exact nc_length _ | exact rc_length _ _ _ | exact ec_length _ | exact dl_length _ _ _ _ | rfl) | exact ResV.cell rfl rfl (by assumption)) ?_
      first
        | rw [decide_eq_false h0]; exact ⟨rfl, k3⟩
        | rw [decide_eq_true h0]; exact ⟨rfl, k3⟩
set_option maxHeartbeats 16000000 in
theorem samedeal_spec {w : World} (d e : Del) {a a' : Option Addr} {c c' : Nat} (hS : Sl dc 8 w a d.who) (hT : Sl dc 8 w a' e.who) (hl : d.who.length ≤ 1000000000) : Ret Try.prog 15 #[dealV d.rules (.slice a d.who.length c) d.stake d.window, dealV e.rules (.slice a' e.who.length c') e.stake e.window] w (.bool (decide (d = e))) := by
  refine enter2 Try.func15 rfl Try.ntmps15 rfl ?_
  repeat (first|apply CG.seq|apply CG.region|apply SG.nil|apply NG.next|apply CG.skip|apply CG.block|apply CG.ret|apply CG.exit|apply NG.ret_then|apply NG.ret_block|apply NG.exit_then|refine NG.exit_block rfl ?_|apply NG.normal_block|refine SG.val rfl rfl rfl rfl (by first|((first|apply qmv|apply qas|apply qlc|apply qla|apply qfa|apply qix|apply qpk|apply qls|apply qei|apply qni|apply qed|apply qnd|apply qad|apply qln)<;>(first|exact rfl|assumption|exact Ar.mk (by omega)|exact dct (by first|assumption|omega)|exact dcf (by first|assumption|omega)|exact List.not_mem_nil|apply dc_length|fail))|fail) ?_)
  refine SG.box rfl rfl rfl (by exact rho_of rfl) (fun b1 w1 hk1 hb1 hB1 => ?_)
  have hB1 : Blk w1 b1 (.cells (dl d.rules (.slice a d.who.length c) d.stake d.window).toArray 39) := hB1
  refine SG.box rfl rfl rfl (by exact rho_of rfl) (fun b2 w2 hk2 hb2 hB2 => ?_)
  have hB2 : Blk w2 b2 (.cells (dl e.rules (.slice a' e.who.length c') e.stake e.window).toArray 39) := hB2
  have k2 := hk1.trans hk2
  have hB1 := hB1.kp0 hk2
  obtain ⟨a0, a1, a2, a3, -⟩ := dl_rows hB1
  obtain ⟨r0, r1, r2, r3, -⟩ := dl_rows hB2
  have hi := del_iff d e
  by_cases h1 : d.rules = e.rules
  rotate_left
  · have h0 : d ≠ e := fun q => h1 (hi.2 q).1
    repeat (first | first|apply CG.seq|apply CG.region|apply SG.nil|apply NG.next|apply CG.skip|apply CG.block|apply CG.ret|apply CG.exit|apply NG.ret_then|apply NG.ret_block|apply NG.exit_then|refine NG.exit_block rfl ?_|apply NG.normal_block|refine SG.val rfl rfl rfl rfl (by first|((first|apply qmv|apply qas|apply qlc|apply qla|apply qfa|apply qix|apply qpk|apply qls|apply qei|apply qni|apply qed|apply qnd|apply qad|apply qln)<;>(first|exact rfl|assumption|exact Ar.mk (by omega)|exact dct (by first|assumption|omega)|exact dcf (by first|assumption|omega)|exact List.not_mem_nil|apply dc_length|fail))|fail) ?_ | refine SG.skip rfl rfl ?_)
    refine CG.cond_t rfl (by exact rho_of rfl) rfl ?_
    repeat (first|apply CG.seq|apply CG.region|apply SG.nil|apply NG.next|apply CG.skip|apply CG.block|apply CG.ret|apply CG.exit|apply NG.ret_then|apply NG.ret_block|apply NG.exit_then|refine NG.exit_block rfl ?_|apply NG.normal_block|refine SG.val rfl rfl rfl rfl (by first|((first|apply qmv|apply qas|apply qlc|apply qla|apply qfa|apply qix|apply qpk|apply qls|apply qei|apply qni|apply qed|apply qnd|apply qad|apply qln)<;>(first|exact rfl|assumption|exact Ar.mk (by omega)|exact dct (by first|assumption|omega)|exact dcf (by first|assumption|omega)|exact List.not_mem_nil|apply dc_length|fail))|fail) ?_)
    refine ret1 (Or.inl rfl) Try.results15 (by first | exact ResV.tmp rfl | exact ResV.agg rfl rfl (by assumption) (by first | exact dc_length _ | exact nc_length _ | exact rc_length _ _ _ | exact ec_length _ | exact dl_length _ _ _ _ | rfl) | exact ResV.cell rfl rfl (by assumption)) ?_
    rw [decide_eq_false h0]
    exact ⟨rfl, k2⟩
  by_cases h2 : d.stake = e.stake
  rotate_left
  · have h0 : d ≠ e := fun q => h2 (hi.2 q).2.2.1
    repeat (first | first|apply CG.seq|apply CG.region|apply SG.nil|apply NG.next|apply CG.skip|apply CG.block|apply CG.ret|apply CG.exit|apply NG.ret_then|apply NG.ret_block|apply NG.exit_then|refine NG.exit_block rfl ?_|apply NG.normal_block|refine SG.val rfl rfl rfl rfl (by first|((first|apply qmv|apply qas|apply qlc|apply qla|apply qfa|apply qix|apply qpk|apply qls|apply qei|apply qni|apply qed|apply qnd|apply qad|apply qln)<;>(first|exact rfl|assumption|exact Ar.mk (by omega)|exact dct (by first|assumption|omega)|exact dcf (by first|assumption|omega)|exact List.not_mem_nil|apply dc_length|fail))|fail) ?_ | refine SG.skip rfl rfl ?_)
    refine CG.cond_t rfl (by exact rho_of rfl) rfl ?_
    repeat (first|apply CG.seq|apply CG.region|apply SG.nil|apply NG.next|apply CG.skip|apply CG.block|apply CG.ret|apply CG.exit|apply NG.ret_then|apply NG.ret_block|apply NG.exit_then|refine NG.exit_block rfl ?_|apply NG.normal_block|refine SG.val rfl rfl rfl rfl (by first|((first|apply qmv|apply qas|apply qlc|apply qla|apply qfa|apply qix|apply qpk|apply qls|apply qei|apply qni|apply qed|apply qnd|apply qad|apply qln)<;>(first|exact rfl|assumption|exact Ar.mk (by omega)|exact dct (by first|assumption|omega)|exact dcf (by first|assumption|omega)|exact List.not_mem_nil|apply dc_length|fail))|fail) ?_)
    refine ret1 (Or.inl rfl) Try.results15 (by first | exact ResV.tmp rfl | exact ResV.agg rfl rfl (by assumption) (by first | exact dc_length _ | exact nc_length _ | exact rc_length _ _ _ | exact ec_length _ | exact dl_length _ _ _ _ | rfl) | exact ResV.cell rfl rfl (by assumption)) ?_
    rw [decide_eq_false h0]
    exact ⟨rfl, k2⟩
  by_cases h3 : d.window = e.window
  rotate_left
  · have h0 : d ≠ e := fun q => h3 (hi.2 q).2.2.2
    repeat (first | first|apply CG.seq|apply CG.region|apply SG.nil|apply NG.next|apply CG.skip|apply CG.block|apply CG.ret|apply CG.exit|apply NG.ret_then|apply NG.ret_block|apply NG.exit_then|refine NG.exit_block rfl ?_|apply NG.normal_block|refine SG.val rfl rfl rfl rfl (by first|((first|apply qmv|apply qas|apply qlc|apply qla|apply qfa|apply qix|apply qpk|apply qls|apply qei|apply qni|apply qed|apply qnd|apply qad|apply qln)<;>(first|exact rfl|assumption|exact Ar.mk (by omega)|exact dct (by first|assumption|omega)|exact dcf (by first|assumption|omega)|exact List.not_mem_nil|apply dc_length|fail))|fail) ?_ | refine SG.skip rfl rfl ?_)
    refine CG.cond_t rfl (by exact rho_of rfl) rfl ?_
    repeat (first|apply CG.seq|apply CG.region|apply SG.nil|apply NG.next|apply CG.skip|apply CG.block|apply CG.ret|apply CG.exit|apply NG.ret_then|apply NG.ret_block|apply NG.exit_then|refine NG.exit_block rfl ?_|apply NG.normal_block|refine SG.val rfl rfl rfl rfl (by first|((first|apply qmv|apply qas|apply qlc|apply qla|apply qfa|apply qix|apply qpk|apply qls|apply qei|apply qni|apply qed|apply qnd|apply qad|apply qln)<;>(first|exact rfl|assumption|exact Ar.mk (by omega)|exact dct (by first|assumption|omega)|exact dcf (by first|assumption|omega)|exact List.not_mem_nil|apply dc_length|fail))|fail) ?_)
    refine ret1 (Or.inl rfl) Try.results15 (by first | exact ResV.tmp rfl | exact ResV.agg rfl rfl (by assumption) (by first | exact dc_length _ | exact nc_length _ | exact rc_length _ _ _ | exact ec_length _ | exact dl_length _ _ _ _ | rfl) | exact ResV.cell rfl rfl (by assumption)) ?_
    rw [decide_eq_false h0]
    exact ⟨rfl, k2⟩
  by_cases h4 : d.who.length = e.who.length
  rotate_left
  · have h0 : d ≠ e := fun q => h4 (by rw [q])
    have g4 : ¬ (d.who.length : Int) = (e.who.length : Int) := by omega
    repeat (first | first|apply CG.seq|apply CG.region|apply SG.nil|apply NG.next|apply CG.skip|apply CG.block|apply CG.ret|apply CG.exit|apply NG.ret_then|apply NG.ret_block|apply NG.exit_then|refine NG.exit_block rfl ?_|apply NG.normal_block|refine SG.val rfl rfl rfl rfl (by first|((first|apply qmv|apply qas|apply qlc|apply qla|apply qfa|apply qix|apply qpk|apply qls|apply qei|apply qni|apply qed|apply qnd|apply qad|apply qln)<;>(first|exact rfl|assumption|exact Ar.mk (by omega)|exact dct (by first|assumption|omega)|exact dcf (by first|assumption|omega)|exact List.not_mem_nil|apply dc_length|fail))|fail) ?_ | refine SG.skip rfl rfl ?_)
    refine CG.cond_t rfl (by exact rho_of rfl) rfl ?_
    repeat (first|apply CG.seq|apply CG.region|apply SG.nil|apply NG.next|apply CG.skip|apply CG.block|apply CG.ret|apply CG.exit|apply NG.ret_then|apply NG.ret_block|apply NG.exit_then|refine NG.exit_block rfl ?_|apply NG.normal_block|refine SG.val rfl rfl rfl rfl (by first|((first|apply qmv|apply qas|apply qlc|apply qla|apply qfa|apply qix|apply qpk|apply qls|apply qei|apply qni|apply qed|apply qnd|apply qad|apply qln)<;>(first|exact rfl|assumption|exact Ar.mk (by omega)|exact dct (by first|assumption|omega)|exact dcf (by first|assumption|omega)|exact List.not_mem_nil|apply dc_length|fail))|fail) ?_)
    refine ret1 (Or.inl rfl) Try.results15 (by first | exact ResV.tmp rfl | exact ResV.agg rfl rfl (by assumption) (by first | exact dc_length _ | exact nc_length _ | exact rc_length _ _ _ | exact ec_length _ | exact dl_length _ _ _ _ | rfl) | exact ResV.cell rfl rfl (by assumption)) ?_
    rw [decide_eq_false h0]
    exact ⟨rfl, k2⟩
  have g4 : (d.who.length : Int) = (e.who.length : Int) := by omega
  repeat (first | first|apply CG.seq|apply CG.region|apply SG.nil|apply NG.next|apply CG.skip|apply CG.block|apply CG.ret|apply CG.exit|apply NG.ret_then|apply NG.ret_block|apply NG.exit_then|refine NG.exit_block rfl ?_|apply NG.normal_block|refine SG.val rfl rfl rfl rfl (by first|((first|apply qmv|apply qas|apply qlc|apply qla|apply qfa|apply qix|apply qpk|apply qls|apply qei|apply qni|apply qed|apply qnd|apply qad|apply qln)<;>(first|exact rfl|assumption|exact Ar.mk (by omega)|exact dct (by first|assumption|omega)|exact dcf (by first|assumption|omega)|exact List.not_mem_nil|apply dc_length|fail))|fail) ?_ | refine SG.skip rfl rfl ?_)
  refine CG.cond_f rfl (by exact rho_of rfl) rfl ?_
  repeat (first|apply CG.seq|apply CG.region|apply SG.nil|apply NG.next|apply CG.skip|apply CG.block|apply CG.ret|apply CG.exit|apply NG.ret_then|apply NG.ret_block|apply NG.exit_then|refine NG.exit_block rfl ?_|apply NG.normal_block|refine SG.val rfl rfl rfl rfl (by first|((first|apply qmv|apply qas|apply qlc|apply qla|apply qfa|apply qix|apply qpk|apply qls|apply qei|apply qni|apply qed|apply qnd|apply qad|apply qln)<;>(first|exact rfl|assumption|exact Ar.mk (by omega)|exact dct (by first|assumption|omega)|exact dcf (by first|assumption|omega)|exact List.not_mem_nil|apply dc_length|fail))|fail) ?_)
  refine CG.loop (X := Nat) (fun i => [(2, .pointer (some ⟨b1, 0, none⟩)), (3, .pointer (some ⟨b2, 0, none⟩)), (5, .int .i64 (i : Int))]) (fun i w' => i ≤ d.who.length ∧ Kp [] w2 w' ∧ d.who.take i = e.who.take i) (fun i => d.who.length - i) 0 ⟨by omega, Kp.refl _ _, rfl⟩ (by (repeat' (first | exact True.intro | exact rfl | refine And.intro ?_ ?_))) ?_
  rintro i w3 ⟨hil, hk, ht⟩
  obtain ⟨-, a1, -, -, -⟩ := dl_rows (hB1.kp0 hk)
  obtain ⟨-, r1, -, -, -⟩ := dl_rows (hB2.kp0 hk)
  by_cases hlt : i < d.who.length
  · have g1 : (i : Int) < (d.who.length : Int) := by omega
    have hlt2 : i < e.who.length := by omega
    obtain ⟨b3, o3, rfl, hr3⟩ := (hS.kp0 (k2.trans hk)).at hlt
    obtain ⟨b4, o4, rfl, hr4⟩ := (hT.kp0 (k2.trans hk)).at hlt2
    repeat (first|apply CG.seq|apply CG.region|apply SG.nil|apply NG.next|apply CG.skip|apply CG.block|apply CG.ret|apply CG.exit|apply NG.ret_then|apply NG.ret_block|apply NG.exit_then|refine NG.exit_block rfl ?_|apply NG.normal_block|refine SG.val rfl rfl rfl rfl (by first|((first|apply qmv|apply qas|apply qlc|apply qla|apply qfa|apply qix|apply qpk|apply qls|apply qei|apply qni|apply qed|apply qnd|apply qad|apply qln)<;>(first|exact rfl|assumption|exact Ar.mk (by omega)|exact dct (by first|assumption|omega)|exact dcf (by first|assumption|omega)|exact List.not_mem_nil|apply dc_length|fail))|fail) ?_)
    refine CG.cond_t rfl (by exact rho_of rfl) rfl ?_
    by_cases he : d.who[i] = e.who[i]
    · repeat (first|apply CG.seq|apply CG.region|apply SG.nil|apply NG.next|apply CG.skip|apply CG.block|apply CG.ret|apply CG.exit|apply NG.ret_then|apply NG.ret_block|apply NG.exit_then|refine NG.exit_block rfl ?_|apply NG.normal_block|refine SG.val rfl rfl rfl rfl (by first|((first|apply qmv|apply qas|apply qlc|apply qla|apply qfa|apply qix|apply qpk|apply qls|apply qei|apply qni|apply qed|apply qnd|apply qad|apply qln)<;>(first|exact rfl|assumption|exact Ar.mk (by omega)|exact dct (by first|assumption|omega)|exact dcf (by first|assumption|omega)|exact List.not_mem_nil|apply dc_length|fail))|fail) ?_)
      refine CG.draw0 mixed [0, 1, 2, 3, 4, 5, 6, 7, 8, 9, 10] [] (by kernel_rfl) ?_
      repeat (refine Der.val rfl rfl rfl (by first|((first|apply qmv|apply qas|apply qlc|apply qla|apply qfa|apply qix|apply qpk|apply qls|apply qei|apply qni|apply qed|apply qnd|apply qad|apply qln)<;>(first|exact rfl|assumption|exact Ar.mk (by omega)|exact dct (by first|assumption|omega)|exact dcf (by first|assumption|omega)|exact List.not_mem_nil|apply dc_length|fail))|fail) ?_)
      refine Der.fin (fun w4 hk4 _ _ => ?_)
      repeat (first|apply CG.seq|apply CG.region|apply SG.nil|apply NG.next|apply CG.skip|apply CG.block|apply CG.ret|apply CG.exit|apply NG.ret_then|apply NG.ret_block|apply NG.exit_then|refine NG.exit_block rfl ?_|apply NG.normal_block|refine SG.val rfl rfl rfl rfl (by first|((first|apply qmv|apply qas|apply qlc|apply qla|apply qfa|apply qix|apply qpk|apply qls|apply qei|apply qni|apply qed|apply qnd|apply qad|apply qln)<;>(first|exact rfl|assumption|exact Ar.mk (by omega)|exact dct (by first|assumption|omega)|exact dcf (by first|assumption|omega)|exact List.not_mem_nil|apply dc_length|fail))|fail) ?_)
      refine CG.cond_f rfl (by exact rho_of rfl) rfl ?_
      repeat (first|apply CG.seq|apply CG.region|apply SG.nil|apply NG.next|apply CG.skip|apply CG.block|apply CG.ret|apply CG.exit|apply NG.ret_then|apply NG.ret_block|apply NG.exit_then|refine NG.exit_block rfl ?_|apply NG.normal_block|refine SG.val rfl rfl rfl rfl (by first|((first|apply qmv|apply qas|apply qlc|apply qla|apply qfa|apply qix|apply qpk|apply qls|apply qei|apply qni|apply qed|apply qnd|apply qad|apply qln)<;>(first|exact rfl|assumption|exact Ar.mk (by omega)|exact dct (by first|assumption|omega)|exact dcf (by first|assumption|omega)|exact List.not_mem_nil|apply dc_length|fail))|fail) ?_)
      refine NG.round (i + 1) (by (repeat' (first | exact True.intro | exact rfl | refine And.intro ?_ ?_))) ⟨by omega, hk.trans hk4, take_eq_step ht hlt hlt2 he⟩ (by omega)
    · have h0 : d ≠ e := fun q => ne_of_get hlt hlt2 he (hi.2 q).2.1
      repeat (first|apply CG.seq|apply CG.region|apply SG.nil|apply NG.next|apply CG.skip|apply CG.block|apply CG.ret|apply CG.exit|apply NG.ret_then|apply NG.ret_block|apply NG.exit_then|refine NG.exit_block rfl ?_|apply NG.normal_block|refine SG.val rfl rfl rfl rfl (by first|((first|apply qmv|apply qas|apply qlc|apply qla|apply qfa|apply qix|apply qpk|apply qls|apply qei|apply qni|apply qed|apply qnd|apply qad|apply qln)<;>(first|exact rfl|assumption|exact Ar.mk (by omega)|exact dct (by first|assumption|omega)|exact dcf (by first|assumption|omega)|exact List.not_mem_nil|apply dc_length|fail))|fail) ?_)
      refine CG.draw0 mixed [0, 1, 2, 3, 4, 5, 6, 7, 8, 9, 10] [] (by kernel_rfl) ?_
      repeat (refine Der.val rfl rfl rfl (by first|((first|apply qmv|apply qas|apply qlc|apply qla|apply qfa|apply qix|apply qpk|apply qls|apply qei|apply qni|apply qed|apply qnd|apply qad|apply qln)<;>(first|exact rfl|assumption|exact Ar.mk (by omega)|exact dct (by first|assumption|omega)|exact dcf (by first|assumption|omega)|exact List.not_mem_nil|apply dc_length|fail))|fail) ?_)
      refine Der.fin (fun w4 hk4 _ _ => ?_)
      repeat (first|apply CG.seq|apply CG.region|apply SG.nil|apply NG.next|apply CG.skip|apply CG.block|apply CG.ret|apply CG.exit|apply NG.ret_then|apply NG.ret_block|apply NG.exit_then|refine NG.exit_block rfl ?_|apply NG.normal_block|refine SG.val rfl rfl rfl rfl (by first|((first|apply qmv|apply qas|apply qlc|apply qla|apply qfa|apply qix|apply qpk|apply qls|apply qei|apply qni|apply qed|apply qnd|apply qad|apply qln)<;>(first|exact rfl|assumption|exact Ar.mk (by omega)|exact dct (by first|assumption|omega)|exact dcf (by first|assumption|omega)|exact List.not_mem_nil|apply dc_length|fail))|fail) ?_)
      refine CG.cond_t rfl (by exact rho_of rfl) rfl ?_
      repeat (first|apply CG.seq|apply CG.region|apply SG.nil|apply NG.next|apply CG.skip|apply CG.block|apply CG.ret|apply CG.exit|apply NG.ret_then|apply NG.ret_block|apply NG.exit_then|refine NG.exit_block rfl ?_|apply NG.normal_block|refine SG.val rfl rfl rfl rfl (by first|((first|apply qmv|apply qas|apply qlc|apply qla|apply qfa|apply qix|apply qpk|apply qls|apply qei|apply qni|apply qed|apply qnd|apply qad|apply qln)<;>(first|exact rfl|assumption|exact Ar.mk (by omega)|exact dct (by first|assumption|omega)|exact dcf (by first|assumption|omega)|exact List.not_mem_nil|apply dc_length|fail))|fail) ?_)
      refine ret1 (Or.inl rfl) Try.results15 (by first | exact ResV.tmp rfl | exact ResV.agg rfl rfl (by assumption) (by first | exact dc_length _ | exact nc_length _ | exact rc_length _ _ _ | exact ec_length _ | exact dl_length _ _ _ _ | rfl) | exact ResV.cell rfl rfl (by assumption)) ?_
      rw [decide_eq_false h0]
      exact ⟨rfl, (k2.trans hk).trans hk4⟩
  · have g1 : ¬ (i : Int) < (d.who.length : Int) := by omega
    have heq : d.who = e.who := by
      have e1 : d.who.take i = d.who := List.take_of_length_le (by omega)
      have e2 : e.who.take i = e.who := List.take_of_length_le (by omega)
      rw [← e1, ← e2, ht]
    have h0 : d = e := hi.1 ⟨h1, heq, h2, h3⟩
    repeat (first|apply CG.seq|apply CG.region|apply SG.nil|apply NG.next|apply CG.skip|apply CG.block|apply CG.ret|apply CG.exit|apply NG.ret_then|apply NG.ret_block|apply NG.exit_then|refine NG.exit_block rfl ?_|apply NG.normal_block|refine SG.val rfl rfl rfl rfl (by first|((first|apply qmv|apply qas|apply qlc|apply qla|apply qfa|apply qix|apply qpk|apply qls|apply qei|apply qni|apply qed|apply qnd|apply qad|apply qln)<;>(first|exact rfl|assumption|exact Ar.mk (by omega)|exact dct (by first|assumption|omega)|exact dcf (by first|assumption|omega)|exact List.not_mem_nil|apply dc_length|fail))|fail) ?_)
    refine CG.cond_f rfl (by exact rho_of rfl) rfl ?_
    repeat (first|apply CG.seq|apply CG.region|apply SG.nil|apply NG.next|apply CG.skip|apply CG.block|apply CG.ret|apply CG.exit|apply NG.ret_then|apply NG.ret_block|apply NG.exit_then|refine NG.exit_block rfl ?_|apply NG.normal_block|refine SG.val rfl rfl rfl rfl (by first|((first|apply qmv|apply qas|apply qlc|apply qla|apply qfa|apply qix|apply qpk|apply qls|apply qei|apply qni|apply qed|apply qnd|apply qad|apply qln)<;>(first|exact rfl|assumption|exact Ar.mk (by omega)|exact dct (by first|assumption|omega)|exact dcf (by first|assumption|omega)|exact List.not_mem_nil|apply dc_length|fail))|fail) ?_)
    refine ret1 (Or.inl rfl) Try.results15 (by first | exact ResV.tmp rfl | exact ResV.agg rfl rfl (by assumption) (by first | exact dc_length _ | exact nc_length _ | exact rc_length _ _ _ | exact ec_length _ | exact dl_length _ _ _ _ | rfl) | exact ResV.cell rfl rfl (by assumption)) ?_
    rw [decide_eq_true h0]
    exact ⟨rfl, k2.trans hk⟩
end Go.Proofs.Ytnoipmimddoioaa
/-
  The chapter's example; whether a deal follows of offers.
-/
namespace Go.Proofs.Ytnoipmimddoioaa
open Go.Proofs Go.Shelf Go.Sort
set_option linter.unusedVariables false

def exA : List Ofr := [oneO 1 5 9 10, oneO 2 7 20 30]
def exB : List Ofr := [oneO 1 5 6 10, oneO 2 7 20 30]
theorem exA_eq : dealOf exA = (goodDel (d1 7) exA, 0) := by
  have h1 : ((exA.length : Int) = 2) := rfl
  have h2 : exA.all (fun x => decide x.Ok) = true := by decide
  have h3 : decide (exA.Pairwise fitP) = true := by decide
  show (if (exA.length : Int) = 2 then (if exA.all (fun x => decide x.Ok) then (if decide (exA.Pairwise fitP) then (goodDel (d1 7) exA, 0) else (zDel, 11)) else (zDel, 2)) else (zDel, 3)) = (goodDel (d1 7) exA, (0 : Int))
  rw [if_pos h1, if_pos h2, if_pos h3]
theorem exB_eq : dealOf exB = (zDel, 11) := by
  have h1 : ((exB.length : Int) = 2) := rfl
  have h2 : exB.all (fun x => decide x.Ok) = true := by decide
  have h3 : ¬ (decide (exB.Pairwise fitP) = true) := by decide
  show (if (exB.length : Int) = 2 then (if exB.all (fun x => decide x.Ok) then (if decide (exB.Pairwise fitP) then (goodDel (d1 7) exB, 0) else (zDel, 11)) else (zDel, 2)) else (zDel, 3)) = (zDel, (11 : Int))
  rw [if_pos h1, if_pos h2, if_neg h3]
theorem exA_st : maxs (·.least) exA = 7 := by decide
theorem exA_wi : maxs (·.window) exA = 30 := by decide
def followsZ (d : Del) (l : List Ofr) : Int := if (dealOf l).2 = 0 then (if d = (dealOf l).1 then 0 else 11) else (dealOf l).2

attribute [local irreducible] CG NG SG Vals Der Row Blk MapIs IterAt addI xorI orI andI shlI shrI mulI twoI cmpD cmpW kW digO manyI mixD sortK maxs
theorem good_len (r : Dg) (l : List Ofr) : (goodDel r l).who.length = l.length := by
  show (sortK (kW (mixD l)) (l.map (·.who))).length = l.length
  rw [(sortK_perm _ _).length_eq, List.length_map]
theorem exA_who : (goodDel (d1 7) exA).who.length = 2 := good_len (d1 7) exA
set_option maxHeartbeats 16000000 in
theorem known_spec (w : World) : Ret Try.prog 13 #[] w (.bool true) := by
  refine enter0 Try.func13 rfl Try.ntmps13 ?_
  repeat (first|apply CG.seq|apply CG.region|apply SG.nil|apply NG.next|apply CG.skip|apply CG.ret|apply NG.ret_then|refine SG.val rfl rfl rfl rfl (by first|((first|apply qmv|apply qas|apply qlc|apply qla|apply qfa|apply qpk|apply qei|apply qni|apply qed|apply qln|apply qxt|apply qnt)<;>(first|exact rfl|assumption|exact dct (by first|assumption|omega)|exact dcf (by first|assumption|omega)|exact List.not_mem_nil|apply dc_length|apply ec_length|apply dl_length|fail))|fail) ?_)
  refine SG.ret rfl rfl rfl (vs := [bv 1, .int .i64 5, .int .i64 9, .int .i64 10]) (by repeat' (first | exact True.intro | exact rho_of rfl | refine And.intro ?_ ?_)) (one_spec 1 5 9 10 w) (fun w1 hk1 => ?_)
  refine SG.ret rfl rfl rfl (vs := [bv 2, .int .i64 7, .int .i64 20, .int .i64 30]) (by repeat' (first | exact True.intro | exact rho_of rfl | refine And.intro ?_ ?_)) (one_spec 2 7 20 30 w1) (fun w2 hk2 => ?_)
  refine SG.buildSlice rfl rfl rfl rfl (fun w => bso2' w 1 2 5 9 10 7 20 30) (fun b3 w3 hk3 hb3 hB3 => ?_)
  have hS3 : Sl ec 21 w3 (some ⟨b3, 0, none⟩) exA := flt_rowf ec_length hB3
  have hof := of2_spec (c := 2) hS3 (by decide) (by decide)
  rw [exA_eq] at hof
  refine SG.call rfl rfl rfl (vs := [.slice (some ⟨b3, 0, none⟩) 2 2]) (by repeat' (first | exact True.intro | exact rho_of rfl | refine And.intro ?_ ?_)) (hof.mono (fun e w4 hh => ?_))
  obtain ⟨v4, he, ⟨s4, rfl, ho4⟩, hk4⟩ := hh
  refine ⟨_, he, ?_⟩
  obtain ⟨a4, c4, rfl⟩ := own_sl ho4
  have k4 := ((hk1.trans hk2).trans hk3).trans hk4
  simp only at ho4
  repeat (first|apply CG.seq|apply CG.region|apply SG.nil|apply NG.next|apply CG.skip|apply CG.ret|apply NG.ret_then|refine SG.val rfl rfl rfl rfl (by first|((first|apply qmv|apply qas|apply qlc|apply qla|apply qfa|apply qpk|apply qei|apply qni|apply qed|apply qln|apply qxt|apply qnt)<;>(first|exact rfl|assumption|exact dct (by first|assumption|omega)|exact dcf (by first|assumption|omega)|exact List.not_mem_nil|apply dc_length|apply ec_length|apply dl_length|fail))|fail) ?_)
  refine SG.alloc rfl rfl rfl (fun b5 w5 hk5 hb5 hB5 => ?_)
  refine SG.setAll (l := dl (goodDel (d1 7) exA).rules (.slice a4 (goodDel (d1 7) exA).who.length c4) (goodDel (d1 7) exA).stake (goodDel (d1 7) exA).window) rfl rfl (by exact rho_of rfl) (by exact rho_of rfl) hB5 (dl_length _ _ _ _) rfl (dl_one _ _ _ _ _ _) (fun w6 hk6 hB6 => ?_)
  have hB6 : Blk w6 b5 (.cells (dl (d1 7) (.slice a4 (goodDel (d1 7) exA).who.length c4) (maxs (·.least) exA) (maxs (·.window) exA)).toArray 27) := hB6
  rw [exA_who, exA_st, exA_wi] at hB6
  have l5 := hB6.lt
  have k6 : Kp [] w w6 := (k4.trans hk5).trans_new hk6 (new1 (by have := k4.size; omega))
  repeat (first|apply CG.seq|apply CG.region|apply SG.nil|apply NG.next|apply CG.skip|apply CG.ret|apply NG.ret_then|refine SG.val rfl rfl rfl rfl (by first|((first|apply qmv|apply qas|apply qlc|apply qla|apply qfa|apply qpk|apply qei|apply qni|apply qed|apply qln|apply qxt|apply qnt)<;>(first|exact rfl|assumption|exact dct (by first|assumption|omega)|exact dcf (by first|assumption|omega)|exact List.not_mem_nil|apply dc_length|apply ec_length|apply dl_length|fail))|fail) ?_)
  refine SG.ret rfl rfl rfl (vs := [bv 1, .int .i64 5, .int .i64 6, .int .i64 10]) (by repeat' (first | exact True.intro | exact rho_of rfl | refine And.intro ?_ ?_)) (one_spec 1 5 6 10 w6) (fun w7 hk7 => ?_)
  refine SG.ret rfl rfl rfl (vs := [bv 2, .int .i64 7, .int .i64 20, .int .i64 30]) (by repeat' (first | exact True.intro | exact rho_of rfl | refine And.intro ?_ ?_)) (one_spec 2 7 20 30 w7) (fun w8 hk8 => ?_)
  refine SG.buildSlice rfl rfl rfl rfl (fun w => bso2' w 1 2 5 6 10 7 20 30) (fun b9 w9 hk9 hb9 hB9 => ?_)
  have hS9 : Sl ec 21 w9 (some ⟨b9, 0, none⟩) exB := flt_rowf ec_length hB9
  have hof := of2_spec (c := 2) hS9 (by decide) (by decide)
  rw [exB_eq] at hof
  refine SG.call rfl rfl rfl (vs := [.slice (some ⟨b9, 0, none⟩) 2 2]) (by repeat' (first | exact True.intro | exact rho_of rfl | refine And.intro ?_ ?_)) (hof.mono (fun e w10 hh => ?_))
  obtain ⟨v10, he, ⟨s10, rfl, ho10⟩, hk10⟩ := hh
  refine ⟨_, he, ?_⟩
  obtain ⟨a10, c10, rfl⟩ := own_sl ho10
  have k10 := ((hk7.trans hk8).trans hk9).trans hk10
  repeat (first|apply CG.seq|apply CG.region|apply SG.nil|apply NG.next|apply CG.skip|apply CG.ret|apply NG.ret_then|refine SG.val rfl rfl rfl rfl (by first|((first|apply qmv|apply qas|apply qlc|apply qla|apply qfa|apply qpk|apply qei|apply qni|apply qed|apply qln|apply qxt|apply qnt)<;>(first|exact rfl|assumption|exact dct (by first|assumption|omega)|exact dcf (by first|assumption|omega)|exact List.not_mem_nil|apply dc_length|apply ec_length|apply dl_length|fail))|fail) ?_)
  refine SG.alloc rfl rfl rfl (fun b11 w11 hk11 hb11 hB11 => ?_)
  refine SG.setAll (l := dl zDel.rules (.slice a10 zDel.who.length c10) zDel.stake zDel.window) rfl rfl (by exact rho_of rfl) (by exact rho_of rfl) hB11 (dl_length _ _ _ _) rfl (dl_one _ _ _ _ _ _) (fun w12 hk12 hB12 => ?_)
  have k12 : Kp [] w6 w12 := (k10.trans hk11).trans_new hk12 (new1 (by have := k10.size; omega))
  obtain ⟨r0, r1, r2, r3, -⟩ := dl_rows (hB6.kp0 k12)
  have g0 : (0 : Int) = 0 := rfl
  have g7 : (7 : Int) = 7 := rfl
  have g30 : (30 : Int) = 30 := rfl
  have g2 : ((2 : Nat) : Int) = 2 := rfl
  have g11 : (11 : Int) = 11 := rfl
  have gd : d1 7 = d1 7 := rfl
  repeat (first | first|apply CG.seq|apply CG.region|apply SG.nil|apply NG.next|apply CG.skip|apply CG.ret|apply NG.ret_then|refine SG.val rfl rfl rfl rfl (by first|((first|apply qmv|apply qas|apply qlc|apply qla|apply qfa|apply qpk|apply qei|apply qni|apply qed|apply qln|apply qxt|apply qnt)<;>(first|exact rfl|assumption|exact dct (by first|assumption|omega)|exact dcf (by first|assumption|omega)|exact List.not_mem_nil|apply dc_length|apply ec_length|apply dl_length|fail))|fail) ?_ | refine SG.skip rfl rfl ?_)
  refine SG.val rfl rfl rfl rfl (vals_build rfl (bd1 7)) ?_
  repeat (first | first|apply CG.seq|apply CG.region|apply SG.nil|apply NG.next|apply CG.skip|apply CG.ret|apply NG.ret_then|refine SG.val rfl rfl rfl rfl (by first|((first|apply qmv|apply qas|apply qlc|apply qla|apply qfa|apply qpk|apply qei|apply qni|apply qed|apply qln|apply qxt|apply qnt)<;>(first|exact rfl|assumption|exact dct (by first|assumption|omega)|exact dcf (by first|assumption|omega)|exact List.not_mem_nil|apply dc_length|apply ec_length|apply dl_length|fail))|fail) ?_ | refine SG.skip rfl rfl ?_)
  refine ret1 (Or.inl rfl) Try.results13 (by first | exact ResV.tmp rfl | exact ResV.agg rfl rfl (by assumption) (by first | exact dc_length _ | exact nc_length _ | exact rc_length _ _ _ | exact ec_length _ | exact dl_length _ _ _ _ | rfl) | exact ResV.cell rfl rfl (by assumption)) ?_
  exact ⟨rfl, k6.trans k12⟩
set_option maxHeartbeats 16000000 in
theorem follows_spec {w : World} (d : Del) {a a' : Option Addr} {c c' : Nat} {l : List Ofr} (hD : Sl dc 8 w a d.who) (hdl : d.who.length ≤ 1000000) (hS : Sl ec 21 w a' l) (hl : l.length ≤ 10000) (hc : l.length ≤ c') : Ret Try.prog 27 #[dealV d.rules (.slice a d.who.length c) d.stake d.window, .slice a' l.length c'] w (.int .i64 (followsZ d l)) := by
  refine enter2 Try.func27 rfl Try.ntmps27 rfl ?_
  unfold followsZ
  repeat (first|apply CG.seq|apply CG.region|apply SG.nil|apply NG.next|apply CG.skip|apply CG.ret|apply NG.ret_then|refine SG.val rfl rfl rfl rfl (by first|((first|apply qmv|apply qas|apply qlc|apply qla|apply qfa|apply qpk|apply qei|apply qni|apply qed|apply qln|apply qxt|apply qnt)<;>(first|exact rfl|assumption|exact dct (by first|assumption|omega)|exact dcf (by first|assumption|omega)|exact List.not_mem_nil|apply dc_length|apply ec_length|apply dl_length|fail))|fail) ?_)
  refine SG.box rfl rfl rfl (by exact rho_of rfl) (fun b1 w1 hk1 hb1 hB1 => ?_)
  have hB1 : Blk w1 b1 (.cells (dl d.rules (.slice a d.who.length c) d.stake d.window).toArray 27) := hB1
  have hof := of2_spec (c := c') (hS.kp0 hk1) hl hc
  generalize dealOf l = q at hof
  obtain ⟨d2, z⟩ := q
  simp only at hof ⊢
  repeat (first|apply CG.seq|apply CG.region|apply SG.nil|apply NG.next|apply CG.skip|apply CG.ret|apply NG.ret_then|refine SG.val rfl rfl rfl rfl (by first|((first|apply qmv|apply qas|apply qlc|apply qla|apply qfa|apply qpk|apply qei|apply qni|apply qed|apply qln|apply qxt|apply qnt)<;>(first|exact rfl|assumption|exact dct (by first|assumption|omega)|exact dcf (by first|assumption|omega)|exact List.not_mem_nil|apply dc_length|apply ec_length|apply dl_length|fail))|fail) ?_)
  refine SG.call rfl rfl rfl (vs := [.slice a' l.length c']) (by repeat' (first | exact True.intro | exact rho_of rfl | refine And.intro ?_ ?_)) (hof.mono (fun e w4 hh => ?_))
  obtain ⟨v4, he, ⟨s4, rfl, ho4⟩, hk4⟩ := hh
  refine ⟨_, he, ?_⟩
  obtain ⟨a4, c4, rfl, _, hS4⟩ := Sl.own dc_length ho4 rfl
  have k4 := hk1.trans hk4
  repeat (first|apply CG.seq|apply CG.region|apply SG.nil|apply NG.next|apply CG.skip|apply CG.ret|apply NG.ret_then|refine SG.val rfl rfl rfl rfl (by first|((first|apply qmv|apply qas|apply qlc|apply qla|apply qfa|apply qpk|apply qei|apply qni|apply qed|apply qln|apply qxt|apply qnt)<;>(first|exact rfl|assumption|exact dct (by first|assumption|omega)|exact dcf (by first|assumption|omega)|exact List.not_mem_nil|apply dc_length|apply ec_length|apply dl_length|fail))|fail) ?_)
  refine SG.alloc rfl rfl rfl (fun b5 w5 hk5 hb5 hB5 => ?_)
  refine SG.setAll (l := dl d2.rules (.slice a4 d2.who.length c4) d2.stake d2.window) rfl rfl (by exact rho_of rfl) (by exact rho_of rfl) hB5 (dl_length _ _ _ _) rfl (dl_one _ _ _ _ _ _) (fun w6 hk6 hB6 => ?_)
  have hr6 := Row.all (l := dl d2.rules (.slice a4 d2.who.length c4) d2.stake d2.window) hB6 rfl
  have k56 : Kp [] w4 w6 := hk5.trans_new hk6 (new1 (by omega))
  have k6 := k4.trans k56
  have hr1 := Row.all (l := dl d.rules (.slice a d.who.length c) d.stake d.window) (hB1.kp0 (hk4.trans k56)) rfl
  by_cases hz : z = 0
  · rw [if_pos hz]
    repeat (first|apply CG.seq|apply CG.region|apply SG.nil|apply NG.next|apply CG.skip|apply CG.ret|apply NG.ret_then|refine SG.val rfl rfl rfl rfl (by first|((first|apply qmv|apply qas|apply qlc|apply qla|apply qfa|apply qpk|apply qei|apply qni|apply qed|apply qln|apply qxt|apply qnt)<;>(first|exact rfl|assumption|exact dct (by first|assumption|omega)|exact dcf (by first|assumption|omega)|exact List.not_mem_nil|apply dc_length|apply ec_length|apply dl_length|fail))|fail) ?_)
    refine CG.cond_f rfl (by exact rho_of rfl) rfl ?_
    repeat (first|apply CG.seq|apply CG.region|apply SG.nil|apply NG.next|apply CG.skip|apply CG.ret|apply NG.ret_then|refine SG.val rfl rfl rfl rfl (by first|((first|apply qmv|apply qas|apply qlc|apply qla|apply qfa|apply qpk|apply qei|apply qni|apply qed|apply qln|apply qxt|apply qnt)<;>(first|exact rfl|assumption|exact dct (by first|assumption|omega)|exact dcf (by first|assumption|omega)|exact List.not_mem_nil|apply dc_length|apply ec_length|apply dl_length|fail))|fail) ?_)
    refine SG.ret rfl rfl rfl (vs := [dealV d.rules (.slice a d.who.length c) d.stake d.window, dealV d2.rules (.slice a4 d2.who.length c4) d2.stake d2.window]) (by repeat' (first | exact True.intro | exact rho_of rfl | refine And.intro ?_ ?_)) (same_spec d d2 (hD.kp0 k6) (hS4.kp0 k56) (by omega)) (fun w7 hk7 => ?_)
    by_cases hd : d = d2
    · rw [decide_eq_true hd, if_pos hd]
      repeat (first|apply CG.seq|apply CG.region|apply SG.nil|apply NG.next|apply CG.skip|apply CG.ret|apply NG.ret_then|refine SG.val rfl rfl rfl rfl (by first|((first|apply qmv|apply qas|apply qlc|apply qla|apply qfa|apply qpk|apply qei|apply qni|apply qed|apply qln|apply qxt|apply qnt)<;>(first|exact rfl|assumption|exact dct (by first|assumption|omega)|exact dcf (by first|assumption|omega)|exact List.not_mem_nil|apply dc_length|apply ec_length|apply dl_length|fail))|fail) ?_)
      refine CG.cond_f rfl (by exact rho_of rfl) rfl ?_
      repeat (first|apply CG.seq|apply CG.region|apply SG.nil|apply NG.next|apply CG.skip|apply CG.ret|apply NG.ret_then|refine SG.val rfl rfl rfl rfl (by first|((first|apply qmv|apply qas|apply qlc|apply qla|apply qfa|apply qpk|apply qei|apply qni|apply qed|apply qln|apply qxt|apply qnt)<;>(first|exact rfl|assumption|exact dct (by first|assumption|omega)|exact dcf (by first|assumption|omega)|exact List.not_mem_nil|apply dc_length|apply ec_length|apply dl_length|fail))|fail) ?_)
      refine ret1 (Or.inl rfl) Try.results27 (by first | exact ResV.tmp rfl | exact ResV.agg rfl rfl (by assumption) (by first | exact dc_length _ | exact nc_length _ | exact rc_length _ _ _ | exact ec_length _ | exact dl_length _ _ _ _ | rfl) | exact ResV.cell rfl rfl (by assumption)) ?_
      exact ⟨rfl, k6.trans hk7⟩
    · rw [decide_eq_false hd, if_neg hd]
      repeat (first|apply CG.seq|apply CG.region|apply SG.nil|apply NG.next|apply CG.skip|apply CG.ret|apply NG.ret_then|refine SG.val rfl rfl rfl rfl (by first|((first|apply qmv|apply qas|apply qlc|apply qla|apply qfa|apply qpk|apply qei|apply qni|apply qed|apply qln|apply qxt|apply qnt)<;>(first|exact rfl|assumption|exact dct (by first|assumption|omega)|exact dcf (by first|assumption|omega)|exact List.not_mem_nil|apply dc_length|apply ec_length|apply dl_length|fail))|fail) ?_)
      refine CG.cond_t rfl (by exact rho_of rfl) rfl ?_
      repeat (first|apply CG.seq|apply CG.region|apply SG.nil|apply NG.next|apply CG.skip|apply CG.ret|apply NG.ret_then|refine SG.val rfl rfl rfl rfl (by first|((first|apply qmv|apply qas|apply qlc|apply qla|apply qfa|apply qpk|apply qei|apply qni|apply qed|apply qln|apply qxt|apply qnt)<;>(first|exact rfl|assumption|exact dct (by first|assumption|omega)|exact dcf (by first|assumption|omega)|exact List.not_mem_nil|apply dc_length|apply ec_length|apply dl_length|fail))|fail) ?_)
      refine ret1 (Or.inl rfl) Try.results27 (by first | exact ResV.tmp rfl | exact ResV.agg rfl rfl (by assumption) (by first | exact dc_length _ | exact nc_length _ | exact rc_length _ _ _ | exact ec_length _ | exact dl_length _ _ _ _ | rfl) | exact ResV.cell rfl rfl (by assumption)) ?_
      exact ⟨rfl, k6.trans hk7⟩
  · rw [if_neg hz]
    repeat (first|apply CG.seq|apply CG.region|apply SG.nil|apply NG.next|apply CG.skip|apply CG.ret|apply NG.ret_then|refine SG.val rfl rfl rfl rfl (by first|((first|apply qmv|apply qas|apply qlc|apply qla|apply qfa|apply qpk|apply qei|apply qni|apply qed|apply qln|apply qxt|apply qnt)<;>(first|exact rfl|assumption|exact dct (by first|assumption|omega)|exact dcf (by first|assumption|omega)|exact List.not_mem_nil|apply dc_length|apply ec_length|apply dl_length|fail))|fail) ?_)
    refine CG.cond_t rfl (by exact rho_of rfl) rfl ?_
    repeat (first|apply CG.seq|apply CG.region|apply SG.nil|apply NG.next|apply CG.skip|apply CG.ret|apply NG.ret_then|refine SG.val rfl rfl rfl rfl (by first|((first|apply qmv|apply qas|apply qlc|apply qla|apply qfa|apply qpk|apply qei|apply qni|apply qed|apply qln|apply qxt|apply qnt)<;>(first|exact rfl|assumption|exact dct (by first|assumption|omega)|exact dcf (by first|assumption|omega)|exact List.not_mem_nil|apply dc_length|apply ec_length|apply dl_length|fail))|fail) ?_)
    refine ret1 (Or.inl rfl) Try.results27 (by first | exact ResV.tmp rfl | exact ResV.agg rfl rfl (by assumption) (by first | exact dc_length _ | exact nc_length _ | exact rc_length _ _ _ | exact ec_length _ | exact dl_length _ _ _ _ | rfl) | exact ResV.cell rfl rfl (by assumption)) ?_
    exact ⟨rfl, k6⟩
end Go.Proofs.Ytnoipmimddoioaa
/-
  The lesser of two ints.
-/
namespace Go.Proofs.Ytnoipmimddoioaa
set_option linter.unusedVariables false
section
variable {P : Program} {S : List Nat} {w0 : World} {F : World → Prop} {L : Env} {d : Option Nat} {ty : TypeId} {pos : String} {af : Array Edge} {g : Option (Nat × Bool)}
theorem qmn {T T2 : TypeId} {x y : Operand} {a b : Int} (hx : ro L x = some (.int .i64 a)) (hy : ro L y = some (.int .i64 b)) :
    Vals P S w0 F L ⟨d, .call { callee := .builtin .min, args := #[x, y], argTypes := #[T, T2] }, ty, pos, af, g⟩ (.int .i64 (if b < a then b else a)) := fun w _ _ => by
  simp [execOp, rho_of hx, rho_of hy, resolve, invoke, builtin, Builtin.min_, Builtin.min2]
end
section
variable {P : Program} {S : List Nat} {w0 : World} {F : World → Prop} {L : Env} {d : Option Nat} {ty : TypeId} {pos : String} {af : Array Edge} {g : Option (Nat × Bool)}
/-- A byte as an int. -/
theorem qb3 {T T' : TypeId} [u : Ut P T (.int .u8)] [u' : Ut P T' (.int .i64)] {x : Operand} {a : UInt8} (hx : ro L x = some (bv a)) : Vals P S w0 F L ⟨d, .convert T T' x, ty, pos, af, g⟩ (.int .i64 (a.toNat : Int)) := by
  have h := qcv (P := P) (S := S) (w0 := w0) (F := F) (d := d) (ty := ty) (pos := pos) (af := af) (g := g) (u := u) (u' := u') hx
  have hlt : a.toNat < 256 := a.toNat_lt
  have e : IntKind.wrap .i64 (a.toNat : Int) = (a.toNat : Int) := by
    simp [IntKind.wrap, IntKind.bits, IntKind.signed]
    omega
  rwa [e] at h
end
theorem min_take {α : Type} (l : List α) (m : Nat) : (if (m : Int) < (l.length : Int) then (m : Int) else (l.length : Int)) = ((l.take m).length : Int) := by
  rw [List.length_take]
  split <;> omega
end Go.Proofs.Ytnoipmimddoioaa
/-
  A nil lobby; a new one. LobbyNil, walked.
-/
namespace Go.Proofs.Ytnoipmimddoioaa
open Go.Proofs Go.Shelf Go.Sort
set_option linter.unusedVariables false

abbrev np : Value := .pointer none
theorem bl1 (z : Int) (w : World) : (Instr.build 95 #[(0, .int .i64 z)]).run Try.prog w = .ok (.agg #[.int .i64 z, .slice none 0 0]) w := by kernel_rfl

attribute [local irreducible] CG NG SG Vals Der Row Blk MapIs IterAt addI xorI orI andI shlI shrI mulI twoI cmpD cmpW kW digO manyI mixD sortK maxs dealOf nameD
set_option maxHeartbeats 8000000 in
theorem post_nil (z : Int) (o : Ofr) (w : World) : Ret Try.prog 29 #[np, .int .i64 z, ov o] w (.int .i64 1) := by
  refine enter3 Try.func29 rfl Try.ntmps29 rfl ?_
  repeat (first|apply CG.seq|apply CG.region|apply SG.nil|apply NG.next|apply CG.skip|apply CG.ret|apply CG.scope|apply NG.ret_then|apply NG.ret_scope|refine SG.val rfl rfl rfl rfl (by first|((first|apply qep|apply qmv|apply qas|apply qla|apply qfa|apply qpk|apply qls|apply qei|apply qln|apply qgt|apply qxt|apply qnt|apply qep)<;>(first|exact rfl|assumption|exact dct (by first|assumption|omega)|exact dcf (by first|assumption|omega)|exact List.not_mem_nil|apply dc_length|apply ec_length|apply dl_length|fail))|fail) ?_)
  refine SG.box rfl rfl rfl (by exact rho_of rfl) (fun b1 w1 hk1 hb1 hB1 => ?_)
  repeat (first|apply CG.seq|apply CG.region|apply SG.nil|apply NG.next|apply CG.skip|apply CG.ret|apply CG.scope|apply NG.ret_then|apply NG.ret_scope|refine SG.val rfl rfl rfl rfl (by first|((first|apply qep|apply qmv|apply qas|apply qla|apply qfa|apply qpk|apply qls|apply qei|apply qln|apply qgt|apply qxt|apply qnt|apply qep)<;>(first|exact rfl|assumption|exact dct (by first|assumption|omega)|exact dcf (by first|assumption|omega)|exact List.not_mem_nil|apply dc_length|apply ec_length|apply dl_length|fail))|fail) ?_)
  refine CG.cond_t rfl (by exact rho_of rfl) rfl ?_
  repeat (first|apply CG.seq|apply CG.region|apply SG.nil|apply NG.next|apply CG.skip|apply CG.ret|apply CG.scope|apply NG.ret_then|apply NG.ret_scope|refine SG.val rfl rfl rfl rfl (by first|((first|apply qep|apply qmv|apply qas|apply qla|apply qfa|apply qpk|apply qls|apply qei|apply qln|apply qgt|apply qxt|apply qnt|apply qep)<;>(first|exact rfl|assumption|exact dct (by first|assumption|omega)|exact dcf (by first|assumption|omega)|exact List.not_mem_nil|apply dc_length|apply ec_length|apply dl_length|fail))|fail) ?_)
  refine ret1 (Or.inl rfl) Try.results29 (by first | exact ResV.tmp rfl | exact ResV.agg rfl rfl (by assumption) (by first | exact dc_length _ | exact nc_length _ | exact rc_length _ _ _ | exact ec_length _ | exact dl_length _ _ _ _ | rfl) | exact ResV.cell rfl rfl (by assumption)) ?_
  exact ⟨rfl, hk1⟩
set_option maxHeartbeats 8000000 in
theorem drop_nil (d : Dg) (w : World) : Ret Try.prog 32 #[np, dv d] w (.bool false) := by
  refine enter2 Try.func32 rfl Try.ntmps32 rfl ?_
  repeat (first|apply CG.seq|apply CG.region|apply SG.nil|apply NG.next|apply CG.skip|apply CG.ret|apply CG.scope|apply NG.ret_then|apply NG.ret_scope|refine SG.val rfl rfl rfl rfl (by first|((first|apply qep|apply qmv|apply qas|apply qla|apply qfa|apply qpk|apply qls|apply qei|apply qln|apply qgt|apply qxt|apply qnt|apply qep)<;>(first|exact rfl|assumption|exact dct (by first|assumption|omega)|exact dcf (by first|assumption|omega)|exact List.not_mem_nil|apply dc_length|apply ec_length|apply dl_length|fail))|fail) ?_)
  refine SG.box rfl rfl rfl (by exact rho_of rfl) (fun b1 w1 hk1 hb1 hB1 => ?_)
  repeat (first|apply CG.seq|apply CG.region|apply SG.nil|apply NG.next|apply CG.skip|apply CG.ret|apply CG.scope|apply NG.ret_then|apply NG.ret_scope|refine SG.val rfl rfl rfl rfl (by first|((first|apply qep|apply qmv|apply qas|apply qla|apply qfa|apply qpk|apply qls|apply qei|apply qln|apply qgt|apply qxt|apply qnt|apply qep)<;>(first|exact rfl|assumption|exact dct (by first|assumption|omega)|exact dcf (by first|assumption|omega)|exact List.not_mem_nil|apply dc_length|apply ec_length|apply dl_length|fail))|fail) ?_)
  refine CG.draw0 mixed [0, 1, 2, 3, 4, 5, 6, 7, 8, 9, 10, 11] [] (by kernel_rfl) ?_
  repeat (first | refine Der.val rfl rfl rfl (by first|((first|apply qep|apply qmv|apply qas|apply qla|apply qfa|apply qpk|apply qls|apply qei|apply qln|apply qgt|apply qxt|apply qnt|apply qep)<;>(first|exact rfl|assumption|exact dct (by first|assumption|omega)|exact dcf (by first|assumption|omega)|exact List.not_mem_nil|apply dc_length|apply ec_length|apply dl_length|fail))|fail) ?_ | refine Der.skip rfl rfl ?_)
  refine Der.fin (fun w2 hk2 _ _ => ?_)
  repeat (first|apply CG.seq|apply CG.region|apply SG.nil|apply NG.next|apply CG.skip|apply CG.ret|apply CG.scope|apply NG.ret_then|apply NG.ret_scope|refine SG.val rfl rfl rfl rfl (by first|((first|apply qep|apply qmv|apply qas|apply qla|apply qfa|apply qpk|apply qls|apply qei|apply qln|apply qgt|apply qxt|apply qnt|apply qep)<;>(first|exact rfl|assumption|exact dct (by first|assumption|omega)|exact dcf (by first|assumption|omega)|exact List.not_mem_nil|apply dc_length|apply ec_length|apply dl_length|fail))|fail) ?_)
  refine CG.cond_t rfl (by exact rho_of rfl) rfl ?_
  repeat (first|apply CG.seq|apply CG.region|apply SG.nil|apply NG.next|apply CG.skip|apply CG.ret|apply CG.scope|apply NG.ret_then|apply NG.ret_scope|refine SG.val rfl rfl rfl rfl (by first|((first|apply qep|apply qmv|apply qas|apply qla|apply qfa|apply qpk|apply qls|apply qei|apply qln|apply qgt|apply qxt|apply qnt|apply qep)<;>(first|exact rfl|assumption|exact dct (by first|assumption|omega)|exact dcf (by first|assumption|omega)|exact List.not_mem_nil|apply dc_length|apply ec_length|apply dl_length|fail))|fail) ?_)
  refine ret1 (Or.inl rfl) Try.results32 (by first | exact ResV.tmp rfl | exact ResV.agg rfl rfl (by assumption) (by first | exact dc_length _ | exact nc_length _ | exact rc_length _ _ _ | exact ec_length _ | exact dl_length _ _ _ _ | rfl) | exact ResV.cell rfl rfl (by assumption)) ?_
  exact ⟨rfl, hk1.trans hk2⟩
set_option maxHeartbeats 8000000 in
theorem all_nil (z : Int) (w : World) : Ret Try.prog 31 #[np, .int .i64 z] w (.slice none 0 0) := by
  refine enter2 Try.func31 rfl Try.ntmps31 rfl ?_
  repeat (first|apply CG.seq|apply CG.region|apply SG.nil|apply NG.next|apply CG.skip|apply CG.ret|apply CG.scope|apply NG.ret_then|apply NG.ret_scope|refine SG.val rfl rfl rfl rfl (by first|((first|apply qep|apply qmv|apply qas|apply qla|apply qfa|apply qpk|apply qls|apply qei|apply qln|apply qgt|apply qxt|apply qnt|apply qep)<;>(first|exact rfl|assumption|exact dct (by first|assumption|omega)|exact dcf (by first|assumption|omega)|exact List.not_mem_nil|apply dc_length|apply ec_length|apply dl_length|fail))|fail) ?_)
  refine CG.cond_t rfl (by exact rho_of rfl) rfl ?_
  repeat (first|apply CG.seq|apply CG.region|apply SG.nil|apply NG.next|apply CG.skip|apply CG.ret|apply CG.scope|apply NG.ret_then|apply NG.ret_scope|refine SG.val rfl rfl rfl rfl (by first|((first|apply qep|apply qmv|apply qas|apply qla|apply qfa|apply qpk|apply qls|apply qei|apply qln|apply qgt|apply qxt|apply qnt|apply qep)<;>(first|exact rfl|assumption|exact dct (by first|assumption|omega)|exact dcf (by first|assumption|omega)|exact List.not_mem_nil|apply dc_length|apply ec_length|apply dl_length|fail))|fail) ?_)
  refine ret1 (Or.inl rfl) Try.results31 (by first | exact ResV.tmp rfl | exact ResV.agg rfl rfl (by assumption) (by first | exact dc_length _ | exact nc_length _ | exact rc_length _ _ _ | exact ec_length _ | exact dl_length _ _ _ _ | rfl) | exact ResV.cell rfl rfl (by assumption)) ?_
  exact ⟨rfl, Kp.refl _ _⟩
set_option maxHeartbeats 8000000 in
theorem clone_nil (w : World) : Ret Try.prog 33 #[np] w np := by
  refine enter1 Try.func33 rfl Try.ntmps33 rfl ?_
  repeat (first|apply CG.seq|apply CG.region|apply SG.nil|apply NG.next|apply CG.skip|apply CG.ret|apply CG.scope|apply NG.ret_then|apply NG.ret_scope|refine SG.val rfl rfl rfl rfl (by first|((first|apply qep|apply qmv|apply qas|apply qla|apply qfa|apply qpk|apply qls|apply qei|apply qln|apply qgt|apply qxt|apply qnt|apply qep)<;>(first|exact rfl|assumption|exact dct (by first|assumption|omega)|exact dcf (by first|assumption|omega)|exact List.not_mem_nil|apply dc_length|apply ec_length|apply dl_length|fail))|fail) ?_)
  refine CG.cond_t rfl (by exact rho_of rfl) rfl ?_
  repeat (first|apply CG.seq|apply CG.region|apply SG.nil|apply NG.next|apply CG.skip|apply CG.ret|apply CG.scope|apply NG.ret_then|apply NG.ret_scope|refine SG.val rfl rfl rfl rfl (by first|((first|apply qep|apply qmv|apply qas|apply qla|apply qfa|apply qpk|apply qls|apply qei|apply qln|apply qgt|apply qxt|apply qnt|apply qep)<;>(first|exact rfl|assumption|exact dct (by first|assumption|omega)|exact dcf (by first|assumption|omega)|exact List.not_mem_nil|apply dc_length|apply ec_length|apply dl_length|fail))|fail) ?_)
  refine ret1 (Or.inl rfl) Try.results33 (by first | exact ResV.tmp rfl | exact ResV.agg rfl rfl (by assumption) (by first | exact dc_length _ | exact nc_length _ | exact rc_length _ _ _ | exact ec_length _ | exact dl_length _ _ _ _ | rfl) | exact ResV.cell rfl rfl (by assumption)) ?_
  exact ⟨rfl, Kp.refl _ _⟩
set_option maxHeartbeats 8000000 in
theorem same_nn (w : World) : Ret Try.prog 34 #[np, np] w (.bool true) := by
  refine enter2 Try.func34 rfl Try.ntmps34 rfl ?_
  repeat (first | first|apply CG.seq|apply CG.region|apply SG.nil|apply NG.next|apply CG.skip|apply CG.ret|apply CG.scope|apply NG.ret_then|apply NG.ret_scope|refine SG.val rfl rfl rfl rfl (by first|((first|apply qep|apply qmv|apply qas|apply qla|apply qfa|apply qpk|apply qls|apply qei|apply qln|apply qgt|apply qxt|apply qnt|apply qep)<;>(first|exact rfl|assumption|exact dct (by first|assumption|omega)|exact dcf (by first|assumption|omega)|exact List.not_mem_nil|apply dc_length|apply ec_length|apply dl_length|fail))|fail) ?_ | refine SG.skip rfl rfl ?_)
  refine CG.cond_t rfl (by exact rho_of rfl) rfl ?_
  repeat (first | first|apply CG.seq|apply CG.region|apply SG.nil|apply NG.next|apply CG.skip|apply CG.ret|apply CG.scope|apply NG.ret_then|apply NG.ret_scope|refine SG.val rfl rfl rfl rfl (by first|((first|apply qep|apply qmv|apply qas|apply qla|apply qfa|apply qpk|apply qls|apply qei|apply qln|apply qgt|apply qxt|apply qnt|apply qep)<;>(first|exact rfl|assumption|exact dct (by first|assumption|omega)|exact dcf (by first|assumption|omega)|exact List.not_mem_nil|apply dc_length|apply ec_length|apply dl_length|fail))|fail) ?_ | refine SG.skip rfl rfl ?_)
  refine ret1 (Or.inl rfl) Try.results34 (by first | exact ResV.tmp rfl | exact ResV.agg rfl rfl (by assumption) (by first | exact dc_length _ | exact nc_length _ | exact rc_length _ _ _ | exact ec_length _ | exact dl_length _ _ _ _ | rfl) | exact ResV.cell rfl rfl (by assumption)) ?_
  exact ⟨rfl, Kp.refl _ _⟩
set_option maxHeartbeats 8000000 in
theorem same_np (b : Nat) (w : World) : Ret Try.prog 34 #[np, .pointer (some ⟨b, 0, none⟩)] w (.bool false) := by
  refine enter2 Try.func34 rfl Try.ntmps34 rfl ?_
  repeat (first | first|apply CG.seq|apply CG.region|apply SG.nil|apply NG.next|apply CG.skip|apply CG.ret|apply CG.scope|apply NG.ret_then|apply NG.ret_scope|refine SG.val rfl rfl rfl rfl (by first|((first|apply qep|apply qmv|apply qas|apply qla|apply qfa|apply qpk|apply qls|apply qei|apply qln|apply qgt|apply qxt|apply qnt|apply qep)<;>(first|exact rfl|assumption|exact dct (by first|assumption|omega)|exact dcf (by first|assumption|omega)|exact List.not_mem_nil|apply dc_length|apply ec_length|apply dl_length|fail))|fail) ?_ | refine SG.skip rfl rfl ?_)
  refine CG.cond_t rfl (by exact rho_of rfl) rfl ?_
  repeat (first | first|apply CG.seq|apply CG.region|apply SG.nil|apply NG.next|apply CG.skip|apply CG.ret|apply CG.scope|apply NG.ret_then|apply NG.ret_scope|refine SG.val rfl rfl rfl rfl (by first|((first|apply qep|apply qmv|apply qas|apply qla|apply qfa|apply qpk|apply qls|apply qei|apply qln|apply qgt|apply qxt|apply qnt|apply qep)<;>(first|exact rfl|assumption|exact dct (by first|assumption|omega)|exact dcf (by first|assumption|omega)|exact List.not_mem_nil|apply dc_length|apply ec_length|apply dl_length|fail))|fail) ?_ | refine SG.skip rfl rfl ?_)
  refine ret1 (Or.inl rfl) Try.results34 (by first | exact ResV.tmp rfl | exact ResV.agg rfl rfl (by assumption) (by first | exact dc_length _ | exact nc_length _ | exact rc_length _ _ _ | exact ec_length _ | exact dl_length _ _ _ _ | rfl) | exact ResV.cell rfl rfl (by assumption)) ?_
  exact ⟨rfl, Kp.refl _ _⟩
set_option maxHeartbeats 8000000 in
theorem same_pn (b : Nat) (w : World) : Ret Try.prog 34 #[.pointer (some ⟨b, 0, none⟩), np] w (.bool false) := by
  refine enter2 Try.func34 rfl Try.ntmps34 rfl ?_
  repeat (first | first|apply CG.seq|apply CG.region|apply SG.nil|apply NG.next|apply CG.skip|apply CG.ret|apply CG.scope|apply NG.ret_then|apply NG.ret_scope|refine SG.val rfl rfl rfl rfl (by first|((first|apply qep|apply qmv|apply qas|apply qla|apply qfa|apply qpk|apply qls|apply qei|apply qln|apply qgt|apply qxt|apply qnt|apply qep)<;>(first|exact rfl|assumption|exact dct (by first|assumption|omega)|exact dcf (by first|assumption|omega)|exact List.not_mem_nil|apply dc_length|apply ec_length|apply dl_length|fail))|fail) ?_ | refine SG.skip rfl rfl ?_)
  refine CG.cond_t rfl (by exact rho_of rfl) rfl ?_
  repeat (first | first|apply CG.seq|apply CG.region|apply SG.nil|apply NG.next|apply CG.skip|apply CG.ret|apply CG.scope|apply NG.ret_then|apply NG.ret_scope|refine SG.val rfl rfl rfl rfl (by first|((first|apply qep|apply qmv|apply qas|apply qla|apply qfa|apply qpk|apply qls|apply qei|apply qln|apply qgt|apply qxt|apply qnt|apply qep)<;>(first|exact rfl|assumption|exact dct (by first|assumption|omega)|exact dcf (by first|assumption|omega)|exact List.not_mem_nil|apply dc_length|apply ec_length|apply dl_length|fail))|fail) ?_ | refine SG.skip rfl rfl ?_)
  refine ret1 (Or.inl rfl) Try.results34 (by first | exact ResV.tmp rfl | exact ResV.agg rfl rfl (by assumption) (by first | exact dc_length _ | exact nc_length _ | exact rc_length _ _ _ | exact ec_length _ | exact dl_length _ _ _ _ | rfl) | exact ResV.cell rfl rfl (by assumption)) ?_
  exact ⟨rfl, Kp.refl _ _⟩
set_option maxHeartbeats 8000000 in
theorem match_nil (z : Int) (w : World) : Ret Try.prog 30 #[np, .int .i64 z] w (.tuple #[dealV zd (.slice none 0 0) 0 0, .slice none 0 0, .bool false]) := by
  refine enter2 Try.func30 rfl Try.ntmps30 rfl ?_
  repeat (first|apply CG.seq|apply CG.region|apply SG.nil|apply NG.next|apply CG.skip|apply CG.ret|apply CG.scope|apply NG.ret_then|apply NG.ret_scope|refine SG.val rfl rfl rfl rfl (by first|((first|apply qep|apply qmv|apply qas|apply qla|apply qfa|apply qpk|apply qls|apply qei|apply qln|apply qgt|apply qxt|apply qnt|apply qep)<;>(first|exact rfl|assumption|exact dct (by first|assumption|omega)|exact dcf (by first|assumption|omega)|exact List.not_mem_nil|apply dc_length|apply ec_length|apply dl_length|fail))|fail) ?_)
  refine SG.alloc rfl rfl rfl (fun b2 w1 hk1 hb2 hB2 => ?_)
  repeat (first|apply CG.seq|apply CG.region|apply SG.nil|apply NG.next|apply CG.skip|apply CG.ret|apply CG.scope|apply NG.ret_then|apply NG.ret_scope|refine SG.val rfl rfl rfl rfl (by first|((first|apply qep|apply qmv|apply qas|apply qla|apply qfa|apply qpk|apply qls|apply qei|apply qln|apply qgt|apply qxt|apply qnt|apply qep)<;>(first|exact rfl|assumption|exact dct (by first|assumption|omega)|exact dcf (by first|assumption|omega)|exact List.not_mem_nil|apply dc_length|apply ec_length|apply dl_length|fail))|fail) ?_)
  refine CG.cond_t rfl (by exact rho_of rfl) rfl ?_
  repeat (first|apply CG.seq|apply CG.region|apply SG.nil|apply NG.next|apply CG.skip|apply CG.ret|apply CG.scope|apply NG.ret_then|apply NG.ret_scope|refine SG.val rfl rfl rfl rfl (by first|((first|apply qep|apply qmv|apply qas|apply qla|apply qfa|apply qpk|apply qls|apply qei|apply qln|apply qgt|apply qxt|apply qnt|apply qep)<;>(first|exact rfl|assumption|exact dct (by first|assumption|omega)|exact dcf (by first|assumption|omega)|exact List.not_mem_nil|apply dc_length|apply ec_length|apply dl_length|fail))|fail) ?_)
  refine SG.val rfl rfl rfl rfl (vals_build rfl bdz) ?_
  refine SG.setAll (l := dl zd (.slice none 0 0) 0 0) rfl rfl (by exact rho_of rfl) (by exact rho_of rfl) hB2 (dl_length _ _ _ _) rfl (dl_one _ _ _ _ _ _) (fun w2 hk2 hB3 => ?_)
  have hr : Row w2 b2 0 (dl zd (.slice none 0 0) 0 0) := Row.all hB3 rfl
  repeat (first|apply CG.seq|apply CG.region|apply SG.nil|apply NG.next|apply CG.skip|apply CG.ret|apply CG.scope|apply NG.ret_then|apply NG.ret_scope|refine SG.val rfl rfl rfl rfl (by first|((first|apply qep|apply qmv|apply qas|apply qla|apply qfa|apply qpk|apply qls|apply qei|apply qln|apply qgt|apply qxt|apply qnt|apply qep)<;>(first|exact rfl|assumption|exact dct (by first|assumption|omega)|exact dcf (by first|assumption|omega)|exact List.not_mem_nil|apply dc_length|apply ec_length|apply dl_length|fail))|fail) ?_)
  refine ret3 (Or.inl rfl) Try.results30 (ResV.agg rfl rfl hr (dl_length _ _ _ _)) (by first | exact ResV.tmp rfl | exact ResV.agg rfl rfl (by assumption) (by first | exact dc_length _ | exact nc_length _ | exact rc_length _ _ _ | exact ec_length _ | exact dl_length _ _ _ _ | rfl) | exact ResV.cell rfl rfl (by assumption)) (by first | exact ResV.tmp rfl | exact ResV.agg rfl rfl (by assumption) (by first | exact dc_length _ | exact nc_length _ | exact rc_length _ _ _ | exact ec_length _ | exact dl_length _ _ _ _ | rfl) | exact ResV.cell rfl rfl (by assumption)) ?_
  exact ⟨rfl, hk1.trans_new hk2 (new1 (by omega))⟩
set_option maxHeartbeats 8000000 in
theorem new_spec (z : Int) (h1 : 1 ≤ z) (h2 : z ≤ 256) (w : World) : Calls Try.prog 28 #[.int .i64 z] w (fun e w' => ∃ b, e = .returned (.tuple #[.pointer (some ⟨b, 0, none⟩), .int .i64 0]) ∧ Kp [] w w' ∧ w.heap.size ≤ b ∧ Blk w' b (.cells #[.int .i64 z, .slice none 0 0] 95)) := by
  refine enter1 Try.func28 rfl Try.ntmps28 rfl ?_
  have g1 : ¬ z < 1 := by omega
  have g2 : ¬ 256 < z := by omega
  repeat (first | first|apply CG.seq|apply CG.region|apply SG.nil|apply NG.next|apply CG.skip|apply CG.ret|apply CG.scope|apply NG.ret_then|apply NG.ret_scope|refine SG.val rfl rfl rfl rfl (by first|((first|apply qep|apply qmv|apply qas|apply qla|apply qfa|apply qpk|apply qls|apply qei|apply qln|apply qgt|apply qxt|apply qnt|apply qep)<;>(first|exact rfl|assumption|exact dct (by first|assumption|omega)|exact dcf (by first|assumption|omega)|exact List.not_mem_nil|apply dc_length|apply ec_length|apply dl_length|fail))|fail) ?_ | refine SG.skip rfl rfl ?_)
  refine CG.cond_f rfl (by exact rho_of rfl) rfl ?_
  repeat (first|apply CG.seq|apply CG.region|apply SG.nil|apply NG.next|apply CG.skip|apply CG.ret|apply CG.scope|apply NG.ret_then|apply NG.ret_scope|refine SG.val rfl rfl rfl rfl (by first|((first|apply qep|apply qmv|apply qas|apply qla|apply qfa|apply qpk|apply qls|apply qei|apply qln|apply qgt|apply qxt|apply qnt|apply qep)<;>(first|exact rfl|assumption|exact dct (by first|assumption|omega)|exact dcf (by first|assumption|omega)|exact List.not_mem_nil|apply dc_length|apply ec_length|apply dl_length|fail))|fail) ?_)
  refine SG.val rfl rfl rfl rfl (vals_build rfl (bl1 z)) ?_
  refine SG.box rfl rfl rfl (by exact rho_of rfl) (fun b w1 hk1 hb hB => ?_)
  repeat (first|apply CG.seq|apply CG.region|apply SG.nil|apply NG.next|apply CG.skip|apply CG.ret|apply CG.scope|apply NG.ret_then|apply NG.ret_scope|refine SG.val rfl rfl rfl rfl (by first|((first|apply qep|apply qmv|apply qas|apply qla|apply qfa|apply qpk|apply qls|apply qei|apply qln|apply qgt|apply qxt|apply qnt|apply qep)<;>(first|exact rfl|assumption|exact dct (by first|assumption|omega)|exact dcf (by first|assumption|omega)|exact List.not_mem_nil|apply dc_length|apply ec_length|apply dl_length|fail))|fail) ?_)
  refine ret2 (Or.inl rfl) Try.results28 (by first | exact ResV.tmp rfl | exact ResV.agg rfl rfl (by assumption) (by first | exact dc_length _ | exact nc_length _ | exact rc_length _ _ _ | exact ec_length _ | exact dl_length _ _ _ _ | rfl) | exact ResV.cell rfl rfl (by assumption)) (by first | exact ResV.tmp rfl | exact ResV.agg rfl rfl (by assumption) (by first | exact dc_length _ | exact nc_length _ | exact rc_length _ _ _ | exact ec_length _ | exact dl_length _ _ _ _ | rfl) | exact ResV.cell rfl rfl (by assumption)) ?_
  exact ⟨b, rfl, hk1, hb, hB⟩
set_option maxHeartbeats 8000000 in
theorem new_bad (z : Int) (h : z < 1 ∨ 256 < z) (w : World) : Ret Try.prog 28 #[.int .i64 z] w (.tuple #[np, .int .i64 2]) := by
  refine enter1 Try.func28 rfl Try.ntmps28 rfl ?_
  by_cases g1 : z < 1
  · repeat (first | first|apply CG.seq|apply CG.region|apply SG.nil|apply NG.next|apply CG.skip|apply CG.ret|apply CG.scope|apply NG.ret_then|apply NG.ret_scope|refine SG.val rfl rfl rfl rfl (by first|((first|apply qep|apply qmv|apply qas|apply qla|apply qfa|apply qpk|apply qls|apply qei|apply qln|apply qgt|apply qxt|apply qnt|apply qep)<;>(first|exact rfl|assumption|exact dct (by first|assumption|omega)|exact dcf (by first|assumption|omega)|exact List.not_mem_nil|apply dc_length|apply ec_length|apply dl_length|fail))|fail) ?_ | refine SG.skip rfl rfl ?_)
    refine CG.cond_t rfl (by exact rho_of rfl) rfl ?_
    repeat (first|apply CG.seq|apply CG.region|apply SG.nil|apply NG.next|apply CG.skip|apply CG.ret|apply CG.scope|apply NG.ret_then|apply NG.ret_scope|refine SG.val rfl rfl rfl rfl (by first|((first|apply qep|apply qmv|apply qas|apply qla|apply qfa|apply qpk|apply qls|apply qei|apply qln|apply qgt|apply qxt|apply qnt|apply qep)<;>(first|exact rfl|assumption|exact dct (by first|assumption|omega)|exact dcf (by first|assumption|omega)|exact List.not_mem_nil|apply dc_length|apply ec_length|apply dl_length|fail))|fail) ?_)
    refine ret2 (Or.inl rfl) Try.results28 (by first | exact ResV.tmp rfl | exact ResV.agg rfl rfl (by assumption) (by first | exact dc_length _ | exact nc_length _ | exact rc_length _ _ _ | exact ec_length _ | exact dl_length _ _ _ _ | rfl) | exact ResV.cell rfl rfl (by assumption)) (by first | exact ResV.tmp rfl | exact ResV.agg rfl rfl (by assumption) (by first | exact dc_length _ | exact nc_length _ | exact rc_length _ _ _ | exact ec_length _ | exact dl_length _ _ _ _ | rfl) | exact ResV.cell rfl rfl (by assumption)) ?_
    exact ⟨rfl, Kp.refl _ _⟩
  · have g2 : 256 < z := by omega
    repeat (first | first|apply CG.seq|apply CG.region|apply SG.nil|apply NG.next|apply CG.skip|apply CG.ret|apply CG.scope|apply NG.ret_then|apply NG.ret_scope|refine SG.val rfl rfl rfl rfl (by first|((first|apply qep|apply qmv|apply qas|apply qla|apply qfa|apply qpk|apply qls|apply qei|apply qln|apply qgt|apply qxt|apply qnt|apply qep)<;>(first|exact rfl|assumption|exact dct (by first|assumption|omega)|exact dcf (by first|assumption|omega)|exact List.not_mem_nil|apply dc_length|apply ec_length|apply dl_length|fail))|fail) ?_ | refine SG.skip rfl rfl ?_)
    refine CG.cond_t rfl (by exact rho_of rfl) rfl ?_
    repeat (first|apply CG.seq|apply CG.region|apply SG.nil|apply NG.next|apply CG.skip|apply CG.ret|apply CG.scope|apply NG.ret_then|apply NG.ret_scope|refine SG.val rfl rfl rfl rfl (by first|((first|apply qep|apply qmv|apply qas|apply qla|apply qfa|apply qpk|apply qls|apply qei|apply qln|apply qgt|apply qxt|apply qnt|apply qep)<;>(first|exact rfl|assumption|exact dct (by first|assumption|omega)|exact dcf (by first|assumption|omega)|exact List.not_mem_nil|apply dc_length|apply ec_length|apply dl_length|fail))|fail) ?_)
    refine ret2 (Or.inl rfl) Try.results28 (by first | exact ResV.tmp rfl | exact ResV.agg rfl rfl (by assumption) (by first | exact dc_length _ | exact nc_length _ | exact rc_length _ _ _ | exact ec_length _ | exact dl_length _ _ _ _ | rfl) | exact ResV.cell rfl rfl (by assumption)) (by first | exact ResV.tmp rfl | exact ResV.agg rfl rfl (by assumption) (by first | exact dc_length _ | exact nc_length _ | exact rc_length _ _ _ | exact ec_length _ | exact dl_length _ _ _ _ | rfl) | exact ResV.cell rfl rfl (by assumption)) ?_
    exact ⟨rfl, Kp.refl _ _⟩
set_option maxHeartbeats 8000000 in
theorem nil_walk (w : World) (o : Ofr) (now : Int) : Ret Try.prog 10 #[ov o, .int .i64 now] w (.bool true) := by
  refine enter2 Try.func10 rfl Try.ntmps10 rfl ?_
  repeat (first|apply CG.seq|apply CG.region|apply SG.nil|apply NG.next|apply CG.skip|apply CG.ret|apply CG.scope|apply NG.ret_then|apply NG.ret_scope|refine SG.val rfl rfl rfl rfl (by first|((first|apply qep|apply qmv|apply qas|apply qla|apply qfa|apply qpk|apply qls|apply qei|apply qln|apply qgt|apply qxt|apply qnt|apply qep)<;>(first|exact rfl|assumption|exact dct (by first|assumption|omega)|exact dcf (by first|assumption|omega)|exact List.not_mem_nil|apply dc_length|apply ec_length|apply dl_length|fail))|fail) ?_)
  refine SG.box rfl rfl rfl (by exact rho_of rfl) (fun b1 w1 hk1 hb1 hB1 => ?_)
  have hB1 : Blk w1 b1 (.cells (ec o).toArray 35) := hB1
  repeat (first|apply CG.seq|apply CG.region|apply SG.nil|apply NG.next|apply CG.skip|apply CG.ret|apply CG.scope|apply NG.ret_then|apply NG.ret_scope|refine SG.val rfl rfl rfl rfl (by first|((first|apply qep|apply qmv|apply qas|apply qla|apply qfa|apply qpk|apply qls|apply qei|apply qln|apply qgt|apply qxt|apply qnt|apply qep)<;>(first|exact rfl|assumption|exact dct (by first|assumption|omega)|exact dcf (by first|assumption|omega)|exact List.not_mem_nil|apply dc_length|apply ec_length|apply dl_length|fail))|fail) ?_)
  refine SG.ret rfl rfl rfl (vs := [np, .int .i64 now]) (by repeat' (first | exact True.intro | exact rho_of rfl | refine And.intro ?_ ?_)) (match_nil now w1) (fun w2 hk2 => ?_)
  repeat (first|apply CG.seq|apply CG.region|apply SG.nil|apply NG.next|apply CG.skip|apply CG.ret|apply CG.scope|apply NG.ret_then|apply NG.ret_scope|refine SG.val rfl rfl rfl rfl (by first|((first|apply qep|apply qmv|apply qas|apply qla|apply qfa|apply qpk|apply qls|apply qei|apply qln|apply qgt|apply qxt|apply qnt|apply qep)<;>(first|exact rfl|assumption|exact dct (by first|assumption|omega)|exact dcf (by first|assumption|omega)|exact List.not_mem_nil|apply dc_length|apply ec_length|apply dl_length|fail))|fail) ?_)
  refine SG.alloc rfl rfl rfl (fun b6 w3 hk3 hb6 hB6 => ?_)
  refine SG.setAll (l := dl zd (.slice none 0 0) 0 0) rfl rfl (by exact rho_of rfl) (by exact rho_of rfl) hB6 (dl_length _ _ _ _) rfl (dl_one _ _ _ _ _ _) (fun w4 hk4 hB7 => ?_)
  have hB7 : Blk w4 b6 (.cells (dl zd (.slice none 0 0) 0 0).toArray 27) := hB7
  have k34 : Kp [] w2 w4 := hk3.trans_new hk4 (new1 (by omega))
  repeat (first|apply CG.seq|apply CG.region|apply SG.nil|apply NG.next|apply CG.skip|apply CG.ret|apply CG.scope|apply NG.ret_then|apply NG.ret_scope|refine SG.val rfl rfl rfl rfl (by first|((first|apply qep|apply qmv|apply qas|apply qla|apply qfa|apply qpk|apply qls|apply qei|apply qln|apply qgt|apply qxt|apply qnt|apply qep)<;>(first|exact rfl|assumption|exact dct (by first|assumption|omega)|exact dcf (by first|assumption|omega)|exact List.not_mem_nil|apply dc_length|apply ec_length|apply dl_length|fail))|fail) ?_)
  refine SG.call rfl rfl rfl (vs := [.int .i64 1]) (by repeat' (first | exact True.intro | exact rho_of rfl | refine And.intro ?_ ?_)) ((new_spec 1 (by omega) (by omega) w4).mono (fun e w5 hh => ?_))
  obtain ⟨b9, he, hk5, hb9, hB9⟩ := hh
  refine ⟨_, he, ?_⟩
  have h00 : (0 : Int) = 0 := rfl
  have h11 : (1 : Int) = 1 := rfl
  have hn0 : ((0 : Nat) : Int) = 0 := rfl
  repeat (first|apply CG.seq|apply CG.region|apply SG.nil|apply NG.next|apply CG.skip|apply CG.ret|apply CG.scope|apply NG.ret_then|apply NG.ret_scope|refine SG.val rfl rfl rfl rfl (by first|((first|apply qep|apply qmv|apply qas|apply qla|apply qfa|apply qpk|apply qls|apply qei|apply qln|apply qgt|apply qxt|apply qnt|apply qep)<;>(first|exact rfl|assumption|exact dct (by first|assumption|omega)|exact dcf (by first|assumption|omega)|exact List.not_mem_nil|apply dc_length|apply ec_length|apply dl_length|fail))|fail) ?_)
  refine SG.ret rfl rfl rfl (vs := []) (by repeat' (first | exact True.intro | exact rho_of rfl | refine And.intro ?_ ?_)) (known_spec w5) (fun w6 hk6 => ?_)
  have k16 := (((hk2.trans k34).trans hk5).trans hk6)
  obtain ⟨q0, -, -, -, -, -, -, qa⟩ := ec_rows (hB1.kp0 k16)
  repeat (first | first|apply CG.seq|apply CG.region|apply SG.nil|apply NG.next|apply CG.skip|apply CG.ret|apply CG.scope|apply NG.ret_then|apply NG.ret_scope|refine SG.val rfl rfl rfl rfl (by first|((first|apply qep|apply qmv|apply qas|apply qla|apply qfa|apply qpk|apply qls|apply qei|apply qln|apply qgt|apply qxt|apply qnt|apply qep)<;>(first|exact rfl|assumption|exact dct (by first|assumption|omega)|exact dcf (by first|assumption|omega)|exact List.not_mem_nil|apply dc_length|apply ec_length|apply dl_length|fail))|fail) ?_ | refine SG.skip rfl rfl ?_)
  refine SG.ret rfl rfl rfl (vs := [ov o]) (by repeat' (first | exact True.intro | exact rho_of rfl | refine And.intro ?_ ?_)) (to_spec o w6) (fun w7 hk7 => ?_)
  refine SG.ret rfl rfl rfl (vs := [np, .int .i64 now, ov o]) (by repeat' (first | exact True.intro | exact rho_of rfl | refine And.intro ?_ ?_)) (post_nil now o w7) (fun w8 hk8 => ?_)
  have q0 := (q0.kp0 hk7).kp0 hk8
  repeat (first | first|apply CG.seq|apply CG.region|apply SG.nil|apply NG.next|apply CG.skip|apply CG.ret|apply CG.scope|apply NG.ret_then|apply NG.ret_scope|refine SG.val rfl rfl rfl rfl (by first|((first|apply qep|apply qmv|apply qas|apply qla|apply qfa|apply qpk|apply qls|apply qei|apply qln|apply qgt|apply qxt|apply qnt|apply qep)<;>(first|exact rfl|assumption|exact dct (by first|assumption|omega)|exact dcf (by first|assumption|omega)|exact List.not_mem_nil|apply dc_length|apply ec_length|apply dl_length|fail))|fail) ?_ | refine SG.skip rfl rfl ?_)
  refine SG.ret rfl rfl rfl (vs := [np, dv o.who]) (by repeat' (first | exact True.intro | exact rho_of rfl | refine And.intro ?_ ?_)) (drop_nil o.who w8) (fun w9 hk9 => ?_)
  repeat (first | first|apply CG.seq|apply CG.region|apply SG.nil|apply NG.next|apply CG.skip|apply CG.ret|apply CG.scope|apply NG.ret_then|apply NG.ret_scope|refine SG.val rfl rfl rfl rfl (by first|((first|apply qep|apply qmv|apply qas|apply qla|apply qfa|apply qpk|apply qls|apply qei|apply qln|apply qgt|apply qxt|apply qnt|apply qep)<;>(first|exact rfl|assumption|exact dct (by first|assumption|omega)|exact dcf (by first|assumption|omega)|exact List.not_mem_nil|apply dc_length|apply ec_length|apply dl_length|fail))|fail) ?_ | refine SG.skip rfl rfl ?_)
  refine SG.ret rfl rfl rfl (vs := [np, .int .i64 now]) (by repeat' (first | exact True.intro | exact rho_of rfl | refine And.intro ?_ ?_)) (all_nil now w9) (fun w10 hk10 => ?_)
  have k410 := (((((hk5.trans hk6).trans hk7).trans hk8).trans hk9).trans hk10)
  have qd := Row.all (l := dl zd (.slice none 0 0) 0 0) (hB7.kp0 k410) rfl
  repeat (first | first|apply CG.seq|apply CG.region|apply SG.nil|apply NG.next|apply CG.skip|apply CG.ret|apply CG.scope|apply NG.ret_then|apply NG.ret_scope|refine SG.val rfl rfl rfl rfl (by first|((first|apply qep|apply qmv|apply qas|apply qla|apply qfa|apply qpk|apply qls|apply qei|apply qln|apply qgt|apply qxt|apply qnt|apply qep)<;>(first|exact rfl|assumption|exact dct (by first|assumption|omega)|exact dcf (by first|assumption|omega)|exact List.not_mem_nil|apply dc_length|apply ec_length|apply dl_length|fail))|fail) ?_ | refine SG.skip rfl rfl ?_)
  refine SG.val rfl rfl rfl rfl (vals_build rfl bdz) ?_
  refine SG.ret rfl rfl rfl (vs := [dealV zd (.slice none 0 0) 0 0, dealV zd (.slice none 0 0) 0 0]) (by repeat' (first | exact True.intro | exact rho_of rfl | refine And.intro ?_ ?_)) (by have := same_spec (w := w10) zDel zDel (a := none) (a' := none) (c := 0) (c' := 0) Sl.nil Sl.nil (by simp [zDel]); rwa [decide_eq_true rfl] at this) (fun w11 hk11 => ?_)
  repeat (first | first|apply CG.seq|apply CG.region|apply SG.nil|apply NG.next|apply CG.skip|apply CG.ret|apply CG.scope|apply NG.ret_then|apply NG.ret_scope|refine SG.val rfl rfl rfl rfl (by first|((first|apply qep|apply qmv|apply qas|apply qla|apply qfa|apply qpk|apply qls|apply qei|apply qln|apply qgt|apply qxt|apply qnt|apply qep)<;>(first|exact rfl|assumption|exact dct (by first|assumption|omega)|exact dcf (by first|assumption|omega)|exact List.not_mem_nil|apply dc_length|apply ec_length|apply dl_length|fail))|fail) ?_ | refine SG.skip rfl rfl ?_)
  refine SG.ret rfl rfl rfl (vs := [np]) (by repeat' (first | exact True.intro | exact rho_of rfl | refine And.intro ?_ ?_)) (clone_nil w11) (fun w12 hk12 => ?_)
  repeat (first | first|apply CG.seq|apply CG.region|apply SG.nil|apply NG.next|apply CG.skip|apply CG.ret|apply CG.scope|apply NG.ret_then|apply NG.ret_scope|refine SG.val rfl rfl rfl rfl (by first|((first|apply qep|apply qmv|apply qas|apply qla|apply qfa|apply qpk|apply qls|apply qei|apply qln|apply qgt|apply qxt|apply qnt|apply qep)<;>(first|exact rfl|assumption|exact dct (by first|assumption|omega)|exact dcf (by first|assumption|omega)|exact List.not_mem_nil|apply dc_length|apply ec_length|apply dl_length|fail))|fail) ?_ | refine SG.skip rfl rfl ?_)
  refine SG.ret rfl rfl rfl (vs := [np, np]) (by repeat' (first | exact True.intro | exact rho_of rfl | refine And.intro ?_ ?_)) (same_nn w12) (fun w13 hk13 => ?_)
  repeat (first | first|apply CG.seq|apply CG.region|apply SG.nil|apply NG.next|apply CG.skip|apply CG.ret|apply CG.scope|apply NG.ret_then|apply NG.ret_scope|refine SG.val rfl rfl rfl rfl (by first|((first|apply qep|apply qmv|apply qas|apply qla|apply qfa|apply qpk|apply qls|apply qei|apply qln|apply qgt|apply qxt|apply qnt|apply qep)<;>(first|exact rfl|assumption|exact dct (by first|assumption|omega)|exact dcf (by first|assumption|omega)|exact List.not_mem_nil|apply dc_length|apply ec_length|apply dl_length|fail))|fail) ?_ | refine SG.skip rfl rfl ?_)
  refine SG.ret rfl rfl rfl (vs := [np, .pointer (some ⟨b9, 0, none⟩)]) (by repeat' (first | exact True.intro | exact rho_of rfl | refine And.intro ?_ ?_)) (same_np b9 w13) (fun w14 hk14 => ?_)
  repeat (first | first|apply CG.seq|apply CG.region|apply SG.nil|apply NG.next|apply CG.skip|apply CG.ret|apply CG.scope|apply NG.ret_then|apply NG.ret_scope|refine SG.val rfl rfl rfl rfl (by first|((first|apply qep|apply qmv|apply qas|apply qla|apply qfa|apply qpk|apply qls|apply qei|apply qln|apply qgt|apply qxt|apply qnt|apply qep)<;>(first|exact rfl|assumption|exact dct (by first|assumption|omega)|exact dcf (by first|assumption|omega)|exact List.not_mem_nil|apply dc_length|apply ec_length|apply dl_length|fail))|fail) ?_ | refine SG.skip rfl rfl ?_)
  refine SG.ret rfl rfl rfl (vs := [.pointer (some ⟨b9, 0, none⟩), np]) (by repeat' (first | exact True.intro | exact rho_of rfl | refine And.intro ?_ ?_)) (same_pn b9 w14) (fun w15 hk15 => ?_)
  repeat (first | first|apply CG.seq|apply CG.region|apply SG.nil|apply NG.next|apply CG.skip|apply CG.ret|apply CG.scope|apply NG.ret_then|apply NG.ret_scope|refine SG.val rfl rfl rfl rfl (by first|((first|apply qep|apply qmv|apply qas|apply qla|apply qfa|apply qpk|apply qls|apply qei|apply qln|apply qgt|apply qxt|apply qnt|apply qep)<;>(first|exact rfl|assumption|exact dct (by first|assumption|omega)|exact dcf (by first|assumption|omega)|exact List.not_mem_nil|apply dc_length|apply ec_length|apply dl_length|fail))|fail) ?_ | refine SG.skip rfl rfl ?_)
  refine ret1 (Or.inl rfl) Try.results10 (by first | exact ResV.tmp rfl | exact ResV.agg rfl rfl (by assumption) (by first | exact dc_length _ | exact nc_length _ | exact rc_length _ _ _ | exact ec_length _ | exact dl_length _ _ _ _ | rfl) | exact ResV.cell rfl rfl (by assumption)) ?_
  exact ⟨rfl, (((((((hk1.trans hk2).trans k34).trans k410).trans hk11).trans hk12).trans hk13).trans hk14).trans hk15⟩
end Go.Proofs.Ytnoipmimddoioaa
/-
  LobbyNil answers true for every input, and leaves its arguments as they were. No conditions.
-/
namespace Go.Proofs.Ytnoipmimddoioaa
open Go.ChangeShapes Go.WideShapes Go.ChangeAt Go.RowKit
set_option linter.unusedVariables false

set_option maxRecDepth 100000 in
theorem lobbyNil_lifted (os : Os) (started : os.Started) (H : Type) (enc : TypeId × Value → H) :
    ReturnsInHanded {} Try.checked os 10 .any (Rows.lobbyNilSpec.pre6 enc Try.prog Try.f10 Rows.lobbyNilRow.domain false) (Rows.lobbyNilSpec.post enc Try.prog Try.f10 false true false false) := by
  refine returnsInHanded_of_change (C := Try.checked) own started (by kernel_rfl) Try.func10
    (ChangeSpec.witness6 (enc := enc) (C := Try.checked) false ⟨#[], #[.agg #[.int .u8 0, .int .u8 0, .int .u8 0, .int .u8 0, .int .u8 0, .int .u8 0, .int .u8 0, .int .u8 0, .int .u8 0, .int .u8 0, .int .u8 0, .int .u8 0, .int .u8 0, .int .u8 0, .int .u8 0, .int .u8 0, .int .i64 0, .int .i64 0, .int .i64 0, .int .i64 0, .int .i64 0], .int .i64 0], []⟩ 8 (by kernel_rfl) (by kernel_rfl) (by kernel_rfl) (by kernel_rfl)) ?_
  intro W base args ds gs before hval0 hW hcnd _
  have hval : ∀ (j : Nat) t v, Try.f10.params[j]? = some t → args[j]? = some v → Value.okWide Try.prog W .any base t v := hval0
  have hW' : DataW.Whole enc Try.prog Try.f10.params.toList Rows.lobbyNilSpec.vars false W args.toList ds gs before := hW
  obtain ⟨p, q, hA0, hV, rfl, hfz, hnd⟩ := hW
  have hA : DataW.TrodAll enc Try.prog W 0 (fun _ => true) true Try.f10.params.toList args.toList ds p := hA0
  rw [Try.params10] at hA hval
  obtain ⟨v0, v1, d0, d1, p0, p1, rfl, rfl, rfl, h0, h1⟩ := trodAll_two hA
  obtain ⟨cs0, rfl, _⟩ := okWide_struct Try.underlying35 (hval 0 35 v0 rfl rfl)
  obtain ⟨x0, rfl⟩ := ofr_of h0
  obtain ⟨x1, rfl, hd1, _, wf1⟩ := open_int Try.underlying3 (hval 1 3 v1 rfl rfl) h1
  refine (nil_walk W x0 x1).mono fun e W' ⟨he, hk⟩ => ⟨_, he, ?_⟩
  exact law_post laidOut (by rw [Try.params10]; exact of_decide_eq_true (by kernel_rfl)) rfl hW' rfl (by kernel_rfl) Try.underlying4 hk

theorem lobbyNil_holds : Rows.LobbyNilSaid :=
  OpenClaim.holds_of_wide 10 Try.f10 rfl rfl rfl rfl rfl rfl rfl ⟨rfl, rfl, rfl, rfl, rfl⟩ rfl rfl rfl rfl rfl (by kernel_rfl) Try.func10 (by kernel_rfl)
    (of_decide_eq_true (by kernel_rfl)) (by unfold Func.isWrapper; first | (rw [if_pos (by decide +kernel)]; kernel_rfl) | (rw [if_neg (by decide +kernel)]; exact ⟨rfl, rfl⟩))
    (fun os started H enc _ => lobbyNil_lifted os started H enc)
end Go.Proofs.Ytnoipmimddoioaa
