/-
  LobbyFollows answers true for every input, and leaves its arguments as they were. No conditions.
-/
import Derived.Test.YtnoipmimddoioaaQp5
/-
  The deal of offers, by the document.
-/
namespace Go.Proofs.Ytnoipmimddoioaa
open Go.Proofs Go.Shelf Go.Sort
set_option linter.unusedVariables false

theorem bez (w : World) : (Instr.build 39 #[]).run Try.prog w = .ok (dealV zd (.slice none 0 0) 0 0) w := by kernel_rfl
theorem ber' (w : World) (a0 a1 a2 a3 a4 a5 a6 a7 : UInt8) : (Instr.build 39 #[(0, .agg #[bv a0, bv a1, bv a2, bv a3, bv a4, bv a5, bv a6, bv a7])]).run Try.prog w = .ok (.agg #[bv a0, bv a1, bv a2, bv a3, bv a4, bv a5, bv a6, bv a7, .slice none 0 0, .int .i64 0, .int .i64 0]) w := by kernel_rfl
theorem ber (r : Dg) (w : World) : (Instr.build 39 #[(0, dv r)]).run Try.prog w = .ok (dealV r (.slice none 0 0) 0 0) w := by
  obtain ⟨l, hl⟩ := r
  match l, hl with
  | [a0, a1, a2, a3, a4, a5, a6, a7], _ => exact ber' w a0 a1 a2 a3 a4 a5 a6 a7
theorem CG.cut_then {P : Program} {n : Nat} {Q Q' : Exit → Act → World → Prop} {L : Env} {w : World} {c B : Code} (M : Env → World → Prop) (h : CG P n c (Exit.then (fun a w => ∃ L, Fits n a L ∧ M L w) Q') L w) (h2 : ∀ L w, M L w → CG P n B Q L w) : CG P n c (Exit.then (B.wp P Q) Q') L w := by
  intro a ha
  refine wp_mono (h a ha) (fun e a w hq => ?_)
  cases e <;> first | exact hq | (obtain ⟨L, h1, h2'⟩ := hq; exact h2 L w h2' a h1)

theorem mixD_eq (l : List Ofr) : manyI (sortK num (l.map digO)) = mixD l := rfl
attribute [local irreducible] CG NG SG Vals Der Row Blk MapIs IterAt addI xorI orI andI shlI shrI mulI twoI cmpD cmpW kW digO manyI mixD sortK maxs nameD DerX DerR insK
set_option maxHeartbeats 32000000 in
theorem rof53_spec {w : World} {l : List Ofr} {a : Option Addr} {c : Nat} (hS : Sl ec 21 w a l) (hl : l.length ≤ 10000) : Calls Try.prog 14 #[.slice a l.length c] w (fun e w' => ∃ v, e = .returned (.tuple #[v, .int .i64 (dealOf l).2]) ∧ DealAt w w' 23 v (dealOf l).1 ∧ Kp [] w w') := by
  refine enter1 Try.func14 rfl Try.ntmps14 rfl ?_
  have hz0 : ∀ W, DealAt w W 23 (dealV zd (.slice none 0 0) 0 0) zDel := fun W => ⟨_, rfl, own_nil⟩
  repeat (first|apply CG.seq|apply CG.region|apply SG.nil|apply NG.next|apply CG.skip|apply CG.block|apply CG.ret|apply CG.exit|apply NG.ret_then|apply NG.ret_block|apply NG.exit_then|refine NG.exit_block rfl ?_|apply NG.normal_block|refine SG.val rfl rfl rfl rfl (by first|((first|apply qmv|apply qas|apply qlc|apply qla|apply qfa|apply qic|apply qix|apply qpk|apply qls|apply qei|apply qni|apply qad|apply qln|apply qgt|apply qnt|apply qfr|apply qto)<;>(first|exact rfl|assumption|exact Ar.mk (by omega)|exact dct (by first|assumption|omega)|exact dcf (by first|assumption|omega)|exact List.not_mem_nil|apply dc_length|apply ec_length|apply dl_length|exact nm1 (by omega)|fail))|fail) ?_)
  refine SG.alloc rfl rfl rfl (fun b2 w1 hk1 hb2 hB2 => ?_)
  have hB2 : Blk w1 b2 (.cells (dl zd (.slice none 0 0) 0 0).toArray 39) := hB2
  have l2 := hB2.lt
  have s1 := hk1.size
  cases l with
  | nil =>
    have g0 : (([] : List Ofr).length : Int) = 0 := rfl
    repeat (first | first|apply CG.seq|apply CG.region|apply SG.nil|apply NG.next|apply CG.skip|apply CG.block|apply CG.ret|apply CG.exit|apply NG.ret_then|apply NG.ret_block|apply NG.exit_then|refine NG.exit_block rfl ?_|apply NG.normal_block|refine SG.val rfl rfl rfl rfl (by first|((first|apply qmv|apply qas|apply qlc|apply qla|apply qfa|apply qic|apply qix|apply qpk|apply qls|apply qei|apply qni|apply qad|apply qln|apply qgt|apply qnt|apply qfr|apply qto)<;>(first|exact rfl|assumption|exact Ar.mk (by omega)|exact dct (by first|assumption|omega)|exact dcf (by first|assumption|omega)|exact List.not_mem_nil|apply dc_length|apply ec_length|apply dl_length|exact nm1 (by omega)|fail))|fail) ?_ | refine SG.skip rfl rfl ?_)
    refine CG.cond_t rfl (by exact rho_of rfl) rfl ?_
    repeat (first|apply CG.seq|apply CG.region|apply SG.nil|apply NG.next|apply CG.skip|apply CG.block|apply CG.ret|apply CG.exit|apply NG.ret_then|apply NG.ret_block|apply NG.exit_then|refine NG.exit_block rfl ?_|apply NG.normal_block|refine SG.val rfl rfl rfl rfl (by first|((first|apply qmv|apply qas|apply qlc|apply qla|apply qfa|apply qic|apply qix|apply qpk|apply qls|apply qei|apply qni|apply qad|apply qln|apply qgt|apply qnt|apply qfr|apply qto)<;>(first|exact rfl|assumption|exact Ar.mk (by omega)|exact dct (by first|assumption|omega)|exact dcf (by first|assumption|omega)|exact List.not_mem_nil|apply dc_length|apply ec_length|apply dl_length|exact nm1 (by omega)|fail))|fail) ?_)
    refine SG.val rfl rfl rfl rfl (vals_build rfl bez) ?_
    refine SG.setAll (old := dl zd (.slice none 0 0) 0 0) (l := dl zd (.slice none 0 0) 0 0) rfl rfl (by exact rho_of rfl) (by exact rho_of rfl) hB2 (dl_length _ _ _ _) (dl_length _ _ _ _) (dl_one _ _ _ _ _ _) (fun w2 hk2 hB3 => ?_)
    have hr : Row w2 b2 0 (dl zd (.slice none 0 0) 0 0) := Row.all hB3 rfl
    repeat (first|apply CG.seq|apply CG.region|apply SG.nil|apply NG.next|apply CG.skip|apply CG.block|apply CG.ret|apply CG.exit|apply NG.ret_then|apply NG.ret_block|apply NG.exit_then|refine NG.exit_block rfl ?_|apply NG.normal_block|refine SG.val rfl rfl rfl rfl (by first|((first|apply qmv|apply qas|apply qlc|apply qla|apply qfa|apply qic|apply qix|apply qpk|apply qls|apply qei|apply qni|apply qad|apply qln|apply qgt|apply qnt|apply qfr|apply qto)<;>(first|exact rfl|assumption|exact Ar.mk (by omega)|exact dct (by first|assumption|omega)|exact dcf (by first|assumption|omega)|exact List.not_mem_nil|apply dc_length|apply ec_length|apply dl_length|exact nm1 (by omega)|fail))|fail) ?_)
    refine ret2 (Or.inl rfl) Try.results14 (ResV.agg rfl rfl hr (dl_length _ _ _ _)) (by first | exact ResV.tmp rfl | exact ResV.agg rfl rfl (by assumption) (by first | exact dc_length _ | exact nc_length _ | exact rc_length _ _ _ | exact ec_length _ | exact dl_length _ _ _ _ | rfl) | exact ResV.cell rfl rfl (by assumption)) ?_
    exact ⟨_, rfl, hz0 w2, hk1.trans_new hk2 (new1 (by omega))⟩
  | cons o r =>
    generalize hL : o :: r = l at hS hl ⊢
    have hpos : 0 < l.length := by rw [← hL]; simp
    have ho : l[0] = o := by subst hL; rfl
    obtain ⟨ba, oa, rfl, hr0⟩ := (hS.kp0 hk1).at hpos
    rw [ho] at hr0
    obtain ⟨-, rru, rs, -⟩ := ec_rowsO hr0
    have e0 : dealOf l = if (l.length : Int) = o.seats then (if l.all (fun x => decide x.Ok) then (if decide (l.Pairwise fitP) then (goodDel o.rules l, 0) else (zDel, 11)) else (zDel, 2)) else (zDel, 3) := by
      rw [← hL]
      rfl
    have g0 : ¬ (l.length : Int) = 0 := by omega
    by_cases hse : (l.length : Int) = o.seats
    rotate_left
    · rw [if_neg hse] at e0
      repeat (first | first|apply CG.seq|apply CG.region|apply SG.nil|apply NG.next|apply CG.skip|apply CG.block|apply CG.ret|apply CG.exit|apply NG.ret_then|apply NG.ret_block|apply NG.exit_then|refine NG.exit_block rfl ?_|apply NG.normal_block|refine SG.val rfl rfl rfl rfl (by first|((first|apply qmv|apply qas|apply qlc|apply qla|apply qfa|apply qic|apply qix|apply qpk|apply qls|apply qei|apply qni|apply qad|apply qln|apply qgt|apply qnt|apply qfr|apply qto)<;>(first|exact rfl|assumption|exact Ar.mk (by omega)|exact dct (by first|assumption|omega)|exact dcf (by first|assumption|omega)|exact List.not_mem_nil|apply dc_length|apply ec_length|apply dl_length|exact nm1 (by omega)|fail))|fail) ?_ | refine SG.skip rfl rfl ?_)
      refine CG.cond_t rfl (by exact rho_of rfl) rfl ?_
      repeat (first|apply CG.seq|apply CG.region|apply SG.nil|apply NG.next|apply CG.skip|apply CG.block|apply CG.ret|apply CG.exit|apply NG.ret_then|apply NG.ret_block|apply NG.exit_then|refine NG.exit_block rfl ?_|apply NG.normal_block|refine SG.val rfl rfl rfl rfl (by first|((first|apply qmv|apply qas|apply qlc|apply qla|apply qfa|apply qic|apply qix|apply qpk|apply qls|apply qei|apply qni|apply qad|apply qln|apply qgt|apply qnt|apply qfr|apply qto)<;>(first|exact rfl|assumption|exact Ar.mk (by omega)|exact dct (by first|assumption|omega)|exact dcf (by first|assumption|omega)|exact List.not_mem_nil|apply dc_length|apply ec_length|apply dl_length|exact nm1 (by omega)|fail))|fail) ?_)
      refine SG.val rfl rfl rfl rfl (vals_build rfl bez) ?_
      refine SG.setAll (old := dl zd (.slice none 0 0) 0 0) (l := dl zd (.slice none 0 0) 0 0) rfl rfl (by exact rho_of rfl) (by exact rho_of rfl) hB2 (dl_length _ _ _ _) (dl_length _ _ _ _) (dl_one _ _ _ _ _ _) (fun wz hkz hBz => ?_)
      have hrz : Row wz b2 0 (dl zd (.slice none 0 0) 0 0) := Row.all hBz rfl
      repeat (first|apply CG.seq|apply CG.region|apply SG.nil|apply NG.next|apply CG.skip|apply CG.block|apply CG.ret|apply CG.exit|apply NG.ret_then|apply NG.ret_block|apply NG.exit_then|refine NG.exit_block rfl ?_|apply NG.normal_block|refine SG.val rfl rfl rfl rfl (by first|((first|apply qmv|apply qas|apply qlc|apply qla|apply qfa|apply qic|apply qix|apply qpk|apply qls|apply qei|apply qni|apply qad|apply qln|apply qgt|apply qnt|apply qfr|apply qto)<;>(first|exact rfl|assumption|exact Ar.mk (by omega)|exact dct (by first|assumption|omega)|exact dcf (by first|assumption|omega)|exact List.not_mem_nil|apply dc_length|apply ec_length|apply dl_length|exact nm1 (by omega)|fail))|fail) ?_)
      refine ret2 (Or.inl rfl) Try.results14 (ResV.agg rfl rfl hrz (dl_length _ _ _ _)) (by first | exact ResV.tmp rfl | exact ResV.agg rfl rfl (by assumption) (by first | exact dc_length _ | exact nc_length _ | exact rc_length _ _ _ | exact ec_length _ | exact dl_length _ _ _ _ | rfl) | exact ResV.cell rfl rfl (by assumption)) ?_
      rw [e0]
      exact ⟨_, rfl, hz0 wz, hk1.trans_new hkz (new1 (by omega))⟩
    rw [if_pos hse] at e0
    repeat (first | first|apply CG.seq|apply CG.region|apply SG.nil|apply NG.next|apply CG.skip|apply CG.block|apply CG.ret|apply CG.exit|apply NG.ret_then|apply NG.ret_block|apply NG.exit_then|refine NG.exit_block rfl ?_|apply NG.normal_block|refine SG.val rfl rfl rfl rfl (by first|((first|apply qmv|apply qas|apply qlc|apply qla|apply qfa|apply qic|apply qix|apply qpk|apply qls|apply qei|apply qni|apply qad|apply qln|apply qgt|apply qnt|apply qfr|apply qto)<;>(first|exact rfl|assumption|exact Ar.mk (by omega)|exact dct (by first|assumption|omega)|exact dcf (by first|assumption|omega)|exact List.not_mem_nil|apply dc_length|apply ec_length|apply dl_length|exact nm1 (by omega)|fail))|fail) ?_ | refine SG.skip rfl rfl ?_)
    refine CG.cond_f rfl (by exact rho_of rfl) rfl ?_
    repeat (first|apply CG.seq|apply CG.region|apply SG.nil|apply NG.next|apply CG.skip|apply CG.block|apply CG.ret|apply CG.exit|apply NG.ret_then|apply NG.ret_block|apply NG.exit_then|refine NG.exit_block rfl ?_|apply NG.normal_block|refine SG.val rfl rfl rfl rfl (by first|((first|apply qmv|apply qas|apply qlc|apply qla|apply qfa|apply qic|apply qix|apply qpk|apply qls|apply qei|apply qni|apply qad|apply qln|apply qgt|apply qnt|apply qfr|apply qto)<;>(first|exact rfl|assumption|exact Ar.mk (by omega)|exact dct (by first|assumption|omega)|exact dcf (by first|assumption|omega)|exact List.not_mem_nil|apply dc_length|apply ec_length|apply dl_length|exact nm1 (by omega)|fail))|fail) ?_)
    refine CG.loop (X := Nat) (fun i => [(0, .slice (some ⟨ba, oa, none⟩) l.length c), (2, .pointer (some ⟨b2, 0, none⟩)), (4, .int .i64 (i : Int))]) (fun i w' => i ≤ l.length ∧ Kp [] w1 w' ∧ ∀ j (h : j < l.length), j < i → l[j].Ok) (fun i => l.length - i) 0 ⟨by omega, Kp.refl _ _, fun j _ h => absurd h (Nat.not_lt_zero j)⟩ (by (repeat' (first | exact True.intro | exact rfl | refine And.intro ?_ ?_))) ?_
    rintro i w2 ⟨hi, hk2, hall⟩
    have hB2 := hB2.kp0 hk2
    by_cases hlt : i < l.length
    · have g1 : (i : Int) < (l.length : Int) := by omega
      have hri := (hS.kp0 (hk1.trans hk2)).row (List.getElem?_eq_getElem hlt)
      repeat (first|apply CG.seq|apply CG.region|apply SG.nil|apply NG.next|apply CG.skip|apply CG.block|apply CG.ret|apply CG.exit|apply NG.ret_then|apply NG.ret_block|apply NG.exit_then|refine NG.exit_block rfl ?_|apply NG.normal_block|refine SG.val rfl rfl rfl rfl (by first|((first|apply qmv|apply qas|apply qlc|apply qla|apply qfa|apply qic|apply qix|apply qpk|apply qls|apply qei|apply qni|apply qad|apply qln|apply qgt|apply qnt|apply qfr|apply qto)<;>(first|exact rfl|assumption|exact Ar.mk (by omega)|exact dct (by first|assumption|omega)|exact dcf (by first|assumption|omega)|exact List.not_mem_nil|apply dc_length|apply ec_length|apply dl_length|exact nm1 (by omega)|fail))|fail) ?_)
      refine CG.cond_t rfl (by exact rho_of rfl) rfl ?_
      repeat (first|apply CG.seq|apply CG.region|apply SG.nil|apply NG.next|apply CG.skip|apply CG.block|apply CG.ret|apply CG.exit|apply NG.ret_then|apply NG.ret_block|apply NG.exit_then|refine NG.exit_block rfl ?_|apply NG.normal_block|refine SG.val rfl rfl rfl rfl (by first|((first|apply qmv|apply qas|apply qlc|apply qla|apply qfa|apply qic|apply qix|apply qpk|apply qls|apply qei|apply qni|apply qad|apply qln|apply qgt|apply qnt|apply qfr|apply qto)<;>(first|exact rfl|assumption|exact Ar.mk (by omega)|exact dct (by first|assumption|omega)|exact dcf (by first|assumption|omega)|exact List.not_mem_nil|apply dc_length|apply ec_length|apply dl_length|exact nm1 (by omega)|fail))|fail) ?_)
      refine SG.ret rfl rfl rfl (vs := [ov l[i]]) (by repeat' (first | exact True.intro | exact rho_of rfl | refine And.intro ?_ ?_)) (right_spec l[i] w2) (fun w5 hk5 => ?_)
      by_cases hok : l[i].Ok
      · rw [decide_eq_true hok]
        repeat (first|apply CG.seq|apply CG.region|apply SG.nil|apply NG.next|apply CG.skip|apply CG.block|apply CG.ret|apply CG.exit|apply NG.ret_then|apply NG.ret_block|apply NG.exit_then|refine NG.exit_block rfl ?_|apply NG.normal_block|refine SG.val rfl rfl rfl rfl (by first|((first|apply qmv|apply qas|apply qlc|apply qla|apply qfa|apply qic|apply qix|apply qpk|apply qls|apply qei|apply qni|apply qad|apply qln|apply qgt|apply qnt|apply qfr|apply qto)<;>(first|exact rfl|assumption|exact Ar.mk (by omega)|exact dct (by first|assumption|omega)|exact dcf (by first|assumption|omega)|exact List.not_mem_nil|apply dc_length|apply ec_length|apply dl_length|exact nm1 (by omega)|fail))|fail) ?_)
        refine CG.cond_f rfl (by exact rho_of rfl) rfl ?_
        repeat (first|apply CG.seq|apply CG.region|apply SG.nil|apply NG.next|apply CG.skip|apply CG.block|apply CG.ret|apply CG.exit|apply NG.ret_then|apply NG.ret_block|apply NG.exit_then|refine NG.exit_block rfl ?_|apply NG.normal_block|refine SG.val rfl rfl rfl rfl (by first|((first|apply qmv|apply qas|apply qlc|apply qla|apply qfa|apply qic|apply qix|apply qpk|apply qls|apply qei|apply qni|apply qad|apply qln|apply qgt|apply qnt|apply qfr|apply qto)<;>(first|exact rfl|assumption|exact Ar.mk (by omega)|exact dct (by first|assumption|omega)|exact dcf (by first|assumption|omega)|exact List.not_mem_nil|apply dc_length|apply ec_length|apply dl_length|exact nm1 (by omega)|fail))|fail) ?_)
        refine NG.round (i + 1) (by (repeat' (first | exact True.intro | exact rfl | refine And.intro ?_ ?_))) ⟨by omega, hk2.trans hk5, fun j h hj => ?_⟩ (by omega)
        by_cases e : j = i
        · subst e; exact hok
        · exact hall j h (by omega)
      · have hno : ¬ (l.all (fun x => decide x.Ok) = true) := fun h => by
          have := List.all_eq_true.1 h l[i] (List.getElem_mem hlt)
          exact hok (of_decide_eq_true this)
        rw [if_neg hno] at e0
        rw [decide_eq_false hok]
        repeat (first|apply CG.seq|apply CG.region|apply SG.nil|apply NG.next|apply CG.skip|apply CG.block|apply CG.ret|apply CG.exit|apply NG.ret_then|apply NG.ret_block|apply NG.exit_then|refine NG.exit_block rfl ?_|apply NG.normal_block|refine SG.val rfl rfl rfl rfl (by first|((first|apply qmv|apply qas|apply qlc|apply qla|apply qfa|apply qic|apply qix|apply qpk|apply qls|apply qei|apply qni|apply qad|apply qln|apply qgt|apply qnt|apply qfr|apply qto)<;>(first|exact rfl|assumption|exact Ar.mk (by omega)|exact dct (by first|assumption|omega)|exact dcf (by first|assumption|omega)|exact List.not_mem_nil|apply dc_length|apply ec_length|apply dl_length|exact nm1 (by omega)|fail))|fail) ?_)
        refine CG.cond_t rfl (by exact rho_of rfl) rfl ?_
        repeat (first|apply CG.seq|apply CG.region|apply SG.nil|apply NG.next|apply CG.skip|apply CG.block|apply CG.ret|apply CG.exit|apply NG.ret_then|apply NG.ret_block|apply NG.exit_then|refine NG.exit_block rfl ?_|apply NG.normal_block|refine SG.val rfl rfl rfl rfl (by first|((first|apply qmv|apply qas|apply qlc|apply qla|apply qfa|apply qic|apply qix|apply qpk|apply qls|apply qei|apply qni|apply qad|apply qln|apply qgt|apply qnt|apply qfr|apply qto)<;>(first|exact rfl|assumption|exact Ar.mk (by omega)|exact dct (by first|assumption|omega)|exact dcf (by first|assumption|omega)|exact List.not_mem_nil|apply dc_length|apply ec_length|apply dl_length|exact nm1 (by omega)|fail))|fail) ?_)
        refine SG.val rfl rfl rfl rfl (vals_build rfl bez) ?_
        refine SG.setAll (old := dl zd (.slice none 0 0) 0 0) (l := dl zd (.slice none 0 0) 0 0) rfl rfl (by exact rho_of rfl) (by exact rho_of rfl) (hB2.kp0 hk5) (dl_length _ _ _ _) (dl_length _ _ _ _) (dl_one _ _ _ _ _ _) (fun wz hkz hBz => ?_)
        have hrz : Row wz b2 0 (dl zd (.slice none 0 0) 0 0) := Row.all hBz rfl
        repeat (first|apply CG.seq|apply CG.region|apply SG.nil|apply NG.next|apply CG.skip|apply CG.block|apply CG.ret|apply CG.exit|apply NG.ret_then|apply NG.ret_block|apply NG.exit_then|refine NG.exit_block rfl ?_|apply NG.normal_block|refine SG.val rfl rfl rfl rfl (by first|((first|apply qmv|apply qas|apply qlc|apply qla|apply qfa|apply qic|apply qix|apply qpk|apply qls|apply qei|apply qni|apply qad|apply qln|apply qgt|apply qnt|apply qfr|apply qto)<;>(first|exact rfl|assumption|exact Ar.mk (by omega)|exact dct (by first|assumption|omega)|exact dcf (by first|assumption|omega)|exact List.not_mem_nil|apply dc_length|apply ec_length|apply dl_length|exact nm1 (by omega)|fail))|fail) ?_)
        refine ret2 (Or.inl rfl) Try.results14 (ResV.agg rfl rfl hrz (dl_length _ _ _ _)) (by first | exact ResV.tmp rfl | exact ResV.agg rfl rfl (by assumption) (by first | exact dc_length _ | exact nc_length _ | exact rc_length _ _ _ | exact ec_length _ | exact dl_length _ _ _ _ | rfl) | exact ResV.cell rfl rfl (by assumption)) ?_
        rw [e0]
        exact ⟨_, rfl, hz0 wz, (hk1.trans (hk2.trans hk5)).trans_new hkz (new1 (by omega))⟩
    have g1 : ¬ (i : Int) < (l.length : Int) := by omega
    have hok : l.all (fun x => decide x.Ok) = true := List.all_eq_true.2 (fun x hx => by
      obtain ⟨j, hj, rfl⟩ := List.getElem_of_mem hx
      exact decide_eq_true (hall j hj (by omega)))
    rw [if_pos hok] at e0
    clear hall
    have k2 := hk1.trans hk2
    have rru := rru.kp0 hk2
    repeat (first|apply CG.seq|apply CG.region|apply SG.nil|apply NG.next|apply CG.skip|apply CG.block|apply CG.ret|apply CG.exit|apply NG.ret_then|apply NG.ret_block|apply NG.exit_then|refine NG.exit_block rfl ?_|apply NG.normal_block|refine SG.val rfl rfl rfl rfl (by first|((first|apply qmv|apply qas|apply qlc|apply qla|apply qfa|apply qic|apply qix|apply qpk|apply qls|apply qei|apply qni|apply qad|apply qln|apply qgt|apply qnt|apply qfr|apply qto)<;>(first|exact rfl|assumption|exact Ar.mk (by omega)|exact dct (by first|assumption|omega)|exact dcf (by first|assumption|omega)|exact List.not_mem_nil|apply dc_length|apply ec_length|apply dl_length|exact nm1 (by omega)|fail))|fail) ?_)
    refine CG.cond_f rfl (by exact rho_of rfl) rfl ?_
    repeat (first|apply CG.seq|apply CG.region|apply SG.nil|apply NG.next|apply CG.skip|apply CG.block|apply CG.ret|apply CG.exit|apply NG.ret_then|apply NG.ret_block|apply NG.exit_then|refine NG.exit_block rfl ?_|apply NG.normal_block|refine SG.val rfl rfl rfl rfl (by first|((first|apply qmv|apply qas|apply qlc|apply qla|apply qfa|apply qic|apply qix|apply qpk|apply qls|apply qei|apply qni|apply qad|apply qln|apply qgt|apply qnt|apply qfr|apply qto)<;>(first|exact rfl|assumption|exact Ar.mk (by omega)|exact dct (by first|assumption|omega)|exact dcf (by first|assumption|omega)|exact List.not_mem_nil|apply dc_length|apply ec_length|apply dl_length|exact nm1 (by omega)|fail))|fail) ?_)
    refine SG.val rfl rfl rfl rfl (vals_build rfl (ber _)) ?_
    refine SG.alloc rfl rfl rfl (fun b7 w4 hk4 hb7 hB7 => ?_)
    refine SG.setAll (l := dl o.rules (.slice none 0 0) 0 0) rfl rfl (by exact rho_of rfl) (by exact rho_of rfl) hB7 (dl_length _ _ _ _) rfl (dl_one _ _ _ _ _ _) (fun w5 hk5 hB8 => ?_)
    have hB8 : Blk w5 b7 (.cells (dl o.rules (.slice none 0 0) 0 0).toArray 39) := hB8
    have k5 : Kp [] w2 w5 := hk4.trans_new hk5 (new1 (by omega))
    have l7 := hB8.lt
    have s2 := hk2.size
    have s5 := k5.size
    clear hi g1 hlt
    repeat (first|apply CG.seq|apply CG.region|apply SG.nil|apply NG.next|apply CG.skip|apply CG.block|apply CG.ret|apply CG.exit|apply NG.ret_then|apply NG.ret_block|apply NG.exit_then|refine NG.exit_block rfl ?_|apply NG.normal_block|refine SG.val rfl rfl rfl rfl (by first|((first|apply qmv|apply qas|apply qlc|apply qla|apply qfa|apply qic|apply qix|apply qpk|apply qls|apply qei|apply qni|apply qad|apply qln|apply qgt|apply qnt|apply qfr|apply qto)<;>(first|exact rfl|assumption|exact Ar.mk (by omega)|exact dct (by first|assumption|omega)|exact dcf (by first|assumption|omega)|exact List.not_mem_nil|apply dc_length|apply ec_length|apply dl_length|exact nm1 (by omega)|fail))|fail) ?_)
    refine CG.loop (X := (Value × Value) × Nat) (fun x => [(0, .slice (some ⟨ba, oa, none⟩) l.length c), (2, .pointer (some ⟨b2, 0, none⟩)), (5, x.1.1), (6, x.1.2), (7, .pointer (some ⟨b7, 0, none⟩)), (8, .int .i64 (x.2 : Int))])
      (fun x w' => x.2 ≤ l.length ∧ Kp [] w2 w' ∧ w5.heap.size ≤ w'.heap.size ∧ Blk w' b7 (.cells (dl o.rules (.slice none 0 0) (maxs (·.least) (l.take x.2)) (maxs (·.window) (l.take x.2))).toArray 39) ∧ w'.ownsRow w2.heap.size 23 8 x.1.1 ((l.take x.2).map digO).length (flt dc ((l.take x.2).map digO)) ∧ w'.ownsRow w2.heap.size 23 8 x.1.2 ((l.take x.2).map (·.who)).length (flt dc ((l.take x.2).map (·.who))) ∧ Apart x.1.1 x.1.2 ∧ (l.take x.2).Pairwise fitP)
      (fun x => l.length - x.2) ((.slice none 0 0, .slice none 0 0), 0) ⟨by simp only; omega, k5, Nat.le_refl _, by simp only [List.take_zero, maxs_nil]; exact hB8, own_nil, own_nil, fun b h => (by cases h), List.Pairwise.nil⟩ (by (repeat' (first | exact True.intro | exact rfl | refine And.intro ?_ ?_))) ?_
    rintro ⟨⟨v, v'⟩, i⟩ w6 ⟨hi, hk6, s6, hB, hok1, hok2, hap, hpw⟩
    simp only at hi hB hok1 hok2 hap hpw
    refine CG.to [(0, .slice (some ⟨ba, oa, none⟩) l.length c), (2, .pointer (some ⟨b2, 0, none⟩)), (5, v), (6, v'), (7, .pointer (some ⟨b7, 0, none⟩)), (8, .int .i64 (i : Int))] (by (repeat' (first | exact True.intro | exact rfl | refine And.intro ?_ ?_))) ?_
    have hlen : (l.take i).length = i := by rw [List.length_take]; omega
    have hB2 := hB2.kp0 hk6
    have k6 := k2.trans hk6
    by_cases hlt : i < l.length
    · have g1 : (i : Int) < (l.length : Int) := by omega
      have hri := (hS.kp0 k6).row (List.getElem?_eq_getElem hlt)
      repeat (first|apply CG.seq|apply CG.region|apply SG.nil|apply NG.next|apply CG.skip|apply CG.block|apply CG.ret|apply CG.exit|apply NG.ret_then|apply NG.ret_block|apply NG.exit_then|refine NG.exit_block rfl ?_|apply NG.normal_block|refine SG.val rfl rfl rfl rfl (by first|((first|apply qmv|apply qas|apply qlc|apply qla|apply qfa|apply qic|apply qix|apply qpk|apply qls|apply qei|apply qni|apply qad|apply qln|apply qgt|apply qnt|apply qfr|apply qto)<;>(first|exact rfl|assumption|exact Ar.mk (by omega)|exact dct (by first|assumption|omega)|exact dcf (by first|assumption|omega)|exact List.not_mem_nil|apply dc_length|apply ec_length|apply dl_length|exact nm1 (by omega)|fail))|fail) ?_)
      refine CG.cond_t rfl (by exact rho_of rfl) rfl ?_
      repeat (first|apply CG.seq|apply CG.region|apply SG.nil|apply NG.next|apply CG.skip|apply CG.block|apply CG.ret|apply CG.exit|apply NG.ret_then|apply NG.ret_block|apply NG.exit_then|refine NG.exit_block rfl ?_|apply NG.normal_block|refine SG.val rfl rfl rfl rfl (by first|((first|apply qmv|apply qas|apply qlc|apply qla|apply qfa|apply qic|apply qix|apply qpk|apply qls|apply qei|apply qni|apply qad|apply qln|apply qgt|apply qnt|apply qfr|apply qto)<;>(first|exact rfl|assumption|exact Ar.mk (by omega)|exact dct (by first|assumption|omega)|exact dcf (by first|assumption|omega)|exact List.not_mem_nil|apply dc_length|apply ec_length|apply dl_length|exact nm1 (by omega)|fail))|fail) ?_)
      refine CG.loop (X := Nat) (fun j => [(0, .slice (some ⟨ba, oa, none⟩) l.length c), (2, .pointer (some ⟨b2, 0, none⟩)), (5, v), (6, v'), (7, .pointer (some ⟨b7, 0, none⟩)), (8, .int .i64 (i : Int)), (9, .int .i64 (j : Int))]) (fun j w' => j ≤ i ∧ Kp [] w6 w' ∧ ∀ k (h : k < l.length), k < j → fitP l[k] l[i]) (fun j => i - j) 0 ⟨by omega, Kp.refl _ _, fun k _ h => absurd h (Nat.not_lt_zero k)⟩ (by (repeat' (first | exact True.intro | exact rfl | refine And.intro ?_ ?_))) ?_
      rintro j w7 ⟨hj, hk7, hfit⟩
      have k7 := k6.trans hk7
      by_cases hjl : j < i
      · have g2 : (j : Int) < (i : Int) := by omega
        have hjlt : j < l.length := by omega
        have hrj := (hS.kp0 k7).row (List.getElem?_eq_getElem hjlt)
        have hri := hri.kp0 hk7
        repeat (first|apply CG.seq|apply CG.region|apply SG.nil|apply NG.next|apply CG.skip|apply CG.block|apply CG.ret|apply CG.exit|apply NG.ret_then|apply NG.ret_block|apply NG.exit_then|refine NG.exit_block rfl ?_|apply NG.normal_block|refine SG.val rfl rfl rfl rfl (by first|((first|apply qmv|apply qas|apply qlc|apply qla|apply qfa|apply qic|apply qix|apply qpk|apply qls|apply qei|apply qni|apply qad|apply qln|apply qgt|apply qnt|apply qfr|apply qto)<;>(first|exact rfl|assumption|exact Ar.mk (by omega)|exact dct (by first|assumption|omega)|exact dcf (by first|assumption|omega)|exact List.not_mem_nil|apply dc_length|apply ec_length|apply dl_length|exact nm1 (by omega)|fail))|fail) ?_)
        refine CG.cond_t rfl (by exact rho_of rfl) rfl ?_
        repeat (first|apply CG.seq|apply CG.region|apply SG.nil|apply NG.next|apply CG.skip|apply CG.block|apply CG.ret|apply CG.exit|apply NG.ret_then|apply NG.ret_block|apply NG.exit_then|refine NG.exit_block rfl ?_|apply NG.normal_block|refine SG.val rfl rfl rfl rfl (by first|((first|apply qmv|apply qas|apply qlc|apply qla|apply qfa|apply qic|apply qix|apply qpk|apply qls|apply qei|apply qni|apply qad|apply qln|apply qgt|apply qnt|apply qfr|apply qto)<;>(first|exact rfl|assumption|exact Ar.mk (by omega)|exact dct (by first|assumption|omega)|exact dcf (by first|assumption|omega)|exact List.not_mem_nil|apply dc_length|apply ec_length|apply dl_length|exact nm1 (by omega)|fail))|fail) ?_)
        refine CG.draw0 mixed [0, 1, 2, 3, 4, 5, 6, 7, 8, 9] [] (by kernel_rfl) ?_
        repeat (refine Der.val rfl rfl rfl (by first|((first|apply qmv|apply qas|apply qlc|apply qla|apply qfa|apply qic|apply qix|apply qpk|apply qls|apply qei|apply qni|apply qad|apply qln|apply qgt|apply qnt|apply qfr|apply qto)<;>(first|exact rfl|assumption|exact Ar.mk (by omega)|exact dct (by first|assumption|omega)|exact dcf (by first|assumption|omega)|exact List.not_mem_nil|apply dc_length|apply ec_length|apply dl_length|exact nm1 (by omega)|fail))|fail) ?_)
        refine Der.call rfl rfl rfl (vs := [ov l[j], ov l[i]]) (by repeat' (first | exact True.intro | exact rho_of rfl | refine And.intro ?_ ?_)) (fun W hk _ => rfit_spec l[j] l[i] W) ?_
        by_cases hf : fitP l[j] l[i]
        · rw [decide_eq_true hf]
          repeat (refine Der.val rfl rfl rfl (by first|((first|apply qmv|apply qas|apply qlc|apply qla|apply qfa|apply qic|apply qix|apply qpk|apply qls|apply qei|apply qni|apply qad|apply qln|apply qgt|apply qnt|apply qfr|apply qto)<;>(first|exact rfl|assumption|exact Ar.mk (by omega)|exact dct (by first|assumption|omega)|exact dcf (by first|assumption|omega)|exact List.not_mem_nil|apply dc_length|apply ec_length|apply dl_length|exact nm1 (by omega)|fail))|fail) ?_)
          refine Der.fin (fun w8 hk8 _ _ => ?_)
          repeat (first|apply CG.seq|apply CG.region|apply SG.nil|apply NG.next|apply CG.skip|apply CG.block|apply CG.ret|apply CG.exit|apply NG.ret_then|apply NG.ret_block|apply NG.exit_then|refine NG.exit_block rfl ?_|apply NG.normal_block|refine SG.val rfl rfl rfl rfl (by first|((first|apply qmv|apply qas|apply qlc|apply qla|apply qfa|apply qic|apply qix|apply qpk|apply qls|apply qei|apply qni|apply qad|apply qln|apply qgt|apply qnt|apply qfr|apply qto)<;>(first|exact rfl|assumption|exact Ar.mk (by omega)|exact dct (by first|assumption|omega)|exact dcf (by first|assumption|omega)|exact List.not_mem_nil|apply dc_length|apply ec_length|apply dl_length|exact nm1 (by omega)|fail))|fail) ?_)
          refine CG.cond_f rfl (by exact rho_of rfl) rfl ?_
          repeat (first|apply CG.seq|apply CG.region|apply SG.nil|apply NG.next|apply CG.skip|apply CG.block|apply CG.ret|apply CG.exit|apply NG.ret_then|apply NG.ret_block|apply NG.exit_then|refine NG.exit_block rfl ?_|apply NG.normal_block|refine SG.val rfl rfl rfl rfl (by first|((first|apply qmv|apply qas|apply qlc|apply qla|apply qfa|apply qic|apply qix|apply qpk|apply qls|apply qei|apply qni|apply qad|apply qln|apply qgt|apply qnt|apply qfr|apply qto)<;>(first|exact rfl|assumption|exact Ar.mk (by omega)|exact dct (by first|assumption|omega)|exact dcf (by first|assumption|omega)|exact List.not_mem_nil|apply dc_length|apply ec_length|apply dl_length|exact nm1 (by omega)|fail))|fail) ?_)
          refine NG.round (j + 1) (by (repeat' (first | exact True.intro | exact rfl | refine And.intro ?_ ?_))) ⟨by omega, hk7.trans hk8, fun k h hkj => ?_⟩ (by omega)
          by_cases e : k = j
          · subst e; exact hf
          · exact hfit k h (by omega)
        · rw [decide_eq_false hf]
          have hno : ¬ (decide (l.Pairwise fitP) = true) := fun h => hf (List.pairwise_iff_getElem.1 (of_decide_eq_true h) j i hjlt hlt hjl)
          rw [if_neg hno] at e0
          repeat (refine Der.val rfl rfl rfl (by first|((first|apply qmv|apply qas|apply qlc|apply qla|apply qfa|apply qic|apply qix|apply qpk|apply qls|apply qei|apply qni|apply qad|apply qln|apply qgt|apply qnt|apply qfr|apply qto)<;>(first|exact rfl|assumption|exact Ar.mk (by omega)|exact dct (by first|assumption|omega)|exact dcf (by first|assumption|omega)|exact List.not_mem_nil|apply dc_length|apply ec_length|apply dl_length|exact nm1 (by omega)|fail))|fail) ?_)
          refine Der.fin (fun w8 hk8 _ _ => ?_)
          repeat (first|apply CG.seq|apply CG.region|apply SG.nil|apply NG.next|apply CG.skip|apply CG.block|apply CG.ret|apply CG.exit|apply NG.ret_then|apply NG.ret_block|apply NG.exit_then|refine NG.exit_block rfl ?_|apply NG.normal_block|refine SG.val rfl rfl rfl rfl (by first|((first|apply qmv|apply qas|apply qlc|apply qla|apply qfa|apply qic|apply qix|apply qpk|apply qls|apply qei|apply qni|apply qad|apply qln|apply qgt|apply qnt|apply qfr|apply qto)<;>(first|exact rfl|assumption|exact Ar.mk (by omega)|exact dct (by first|assumption|omega)|exact dcf (by first|assumption|omega)|exact List.not_mem_nil|apply dc_length|apply ec_length|apply dl_length|exact nm1 (by omega)|fail))|fail) ?_)
          refine CG.cond_t rfl (by exact rho_of rfl) rfl ?_
          repeat (first|apply CG.seq|apply CG.region|apply SG.nil|apply NG.next|apply CG.skip|apply CG.block|apply CG.ret|apply CG.exit|apply NG.ret_then|apply NG.ret_block|apply NG.exit_then|refine NG.exit_block rfl ?_|apply NG.normal_block|refine SG.val rfl rfl rfl rfl (by first|((first|apply qmv|apply qas|apply qlc|apply qla|apply qfa|apply qic|apply qix|apply qpk|apply qls|apply qei|apply qni|apply qad|apply qln|apply qgt|apply qnt|apply qfr|apply qto)<;>(first|exact rfl|assumption|exact Ar.mk (by omega)|exact dct (by first|assumption|omega)|exact dcf (by first|assumption|omega)|exact List.not_mem_nil|apply dc_length|apply ec_length|apply dl_length|exact nm1 (by omega)|fail))|fail) ?_)
          refine SG.val rfl rfl rfl rfl (vals_build rfl bez) ?_
          refine SG.setAll (old := dl zd (.slice none 0 0) 0 0) (l := dl zd (.slice none 0 0) 0 0) rfl rfl (by exact rho_of rfl) (by exact rho_of rfl) ((hB2.kp0 hk7).kp0 hk8) (dl_length _ _ _ _) (dl_length _ _ _ _) (dl_one _ _ _ _ _ _) (fun wz hkz hBz => ?_)
          have hrz : Row wz b2 0 (dl zd (.slice none 0 0) 0 0) := Row.all hBz rfl
          repeat (first|apply CG.seq|apply CG.region|apply SG.nil|apply NG.next|apply CG.skip|apply CG.block|apply CG.ret|apply CG.exit|apply NG.ret_then|apply NG.ret_block|apply NG.exit_then|refine NG.exit_block rfl ?_|apply NG.normal_block|refine SG.val rfl rfl rfl rfl (by first|((first|apply qmv|apply qas|apply qlc|apply qla|apply qfa|apply qic|apply qix|apply qpk|apply qls|apply qei|apply qni|apply qad|apply qln|apply qgt|apply qnt|apply qfr|apply qto)<;>(first|exact rfl|assumption|exact Ar.mk (by omega)|exact dct (by first|assumption|omega)|exact dcf (by first|assumption|omega)|exact List.not_mem_nil|apply dc_length|apply ec_length|apply dl_length|exact nm1 (by omega)|fail))|fail) ?_)
          refine ret2 (Or.inl rfl) Try.results14 (ResV.agg rfl rfl hrz (dl_length _ _ _ _)) (by first | exact ResV.tmp rfl | exact ResV.agg rfl rfl (by assumption) (by first | exact dc_length _ | exact nc_length _ | exact rc_length _ _ _ | exact ec_length _ | exact dl_length _ _ _ _ | rfl) | exact ResV.cell rfl rfl (by assumption)) ?_
          rw [e0]
          exact ⟨_, rfl, hz0 wz, (k7.trans hk8).trans_new hkz (new1 (by omega))⟩
      · have g2 : ¬ (j : Int) < (i : Int) := by omega
        have hpw1 : (l.take (i + 1)).Pairwise fitP := by
          rw [List.take_succ_eq_append_getElem hlt, List.pairwise_append]
          refine ⟨hpw, List.pairwise_singleton _ _, fun x hx y hy => ?_⟩
          rw [List.mem_singleton] at hy
          subst hy
          obtain ⟨k, hk, rfl⟩ := List.getElem_of_mem hx
          rw [List.getElem_take]
          exact hfit k (by rw [hlen] at hk; omega) (by rw [hlen] at hk; omega)
        have hri := hri.kp0 hk7
        have hok1 := own_kp0 hok1 hk7
        have hok2 := own_kp0 hok2 hk7
        have hB := hB.kp0 hk7
        have s7 := hk7.size
        have hl1 : ((l.take i).map digO).length = i := by rw [List.length_map]; exact hlen
        have hl2 : ((l.take i).map (·.who)).length = i := by rw [List.length_map]; exact hlen
        have hk67 := hk6.trans hk7
        have lba : ba < w2.heap.size := by have := hr0.lt; omega
        have nb : ba ∉ ownB v ++ ownB v' := fun hm => (List.mem_append.1 hm).elim (own_nb hok1 ba lba) (own_nb hok2 ba lba)
        repeat (first|apply CG.seq|apply CG.region|apply SG.nil|apply NG.next|apply CG.skip|apply CG.block|apply CG.ret|apply CG.exit|apply NG.ret_then|apply NG.ret_block|apply NG.exit_then|refine NG.exit_block rfl ?_|apply NG.normal_block|refine SG.val rfl rfl rfl rfl (by first|((first|apply qmv|apply qas|apply qlc|apply qla|apply qfa|apply qic|apply qix|apply qpk|apply qls|apply qei|apply qni|apply qad|apply qln|apply qgt|apply qnt|apply qfr|apply qto)<;>(first|exact rfl|assumption|exact Ar.mk (by omega)|exact dct (by first|assumption|omega)|exact dcf (by first|assumption|omega)|exact List.not_mem_nil|apply dc_length|apply ec_length|apply dl_length|exact nm1 (by omega)|fail))|fail) ?_)
        refine CG.cond_f rfl (by exact rho_of rfl) rfl ?_
        repeat (first|apply CG.seq|apply CG.region|apply SG.nil|apply NG.next|apply CG.skip|apply CG.block|apply CG.ret|apply CG.exit|apply NG.ret_then|apply NG.ret_block|apply NG.exit_then|refine NG.exit_block rfl ?_|apply NG.normal_block|refine SG.val rfl rfl rfl rfl (by first|((first|apply qmv|apply qas|apply qlc|apply qla|apply qfa|apply qic|apply qix|apply qpk|apply qls|apply qei|apply qni|apply qad|apply qln|apply qgt|apply qnt|apply qfr|apply qto)<;>(first|exact rfl|assumption|exact Ar.mk (by omega)|exact dct (by first|assumption|omega)|exact dcf (by first|assumption|omega)|exact List.not_mem_nil|apply dc_length|apply ec_length|apply dl_length|exact nm1 (by omega)|fail))|fail) ?_)
        refine CG.rows2 (base := w2.heap.size) (base' := w2.heap.size) (enc := dc) (E := 23) (sz := 8) (v := v) (v' := v') (l := (l.take i).map digO) (l' := (l.take i).map (·.who)) mixed 15 [0, 1, 2, 3, 4, 5, 8, 9, 10, 11, 12, 13, 6, 7, 14] [⟨1000, 0, oD w2.heap.size ((l.take i).map digO)⟩, ⟨1001, 1, oD w2.heap.size ((l.take i).map (·.who))⟩, ⟨6, 2, oD w7.heap.size [digO l[i]]⟩, ⟨7, 0, oD w2.heap.size ((l.take i).map digO ++ [digO l[i]])⟩, ⟨14, 3, oD w7.heap.size [l[i].who]⟩] rfl hap hok1 hok2 (by kernel_rfl) (by kernel_rfl) (by repeat' (first | exact OkL.nil | refine OkL.cons ?_ ?_ | exact oP_ok | exact bP_ok)) ?_
        repeat (refine DerR.val rfl rfl rfl rfl (by first|((first|apply qmv|apply qas|apply qlc|apply qla|apply qfa|apply qic|apply qix|apply qpk|apply qls|apply qei|apply qni|apply qad|apply qln|apply qgt|apply qnt|apply qfr|apply qto)<;>(first|exact rfl|assumption|exact Ar.mk (by omega)|exact dct (by first|assumption|omega)|exact dcf (by first|assumption|omega)|exact List.not_mem_nil|apply dc_length|apply ec_length|apply dl_length|exact nm1 (by omega)|fail))|fail) ?_)
        refine DerR.call rfl rfl rfl rfl (vs := [ov l[i]]) (by repeat' (first | exact True.intro | exact rho_of rfl | refine And.intro ?_ ?_)) (fun W hk _ => rdigest_spec l[i] W) ?_
        obtain ⟨rwho, -⟩ := ec_rowsO hri
        clear hri
        repeat (refine DerR.val rfl rfl rfl rfl (by first|((first|apply qmv|apply qas|apply qlc|apply qla|apply qfa|apply qic|apply qix|apply qpk|apply qls|apply qei|apply qni|apply qad|apply qln|apply qgt|apply qnt|apply qfr|apply qto)<;>(first|exact rfl|assumption|exact Ar.mk (by omega)|exact dct (by first|assumption|omega)|exact dcf (by first|assumption|omega)|exact List.not_mem_nil|apply dc_length|apply ec_length|apply dl_length|exact nm1 (by omega)|fail))|fail) ?_)
        refine DerR.buildO [digO l[i]] dc_length rfl rfl rfl rfl rfl (by repeat' (first | exact OkL.nil | refine OkL.cons ?_ ?_ | exact oP_ok | exact bP_ok)) rfl (Nat.le_refl _) (by simp [maxLen]) (fun w => by rw [flt_one]; exact bse8 _ w) (fun v6 => ?_)
        refine DerR.append (src := 1000) ((l.take i).map digO) [digO l[i]] [(1000, (l.take i).map digO)] dc_length dc_one rfl rfl (by kernel_rfl) ⟨Nat.le_refl _, trivial⟩ rfl rfl rfl (by repeat' (first | exact OkL.nil | refine OkL.cons ?_ ?_ | exact oP_ok | exact bP_ok)) (by exact rho_of rfl) (by exact rho_of rfl) rfl rfl rfl (by rw [hl1]; simp only [maxLen, List.length_cons, List.length_nil]; omega) (by rw [hl1]; show (i + 1) * 8 ≤ _; omega) hk67.size (.tail _ (.tail _ (.head _))) (by kernel_rfl) (fun w hk hF => oP.sl dc_length (hF.get (.head _) (by kernel_rfl) rfl)) (fun v7 => ?_)
        refine DerR.buildO [l[i].who] dc_length rfl rfl rfl rfl rfl (by repeat' (first | exact OkL.nil | refine OkL.cons ?_ ?_ | exact oP_ok | exact bP_ok)) rfl (Nat.le_refl _) (by simp [maxLen]) (fun w => by rw [flt_one]; exact bse8 _ w) (fun v14 => ?_)
        refine DerR.tl (fun w8 V hok hV => ?_)
        have ho7 : w8.ownsRow w2.heap.size 23 8 v7 ((l.take i).map digO ++ [digO l[i]]).length (flt dc ((l.take i).map digO ++ [digO l[i]])) := hok.get hV (.tail _ (.head _)) rfl
        have hov : w8.ownsRow w2.heap.size 23 8 v' ((l.take i).map (·.who)).length (flt dc ((l.take i).map (·.who))) := hok.get hV (.tail _ (.tail _ (.tail _ (.head _)))) rfl
        have ho14 : w8.ownsRow w7.heap.size 23 8 v14 ([l[i].who] : List Dg).length (flt dc [l[i].who]) := hok.get hV (.head _) rfl
        have hap7 : Apart v7 v' := hok.apart hV (.tail _ (.head _)) (.tail _ (.tail _ (.tail _ (.head _)))) rfl rfl (by show (0 : Nat) ≠ 1; decide)
        have hk8 := hok.kp
        obtain ⟨a14, c14, rfl, _, hS14⟩ := Sl.own dc_length ho14 rfl
        have nb7 : b7 ∉ ownB v ++ ownB v' := fun hm => (List.mem_append.1 hm).elim (fun h => own_neb hok1 (by decide) hB b7 (ownB_mem h) (by simp)) (fun h => own_neb hok2 (by decide) hB b7 (ownB_mem h) (by simp))
        have hB8 := hB.kp hk8 nb7
        have k8 : Kp [] w2 w8 := hk67.trans_new hk8 (fun z hz => (List.mem_append.1 hz).elim (own_new hok1 (Nat.le_refl _) z) (own_new hok2 (Nat.le_refl _) z))
        refine SG.appO (enc := dc) (xs := (l.take i).map (·.who)) (ys := [l[i].who]) (base := w2.heap.size) rfl rfl rfl (by exact rho_of rfl) (by exact rho_of rfl) rfl rfl rfl rfl dc_length dc_one hov hS14 (by rw [hl2]; simp only [maxLen, List.length_cons, List.length_nil]; omega) (by rw [hl2]; show (i + 1) * 8 ≤ _; omega) k8.size (fun v15 w9 hk9 ho15 hg15 => ?_)
        have ho7 := own_kp ho7 hk9 (fun b hb hm => hap7 b hb (ownB_mem hm))
        have hap15 : Apart v7 v15 := (Apart.grow hap7.symm hg15 (hok.get hV (.tail _ (.head _)) rfl : w8.ownsRow w2.heap.size 23 8 v7 ((l.take i).map digO ++ [digO l[i]]).length (flt dc ((l.take i).map digO ++ [digO l[i]])))).symm
        have hB9 := blk_own hov (by decide) hB8 hk9
        have k9 : Kp [] w2 w9 := k8.trans_new hk9 (own_new hov (Nat.le_refl _))
        have e1 : (l.take i).map digO ++ [digO l[i]] = (l.take (i + 1)).map digO := by rw [List.take_succ_eq_append_getElem hlt, List.map_append]; rfl
        have e2 : (l.take i).map (·.who) ++ [l[i].who] = (l.take (i + 1)).map (·.who) := by rw [List.take_succ_eq_append_getElem hlt, List.map_append]; rfl
        rw [e1] at ho7
        rw [e2] at ho15
        have em1 := maxs_snoc (·.least) l i hlt
        have em2 := maxs_snoc (·.window) l i hlt
        have hri9 := (hS.kp0 (k2.trans k9)).row (List.getElem?_eq_getElem hlt)
        obtain ⟨-, -, -, q3, -, q5, -⟩ := ec_rowsO hri9
        clear hri9 rwho hok hV V hS14 ho14 hap7 hg15 hB8 hov
        obtain ⟨-, -, d2, d3, -⟩ := dl_rows hB9
        have s9 := k9.size
        have z8 := hk8.size
        have z9 := hk9.size
        generalize hst : maxs (·.least) (l.take i) = st at em1 hB9 d2
        generalize hwi : maxs (·.window) (l.take i) = wi at em2 hB9 d3
        repeat (first|apply CG.seq|apply CG.region|apply SG.nil|apply NG.next|apply CG.skip|apply CG.block|apply CG.ret|apply CG.exit|apply NG.ret_then|apply NG.ret_block|apply NG.exit_then|refine NG.exit_block rfl ?_|apply NG.normal_block|refine SG.val rfl rfl rfl rfl (by first|((first|apply qmv|apply qas|apply qlc|apply qla|apply qfa|apply qic|apply qix|apply qpk|apply qls|apply qei|apply qni|apply qad|apply qln|apply qgt|apply qnt|apply qfr|apply qto)<;>(first|exact rfl|assumption|exact Ar.mk (by omega)|exact dct (by first|assumption|omega)|exact dcf (by first|assumption|omega)|exact List.not_mem_nil|apply dc_length|apply ec_length|apply dl_length|exact nm1 (by omega)|fail))|fail) ?_)
        refine CG.draw0 mixed [0, 1, 2, 3, 4, 5, 6, 7] [] (by kernel_rfl) ?_
        by_cases hm1 : st < l[i].least
        all_goals
          repeat (refine Der.val rfl rfl rfl (by first|((first|apply qmv|apply qas|apply qlc|apply qla|apply qfa|apply qic|apply qix|apply qpk|apply qls|apply qei|apply qni|apply qad|apply qln|apply qgt|apply qnt|apply qfr|apply qto)<;>(first|exact rfl|assumption|exact Ar.mk (by omega)|exact dct (by first|assumption|omega)|exact dcf (by first|assumption|omega)|exact List.not_mem_nil|apply dc_length|apply ec_length|apply dl_length|exact nm1 (by omega)|fail))|fail) ?_)
          refine Der.fin (fun w10 hk10 _ _ => ?_)
          have hB10 := hB9.kp0 hk10
          have q3 := q3.kp0 hk10
          have q5 := q5.kp0 hk10
          repeat (first|apply CG.seq|apply CG.region|apply SG.nil|apply NG.next|apply CG.skip|apply CG.block|apply CG.ret|apply CG.exit|apply NG.ret_then|apply NG.ret_block|apply NG.exit_then|refine NG.exit_block rfl ?_|apply NG.normal_block|refine SG.val rfl rfl rfl rfl (by first|((first|apply qmv|apply qas|apply qlc|apply qla|apply qfa|apply qic|apply qix|apply qpk|apply qls|apply qei|apply qni|apply qad|apply qln|apply qgt|apply qnt|apply qfr|apply qto)<;>(first|exact rfl|assumption|exact Ar.mk (by omega)|exact dct (by first|assumption|omega)|exact dcf (by first|assumption|omega)|exact List.not_mem_nil|apply dc_length|apply ec_length|apply dl_length|exact nm1 (by omega)|fail))|fail) ?_)
        all_goals
          refine CG.cut_then (fun L w' => SubE [(0, .slice (some ⟨ba, oa, none⟩) l.length c), (2, .pointer (some ⟨b2, 0, none⟩)), (5, v7), (6, v15), (7, .pointer (some ⟨b7, 0, none⟩)), (8, .int .i64 (i : Int))] L ∧ Kp [b7] w9 w' ∧ Blk w' b7 (.cells (dl o.rules (.slice none 0 0) (maxs (·.least) (l.take (i + 1))) wi).toArray 39)) ?_ ?_
          · first
              | (rw [if_pos hm1] at em1
                 refine CG.cond_t rfl (by exact rho_of rfl) rfl ?_
                 repeat (first|apply CG.seq|apply CG.region|apply SG.nil|apply NG.next|apply CG.skip|apply CG.block|apply CG.ret|apply CG.exit|apply NG.ret_then|apply NG.ret_block|apply NG.exit_then|refine NG.exit_block rfl ?_|apply NG.normal_block|refine SG.val rfl rfl rfl rfl (by first|((first|apply qmv|apply qas|apply qlc|apply qla|apply qfa|apply qic|apply qix|apply qpk|apply qls|apply qei|apply qni|apply qad|apply qln|apply qgt|apply qnt|apply qfr|apply qto)<;>(first|exact rfl|assumption|exact Ar.mk (by omega)|exact dct (by first|assumption|omega)|exact dcf (by first|assumption|omega)|exact List.not_mem_nil|apply dc_length|apply ec_length|apply dl_length|exact nm1 (by omega)|fail))|fail) ?_)
                 refine SG.store rfl rfl (by exact rho_of rfl) (by exact rho_of rfl) hB10 rfl (by show 9 + 1 ≤ _; simp [dl_length]) rfl (fun w11 hk11 hBc => ?_)
                 have hBc : Blk w11 b7 (.cells (spl (dl o.rules (.slice none 0 0) st wi) 9 [.int .i64 l[i].least]).toArray 39) := hBc
                 rw [dl_set2, ← em1] at hBc
                 repeat (first|apply CG.seq|apply CG.region|apply SG.nil|apply NG.next|apply CG.skip|apply CG.block|apply CG.ret|apply CG.exit|apply NG.ret_then|apply NG.ret_block|apply NG.exit_then|refine NG.exit_block rfl ?_|apply NG.normal_block|refine SG.val rfl rfl rfl rfl (by first|((first|apply qmv|apply qas|apply qlc|apply qla|apply qfa|apply qic|apply qix|apply qpk|apply qls|apply qei|apply qni|apply qad|apply qln|apply qgt|apply qnt|apply qfr|apply qto)<;>(first|exact rfl|assumption|exact Ar.mk (by omega)|exact dct (by first|assumption|omega)|exact dcf (by first|assumption|omega)|exact List.not_mem_nil|apply dc_length|apply ec_length|apply dl_length|exact nm1 (by omega)|fail))|fail) ?_)
                 exact NG.cut ⟨by (repeat' (first | exact True.intro | exact rfl | refine And.intro ?_ ?_)), hk10.any.trans hk11, hBc⟩)
              | (rw [if_neg hm1] at em1
                 refine CG.cond_f rfl (by exact rho_of rfl) rfl ?_
                 repeat (first|apply CG.seq|apply CG.region|apply SG.nil|apply NG.next|apply CG.skip|apply CG.block|apply CG.ret|apply CG.exit|apply NG.ret_then|apply NG.ret_block|apply NG.exit_then|refine NG.exit_block rfl ?_|apply NG.normal_block|refine SG.val rfl rfl rfl rfl (by first|((first|apply qmv|apply qas|apply qlc|apply qla|apply qfa|apply qic|apply qix|apply qpk|apply qls|apply qei|apply qni|apply qad|apply qln|apply qgt|apply qnt|apply qfr|apply qto)<;>(first|exact rfl|assumption|exact Ar.mk (by omega)|exact dct (by first|assumption|omega)|exact dcf (by first|assumption|omega)|exact List.not_mem_nil|apply dc_length|apply ec_length|apply dl_length|exact nm1 (by omega)|fail))|fail) ?_)
                 exact NG.cut ⟨by (repeat' (first | exact True.intro | exact rfl | refine And.intro ?_ ?_)), hk10.any, by rw [em1]; exact hB10⟩)
          rintro L w11 ⟨hL, hk11, hB11⟩
          refine CG.to _ hL ?_
          have q6 : Row w11 ba (oa + i * 21 + 19) [.int .i64 l[i].window] := (ec_rowsO (((hS.kp0 (k2.trans k9)).row (List.getElem?_eq_getElem hlt)).kp hk11 (nm1 (by omega)))).2.2.2.2.2.1
          obtain ⟨-, -, -, d3, -⟩ := dl_rows hB11
          clear q3 q5 d2 hB10 em1 hm1 hL hk10
          repeat (first|apply CG.seq|apply CG.region|apply SG.nil|apply NG.next|apply CG.skip|apply CG.block|apply CG.ret|apply CG.exit|apply NG.ret_then|apply NG.ret_block|apply NG.exit_then|refine NG.exit_block rfl ?_|apply NG.normal_block|refine SG.val rfl rfl rfl rfl (by first|((first|apply qmv|apply qas|apply qlc|apply qla|apply qfa|apply qic|apply qix|apply qpk|apply qls|apply qei|apply qni|apply qad|apply qln|apply qgt|apply qnt|apply qfr|apply qto)<;>(first|exact rfl|assumption|exact Ar.mk (by omega)|exact dct (by first|assumption|omega)|exact dcf (by first|assumption|omega)|exact List.not_mem_nil|apply dc_length|apply ec_length|apply dl_length|exact nm1 (by omega)|fail))|fail) ?_)
          refine CG.draw0 mixed [0, 1, 2, 3, 4, 5, 6, 7] [] (by kernel_rfl) ?_
          by_cases hm2 : wi < l[i].window
          all_goals
            repeat (refine Der.val rfl rfl rfl (by first|((first|apply qmv|apply qas|apply qlc|apply qla|apply qfa|apply qic|apply qix|apply qpk|apply qls|apply qei|apply qni|apply qad|apply qln|apply qgt|apply qnt|apply qfr|apply qto)<;>(first|exact rfl|assumption|exact Ar.mk (by omega)|exact dct (by first|assumption|omega)|exact dcf (by first|assumption|omega)|exact List.not_mem_nil|apply dc_length|apply ec_length|apply dl_length|exact nm1 (by omega)|fail))|fail) ?_)
            refine Der.fin (fun w12 hk12 _ _ => ?_)
            have hB12 := hB11.kp0 hk12
            have q6 := q6.kp0 hk12
            obtain ⟨-, -, -, d3, -⟩ := dl_rows hB12
            repeat (first|apply CG.seq|apply CG.region|apply SG.nil|apply NG.next|apply CG.skip|apply CG.block|apply CG.ret|apply CG.exit|apply NG.ret_then|apply NG.ret_block|apply NG.exit_then|refine NG.exit_block rfl ?_|apply NG.normal_block|refine SG.val rfl rfl rfl rfl (by first|((first|apply qmv|apply qas|apply qlc|apply qla|apply qfa|apply qic|apply qix|apply qpk|apply qls|apply qei|apply qni|apply qad|apply qln|apply qgt|apply qnt|apply qfr|apply qto)<;>(first|exact rfl|assumption|exact Ar.mk (by omega)|exact dct (by first|assumption|omega)|exact dcf (by first|assumption|omega)|exact List.not_mem_nil|apply dc_length|apply ec_length|apply dl_length|exact nm1 (by omega)|fail))|fail) ?_)
            first
              | (rw [if_pos hm2] at em2
                 refine CG.cond_t rfl (by exact rho_of rfl) rfl ?_
                 repeat (first|apply CG.seq|apply CG.region|apply SG.nil|apply NG.next|apply CG.skip|apply CG.block|apply CG.ret|apply CG.exit|apply NG.ret_then|apply NG.ret_block|apply NG.exit_then|refine NG.exit_block rfl ?_|apply NG.normal_block|refine SG.val rfl rfl rfl rfl (by first|((first|apply qmv|apply qas|apply qlc|apply qla|apply qfa|apply qic|apply qix|apply qpk|apply qls|apply qei|apply qni|apply qad|apply qln|apply qgt|apply qnt|apply qfr|apply qto)<;>(first|exact rfl|assumption|exact Ar.mk (by omega)|exact dct (by first|assumption|omega)|exact dcf (by first|assumption|omega)|exact List.not_mem_nil|apply dc_length|apply ec_length|apply dl_length|exact nm1 (by omega)|fail))|fail) ?_)
                 refine SG.store rfl rfl (by exact rho_of rfl) (by exact rho_of rfl) hB12 rfl (by show 10 + 1 ≤ _; simp [dl_length]) rfl (fun w13 hk13 hBc => ?_)
                 have hBc : Blk w13 b7 (.cells (spl (dl o.rules (.slice none 0 0) (maxs (·.least) (l.take (i + 1))) wi) 10 [.int .i64 l[i].window]).toArray 39) := hBc
                 rw [dl_set3, ← em2] at hBc
                 have k13 : Kp [b7] w9 w13 := (hk11.trans hk12.any).trans hk13
                 have z13 := k13.size
                 repeat (first|apply CG.seq|apply CG.region|apply SG.nil|apply NG.next|apply CG.skip|apply CG.block|apply CG.ret|apply CG.exit|apply NG.ret_then|apply NG.ret_block|apply NG.exit_then|refine NG.exit_block rfl ?_|apply NG.normal_block|refine SG.val rfl rfl rfl rfl (by first|((first|apply qmv|apply qas|apply qlc|apply qla|apply qfa|apply qic|apply qix|apply qpk|apply qls|apply qei|apply qni|apply qad|apply qln|apply qgt|apply qnt|apply qfr|apply qto)<;>(first|exact rfl|assumption|exact Ar.mk (by omega)|exact dct (by first|assumption|omega)|exact dcf (by first|assumption|omega)|exact List.not_mem_nil|apply dc_length|apply ec_length|apply dl_length|exact nm1 (by omega)|fail))|fail) ?_)
                 exact NG.round ((v7, v15), i + 1) (by (repeat' (first | exact True.intro | exact rfl | refine And.intro ?_ ?_))) ⟨by simp only; omega, k9.trans_new k13 (new1 (by omega)), by omega, hBc, own_kp ho7 k13 (own_neb ho7 (by decide) hB9), own_kp ho15 k13 (own_neb ho15 (by decide) hB9), hap15, hpw1⟩ (by simp only; omega))
              | (rw [if_neg hm2] at em2
                 refine CG.cond_f rfl (by exact rho_of rfl) rfl ?_
                 have k13 : Kp [b7] w9 w12 := hk11.trans hk12.any
                 have z13 := k13.size
                 repeat (first|apply CG.seq|apply CG.region|apply SG.nil|apply NG.next|apply CG.skip|apply CG.block|apply CG.ret|apply CG.exit|apply NG.ret_then|apply NG.ret_block|apply NG.exit_then|refine NG.exit_block rfl ?_|apply NG.normal_block|refine SG.val rfl rfl rfl rfl (by first|((first|apply qmv|apply qas|apply qlc|apply qla|apply qfa|apply qic|apply qix|apply qpk|apply qls|apply qei|apply qni|apply qad|apply qln|apply qgt|apply qnt|apply qfr|apply qto)<;>(first|exact rfl|assumption|exact Ar.mk (by omega)|exact dct (by first|assumption|omega)|exact dcf (by first|assumption|omega)|exact List.not_mem_nil|apply dc_length|apply ec_length|apply dl_length|exact nm1 (by omega)|fail))|fail) ?_)
                 exact NG.round ((v7, v15), i + 1) (by (repeat' (first | exact True.intro | exact rfl | refine And.intro ?_ ?_))) ⟨by simp only; omega, k9.trans_new k13 (new1 (by omega)), by omega, by rw [em2]; exact hB12, own_kp ho7 k13 (own_neb ho7 (by decide) hB9), own_kp ho15 k13 (own_neb ho15 (by decide) hB9), hap15, hpw1⟩ (by simp only; omega))
    · have g1 : ¬ (i : Int) < (l.length : Int) := by omega
      rw [List.take_of_length_le (by omega)] at hok1 hok2 hB hpw
      rw [if_pos (decide_eq_true hpw)] at e0
      have lk : (l.map digO).length = l.length := List.length_map ..
      have lw : (l.map (·.who)).length = l.length := List.length_map ..
      obtain ⟨ak, ck, rfl, _, hSk⟩ := Sl.own dc_length hok1 rfl
      obtain ⟨aw, cw, rfl, _, hSw⟩ := Sl.own dc_length hok2 rfl
      have hmx := mixD_eq l
      have hg : goodDel o.rules l = ⟨o.rules, sortK (kW (mixD l)) (l.map (·.who)), maxs (·.least) l, maxs (·.window) l⟩ := rfl
      generalize maxs (·.least) l = st at hB hg
      generalize maxs (·.window) l = wi at hB hg
      generalize l.map digO = ks at hSk lk hmx
      generalize l.map (·.who) = ws at hSw lw hg
      generalize mixD l = mx at hmx hg
      clear hok1 hok2 hap hlen
      repeat (first|apply CG.seq|apply CG.region|apply SG.nil|apply NG.next|apply CG.skip|apply CG.block|apply CG.ret|apply CG.exit|apply NG.ret_then|apply NG.ret_block|apply NG.exit_then|refine NG.exit_block rfl ?_|apply NG.normal_block|refine SG.val rfl rfl rfl rfl (by first|((first|apply qmv|apply qas|apply qlc|apply qla|apply qfa|apply qic|apply qix|apply qpk|apply qls|apply qei|apply qni|apply qad|apply qln|apply qgt|apply qnt|apply qfr|apply qto)<;>(first|exact rfl|assumption|exact Ar.mk (by omega)|exact dct (by first|assumption|omega)|exact dcf (by first|assumption|omega)|exact List.not_mem_nil|apply dc_length|apply ec_length|apply dl_length|exact nm1 (by omega)|fail))|fail) ?_)
      refine CG.cond_f rfl (by exact rho_of rfl) rfl ?_
      repeat (first|apply CG.seq|apply CG.region|apply SG.nil|apply NG.next|apply CG.skip|apply CG.block|apply CG.ret|apply CG.exit|apply NG.ret_then|apply NG.ret_block|apply NG.exit_then|refine NG.exit_block rfl ?_|apply NG.normal_block|refine SG.val rfl rfl rfl rfl (by first|((first|apply qmv|apply qas|apply qlc|apply qla|apply qfa|apply qic|apply qix|apply qpk|apply qls|apply qei|apply qni|apply qad|apply qln|apply qgt|apply qnt|apply qfr|apply qto)<;>(first|exact rfl|assumption|exact Ar.mk (by omega)|exact dct (by first|assumption|omega)|exact dcf (by first|assumption|omega)|exact List.not_mem_nil|apply dc_length|apply ec_length|apply dl_length|exact nm1 (by omega)|fail))|fail) ?_)
      refine SG.call rfl rfl rfl (vs := [.slice ak ks.length ck]) (by repeat' (first | exact True.intro | exact rho_of rfl | refine And.intro ?_ ?_)) ((sorted_spec (c := ck) hSk (by omega)).mono (fun e w7 hh => ?_))
      obtain ⟨v7, he, ho7, hk7⟩ := hh
      refine ⟨_, he, ?_⟩
      obtain ⟨a7, c7, rfl, _, hS7⟩ := Sl.own dc_length ho7 rfl
      refine SG.ret rfl rfl rfl (vs := [.slice a7 (sortK num ks).length c7]) (by repeat' (first | exact True.intro | exact rho_of rfl | refine And.intro ?_ ?_)) (rmany_spec c7 hS7 (by rw [(sortK_perm num ks).length_eq]; omega)) (fun w8 hk8 => ?_)
      rw [hmx]
      refine SG.alloc rfl rfl rfl (fun b10 w9 hk9 hb10 hB10 => ?_)
      refine SG.setAll (l := dc mx) rfl rfl (by exact rho_of rfl) (by exact rho_of rfl) hB10 (dc_length _) rfl (dc_one _) (fun w10 hk10 hB11 => ?_)
      have hB11 : Blk w10 b10 (.cells (dc mx).toArray 23) := hB11
      have k10 : Kp [] w6 w10 := ((hk7.trans hk8).trans hk9).trans_new hk10 (new1 (by have := hk7.size; have := hk8.size; omega))
      have s10 := k10.size
      have l10 := hB11.lt
      have l7' := hB.lt
      have hbb : b7 < b10 := by have := hk7.size; have := hk8.size; omega
      have hB := hB.kp0 k10
      repeat (first|apply CG.seq|apply CG.region|apply SG.nil|apply NG.next|apply CG.skip|apply CG.block|apply CG.ret|apply CG.exit|apply NG.ret_then|apply NG.ret_block|apply NG.exit_then|refine NG.exit_block rfl ?_|apply NG.normal_block|refine SG.val rfl rfl rfl rfl (by first|((first|apply qmv|apply qas|apply qlc|apply qla|apply qfa|apply qic|apply qix|apply qpk|apply qls|apply qei|apply qni|apply qad|apply qln|apply qgt|apply qnt|apply qfr|apply qto)<;>(first|exact rfl|assumption|exact Ar.mk (by omega)|exact dct (by first|assumption|omega)|exact dcf (by first|assumption|omega)|exact List.not_mem_nil|apply dc_length|apply ec_length|apply dl_length|exact nm1 (by omega)|fail))|fail) ?_)
      refine SG.call rfl rfl rfl (vs := [.slice aw ws.length cw]) (by repeat' (first | exact True.intro | exact rho_of rfl | refine And.intro ?_ ?_)) ((sorted_spec (c := cw) (hSw.kp0 k10) (by omega)).mono (fun e w11 hh => ?_))
      obtain ⟨v11, he, ho11, hk11⟩ := hh
      refine ⟨_, he, ?_⟩
      have lall : ∀ out W, Sel mx ws out W → out.length + W.length = l.length := fun out W h => by
        rw [← lw, ← h.perm.length_eq, List.length_append]
      have hB2 := hB2.kp0 k10
      clear hSk hSw hS7 ho7 hk7 hk8 hk9 hk10
      repeat (first|apply CG.seq|apply CG.region|apply SG.nil|apply NG.next|apply CG.skip|apply CG.block|apply CG.ret|apply CG.exit|apply NG.ret_then|apply NG.ret_block|apply NG.exit_then|refine NG.exit_block rfl ?_|apply NG.normal_block|refine SG.val rfl rfl rfl rfl (by first|((first|apply qmv|apply qas|apply qlc|apply qla|apply qfa|apply qic|apply qix|apply qpk|apply qls|apply qei|apply qni|apply qad|apply qln|apply qgt|apply qnt|apply qfr|apply qto)<;>(first|exact rfl|assumption|exact Ar.mk (by omega)|exact dct (by first|assumption|omega)|exact dcf (by first|assumption|omega)|exact List.not_mem_nil|apply dc_length|apply ec_length|apply dl_length|exact nm1 (by omega)|fail))|fail) ?_)
      refine CG.loop (X := (Value × List Dg) × (Value × List Dg)) (fun x => [(2, .pointer (some ⟨b2, 0, none⟩)), (6, x.2.1), (7, .pointer (some ⟨b7, 0, none⟩)), (10, .pointer (some ⟨b10, 0, none⟩))])
        (fun x w' => Kp [b7] w10 w' ∧ Blk w' b7 (.cells (dl o.rules x.1.1 st wi).toArray 39) ∧ w'.ownsRow w10.heap.size 23 8 x.1.1 x.1.2.length (flt dc x.1.2) ∧ w'.ownsRow w10.heap.size 23 8 x.2.1 x.2.2.length (flt dc x.2.2) ∧ Apart x.1.1 x.2.1 ∧ Sel mx ws x.1.2 x.2.2)
        (fun x => x.2.2.length) ((.slice none 0 0, []), (v11, sortK num ws)) ⟨hk11.any, hB.kp0 hk11, own_nil, ho11, fun b h => (by cases h), Sel.init mx ws⟩ (by (repeat' (first | exact True.intro | exact rfl | refine And.intro ?_ ?_))) ?_
      rintro ⟨⟨vo, out⟩, ⟨vw, W⟩⟩ w12 ⟨hk12, hC, hro, hrw, hap, hsel⟩
      simp only at hC hro hrw hap hsel
      refine CG.to [(2, .pointer (some ⟨b2, 0, none⟩)), (6, vw), (7, .pointer (some ⟨b7, 0, none⟩)), (10, .pointer (some ⟨b10, 0, none⟩))] (by (repeat' (first | exact True.intro | exact rfl | refine And.intro ?_ ?_))) ?_
      have hll := lall out W hsel
      have hB11 := hB11.kp hk12 (nm1 (by omega))
      have s12 := hk12.size
      obtain ⟨aw, cw, rfl, hcw, hSw⟩ := Sl.own dc_length hrw rfl
      by_cases hpw0 : 0 < W.length
      · have g2 : (0 : Int) < (W.length : Int) := by omega
        obtain ⟨bw, ow, rfl, hrw0⟩ := hSw.at hpw0
        repeat (first|apply CG.seq|apply CG.region|apply SG.nil|apply NG.next|apply CG.skip|apply CG.block|apply CG.ret|apply CG.exit|apply NG.ret_then|apply NG.ret_block|apply NG.exit_then|refine NG.exit_block rfl ?_|apply NG.normal_block|refine SG.val rfl rfl rfl rfl (by first|((first|apply qmv|apply qas|apply qlc|apply qla|apply qfa|apply qic|apply qix|apply qpk|apply qls|apply qei|apply qni|apply qad|apply qln|apply qgt|apply qnt|apply qfr|apply qto)<;>(first|exact rfl|assumption|exact Ar.mk (by omega)|exact dct (by first|assumption|omega)|exact dcf (by first|assumption|omega)|exact List.not_mem_nil|apply dc_length|apply ec_length|apply dl_length|exact nm1 (by omega)|fail))|fail) ?_)
        refine CG.cond_t rfl (by exact rho_of rfl) rfl ?_
        repeat (first|apply CG.seq|apply CG.region|apply SG.nil|apply NG.next|apply CG.skip|apply CG.block|apply CG.ret|apply CG.exit|apply NG.ret_then|apply NG.ret_block|apply NG.exit_then|refine NG.exit_block rfl ?_|apply NG.normal_block|refine SG.val rfl rfl rfl rfl (by first|((first|apply qmv|apply qas|apply qlc|apply qla|apply qfa|apply qic|apply qix|apply qpk|apply qls|apply qei|apply qni|apply qad|apply qln|apply qgt|apply qnt|apply qfr|apply qto)<;>(first|exact rfl|assumption|exact Ar.mk (by omega)|exact dct (by first|assumption|omega)|exact dcf (by first|assumption|omega)|exact List.not_mem_nil|apply dc_length|apply ec_length|apply dl_length|exact nm1 (by omega)|fail))|fail) ?_)
        refine CG.loop (X := Nat × Nat) (fun x => [(2, .pointer (some ⟨b2, 0, none⟩)), (6, .slice (some ⟨bw, ow, none⟩) W.length cw), (7, .pointer (some ⟨b7, 0, none⟩)), (10, .pointer (some ⟨b10, 0, none⟩)), (11, .int .i64 (x.1 : Int)), (12, .int .i64 (x.2 : Int))])
          (fun x w' => x.1 < x.2 ∧ x.2 ≤ W.length ∧ Kp [] w12 w' ∧ (∀ k (h : k < W.length) (hb : x.1 < W.length), k < x.2 → num (twoI mx W[x.1]) ≤ num (twoI mx W[k])) ∧ (∀ k (h : k < W.length) (hb : x.1 < W.length), k < x.1 → num (twoI mx W[x.1]) < num (twoI mx W[k])))
          (fun x => W.length - x.2) (0, 1) ⟨by simp only; omega, by simp only; omega, Kp.refl _ _, fun k h hb hk => (by
            simp only at hk
            have : k = 0 := by omega
            subst this
            exact Nat.le_refl _), fun k h hb hk => absurd hk (Nat.not_lt_zero k)⟩ (by (repeat' (first | exact True.intro | exact rfl | refine And.intro ?_ ?_))) ?_
        rintro ⟨best, j⟩ w13 ⟨hbj, hj, hk13, hmin, hfst⟩
        simp only at hbj hj hmin hfst
        refine CG.to [(2, .pointer (some ⟨b2, 0, none⟩)), (6, .slice (some ⟨bw, ow, none⟩) W.length cw), (7, .pointer (some ⟨b7, 0, none⟩)), (10, .pointer (some ⟨b10, 0, none⟩)), (11, .int .i64 (best : Int)), (12, .int .i64 (j : Int))] (by (repeat' (first | exact True.intro | exact rfl | refine And.intro ?_ ?_))) ?_
        have hbl : best < W.length := by omega
        by_cases hjl : j < W.length
        · have g3 : (j : Int) < (W.length : Int) := by omega
          have hrj := (hSw.kp0 hk13).row (List.getElem?_eq_getElem hjl)
          have hrb := (hSw.kp0 hk13).row (List.getElem?_eq_getElem hbl)
          have hmr := Row.all (l := dc mx) (hB11.kp0 hk13) rfl
          repeat (first|apply CG.seq|apply CG.region|apply SG.nil|apply NG.next|apply CG.skip|apply CG.block|apply CG.ret|apply CG.exit|apply NG.ret_then|apply NG.ret_block|apply NG.exit_then|refine NG.exit_block rfl ?_|apply NG.normal_block|refine SG.val rfl rfl rfl rfl (by first|((first|apply qmv|apply qas|apply qlc|apply qla|apply qfa|apply qic|apply qix|apply qpk|apply qls|apply qei|apply qni|apply qad|apply qln|apply qgt|apply qnt|apply qfr|apply qto)<;>(first|exact rfl|assumption|exact Ar.mk (by omega)|exact dct (by first|assumption|omega)|exact dcf (by first|assumption|omega)|exact List.not_mem_nil|apply dc_length|apply ec_length|apply dl_length|exact nm1 (by omega)|fail))|fail) ?_)
          refine CG.cond_t rfl (by exact rho_of rfl) rfl ?_
          repeat (first|apply CG.seq|apply CG.region|apply SG.nil|apply NG.next|apply CG.skip|apply CG.block|apply CG.ret|apply CG.exit|apply NG.ret_then|apply NG.ret_block|apply NG.exit_then|refine NG.exit_block rfl ?_|apply NG.normal_block|refine SG.val rfl rfl rfl rfl (by first|((first|apply qmv|apply qas|apply qlc|apply qla|apply qfa|apply qic|apply qix|apply qpk|apply qls|apply qei|apply qni|apply qad|apply qln|apply qgt|apply qnt|apply qfr|apply qto)<;>(first|exact rfl|assumption|exact Ar.mk (by omega)|exact dct (by first|assumption|omega)|exact dcf (by first|assumption|omega)|exact List.not_mem_nil|apply dc_length|apply ec_length|apply dl_length|exact nm1 (by omega)|fail))|fail) ?_)
          refine CG.draw0 mixed [0, 1, 2, 3, 4, 5, 6, 7, 8, 9, 10, 11, 12, 13, 14] [] (by kernel_rfl) ?_
          repeat (refine Der.val rfl rfl rfl (by first|((first|apply qmv|apply qas|apply qlc|apply qla|apply qfa|apply qic|apply qix|apply qpk|apply qls|apply qei|apply qni|apply qad|apply qln|apply qgt|apply qnt|apply qfr|apply qto)<;>(first|exact rfl|assumption|exact Ar.mk (by omega)|exact dct (by first|assumption|omega)|exact dcf (by first|assumption|omega)|exact List.not_mem_nil|apply dc_length|apply ec_length|apply dl_length|exact nm1 (by omega)|fail))|fail) ?_)
          refine Der.call rfl rfl rfl (vs := [dv mx, dv W[j]]) (by repeat' (first | exact True.intro | exact rho_of rfl | refine And.intro ?_ ?_)) (fun w _ _ => rtwo_spec mx W[j] w) ?_
          repeat (refine Der.val rfl rfl rfl (by first|((first|apply qmv|apply qas|apply qlc|apply qla|apply qfa|apply qic|apply qix|apply qpk|apply qls|apply qei|apply qni|apply qad|apply qln|apply qgt|apply qnt|apply qfr|apply qto)<;>(first|exact rfl|assumption|exact Ar.mk (by omega)|exact dct (by first|assumption|omega)|exact dcf (by first|assumption|omega)|exact List.not_mem_nil|apply dc_length|apply ec_length|apply dl_length|exact nm1 (by omega)|fail))|fail) ?_)
          refine Der.call rfl rfl rfl (vs := [dv (twoI mx W[j])]) (by repeat' (first | exact True.intro | exact rho_of rfl | refine And.intro ?_ ?_)) (fun w _ _ => rnum_spec _ w) ?_
          repeat (refine Der.val rfl rfl rfl (by first|((first|apply qmv|apply qas|apply qlc|apply qla|apply qfa|apply qic|apply qix|apply qpk|apply qls|apply qei|apply qni|apply qad|apply qln|apply qgt|apply qnt|apply qfr|apply qto)<;>(first|exact rfl|assumption|exact Ar.mk (by omega)|exact dct (by first|assumption|omega)|exact dcf (by first|assumption|omega)|exact List.not_mem_nil|apply dc_length|apply ec_length|apply dl_length|exact nm1 (by omega)|fail))|fail) ?_)
          refine Der.call rfl rfl rfl (vs := [dv mx, dv W[best]]) (by repeat' (first | exact True.intro | exact rho_of rfl | refine And.intro ?_ ?_)) (fun w _ _ => rtwo_spec mx W[best] w) ?_
          repeat (refine Der.val rfl rfl rfl (by first|((first|apply qmv|apply qas|apply qlc|apply qla|apply qfa|apply qic|apply qix|apply qpk|apply qls|apply qei|apply qni|apply qad|apply qln|apply qgt|apply qnt|apply qfr|apply qto)<;>(first|exact rfl|assumption|exact Ar.mk (by omega)|exact dct (by first|assumption|omega)|exact dcf (by first|assumption|omega)|exact List.not_mem_nil|apply dc_length|apply ec_length|apply dl_length|exact nm1 (by omega)|fail))|fail) ?_)
          refine Der.call rfl rfl rfl (vs := [dv (twoI mx W[best])]) (by repeat' (first | exact True.intro | exact rho_of rfl | refine And.intro ?_ ?_)) (fun w _ _ => rnum_spec _ w) ?_
          by_cases hlt2 : num (twoI mx W[j]) < num (twoI mx W[best])
          · have g4 : (num (twoI mx W[j]) : Int) < (num (twoI mx W[best]) : Int) := by omega
            repeat (refine Der.val rfl rfl rfl (by first|((first|apply qmv|apply qas|apply qlc|apply qla|apply qfa|apply qic|apply qix|apply qpk|apply qls|apply qei|apply qni|apply qad|apply qln|apply qgt|apply qnt|apply qfr|apply qto)<;>(first|exact rfl|assumption|exact Ar.mk (by omega)|exact dct (by first|assumption|omega)|exact dcf (by first|assumption|omega)|exact List.not_mem_nil|apply dc_length|apply ec_length|apply dl_length|exact nm1 (by omega)|fail))|fail) ?_)
            refine Der.fin (fun w14 hk14 _ _ => ?_)
            repeat (first|apply CG.seq|apply CG.region|apply SG.nil|apply NG.next|apply CG.skip|apply CG.block|apply CG.ret|apply CG.exit|apply NG.ret_then|apply NG.ret_block|apply NG.exit_then|refine NG.exit_block rfl ?_|apply NG.normal_block|refine SG.val rfl rfl rfl rfl (by first|((first|apply qmv|apply qas|apply qlc|apply qla|apply qfa|apply qic|apply qix|apply qpk|apply qls|apply qei|apply qni|apply qad|apply qln|apply qgt|apply qnt|apply qfr|apply qto)<;>(first|exact rfl|assumption|exact Ar.mk (by omega)|exact dct (by first|assumption|omega)|exact dcf (by first|assumption|omega)|exact List.not_mem_nil|apply dc_length|apply ec_length|apply dl_length|exact nm1 (by omega)|fail))|fail) ?_)
            refine CG.cond_t rfl (by exact rho_of rfl) rfl ?_
            repeat (first|apply CG.seq|apply CG.region|apply SG.nil|apply NG.next|apply CG.skip|apply CG.block|apply CG.ret|apply CG.exit|apply NG.ret_then|apply NG.ret_block|apply NG.exit_then|refine NG.exit_block rfl ?_|apply NG.normal_block|refine SG.val rfl rfl rfl rfl (by first|((first|apply qmv|apply qas|apply qlc|apply qla|apply qfa|apply qic|apply qix|apply qpk|apply qls|apply qei|apply qni|apply qad|apply qln|apply qgt|apply qnt|apply qfr|apply qto)<;>(first|exact rfl|assumption|exact Ar.mk (by omega)|exact dct (by first|assumption|omega)|exact dcf (by first|assumption|omega)|exact List.not_mem_nil|apply dc_length|apply ec_length|apply dl_length|exact nm1 (by omega)|fail))|fail) ?_)
            refine NG.round (j, j + 1) (by (repeat' (first | exact True.intro | exact rfl | refine And.intro ?_ ?_))) ⟨by simp only; omega, by simp only; omega, hk13.trans hk14, fun k h hb hk => ?_, fun k h hb hk => ?_⟩ (by simp only; omega)
            · simp only at hk ⊢
              by_cases e : k = j
              · subst e; exact Nat.le_refl _
              · have := hmin k h hbl (by omega)
                omega
            · simp only at hk ⊢
              have := hmin k h hbl hk
              omega
          · have g4 : ¬ (num (twoI mx W[j]) : Int) < (num (twoI mx W[best]) : Int) := by omega
            repeat (refine Der.val rfl rfl rfl (by first|((first|apply qmv|apply qas|apply qlc|apply qla|apply qfa|apply qic|apply qix|apply qpk|apply qls|apply qei|apply qni|apply qad|apply qln|apply qgt|apply qnt|apply qfr|apply qto)<;>(first|exact rfl|assumption|exact Ar.mk (by omega)|exact dct (by first|assumption|omega)|exact dcf (by first|assumption|omega)|exact List.not_mem_nil|apply dc_length|apply ec_length|apply dl_length|exact nm1 (by omega)|fail))|fail) ?_)
            refine Der.fin (fun w14 hk14 _ _ => ?_)
            repeat (first|apply CG.seq|apply CG.region|apply SG.nil|apply NG.next|apply CG.skip|apply CG.block|apply CG.ret|apply CG.exit|apply NG.ret_then|apply NG.ret_block|apply NG.exit_then|refine NG.exit_block rfl ?_|apply NG.normal_block|refine SG.val rfl rfl rfl rfl (by first|((first|apply qmv|apply qas|apply qlc|apply qla|apply qfa|apply qic|apply qix|apply qpk|apply qls|apply qei|apply qni|apply qad|apply qln|apply qgt|apply qnt|apply qfr|apply qto)<;>(first|exact rfl|assumption|exact Ar.mk (by omega)|exact dct (by first|assumption|omega)|exact dcf (by first|assumption|omega)|exact List.not_mem_nil|apply dc_length|apply ec_length|apply dl_length|exact nm1 (by omega)|fail))|fail) ?_)
            refine CG.cond_f rfl (by exact rho_of rfl) rfl ?_
            repeat (first|apply CG.seq|apply CG.region|apply SG.nil|apply NG.next|apply CG.skip|apply CG.block|apply CG.ret|apply CG.exit|apply NG.ret_then|apply NG.ret_block|apply NG.exit_then|refine NG.exit_block rfl ?_|apply NG.normal_block|refine SG.val rfl rfl rfl rfl (by first|((first|apply qmv|apply qas|apply qlc|apply qla|apply qfa|apply qic|apply qix|apply qpk|apply qls|apply qei|apply qni|apply qad|apply qln|apply qgt|apply qnt|apply qfr|apply qto)<;>(first|exact rfl|assumption|exact Ar.mk (by omega)|exact dct (by first|assumption|omega)|exact dcf (by first|assumption|omega)|exact List.not_mem_nil|apply dc_length|apply ec_length|apply dl_length|exact nm1 (by omega)|fail))|fail) ?_)
            refine NG.round (best, j + 1) (by (repeat' (first | exact True.intro | exact rfl | refine And.intro ?_ ?_))) ⟨by simp only; omega, by simp only; omega, hk13.trans hk14, fun k h hb hk => ?_, fun k h hb hk => hfst k h hb hk⟩ (by simp only; omega)
            simp only at hk ⊢
            by_cases e : k = j
            · subst e; omega
            · exact hmin k h hbl (by omega)
        · have g3 : ¬ (j : Int) < (W.length : Int) := by omega
          have hstep := hsel.step hbl (fun k h => hmin k h hbl (by omega)) (fun k h hk => hfst k h hbl hk)
          have hrb := (hSw.kp0 hk13).row (List.getElem?_eq_getElem hbl)
          have hC := hC.kp0 hk13
          have hro := own_kp0 hro hk13
          have hrw := own_kp0 hrw hk13
          obtain ⟨ao, co, rfl, hco, hSo⟩ := Sl.own dc_length hro rfl
          obtain ⟨-, d1, -, -, -⟩ := dl_rows hC
          have s13 := hk13.size
          repeat (first|apply CG.seq|apply CG.region|apply SG.nil|apply NG.next|apply CG.skip|apply CG.block|apply CG.ret|apply CG.exit|apply NG.ret_then|apply NG.ret_block|apply NG.exit_then|refine NG.exit_block rfl ?_|apply NG.normal_block|refine SG.val rfl rfl rfl rfl (by first|((first|apply qmv|apply qas|apply qlc|apply qla|apply qfa|apply qic|apply qix|apply qpk|apply qls|apply qei|apply qni|apply qad|apply qln|apply qgt|apply qnt|apply qfr|apply qto)<;>(first|exact rfl|assumption|exact Ar.mk (by omega)|exact dct (by first|assumption|omega)|exact dcf (by first|assumption|omega)|exact List.not_mem_nil|apply dc_length|apply ec_length|apply dl_length|exact nm1 (by omega)|fail))|fail) ?_)
          refine CG.cond_f rfl (by exact rho_of rfl) rfl ?_
          repeat (first|apply CG.seq|apply CG.region|apply SG.nil|apply NG.next|apply CG.skip|apply CG.block|apply CG.ret|apply CG.exit|apply NG.ret_then|apply NG.ret_block|apply NG.exit_then|refine NG.exit_block rfl ?_|apply NG.normal_block|refine SG.val rfl rfl rfl rfl (by first|((first|apply qmv|apply qas|apply qlc|apply qla|apply qfa|apply qic|apply qix|apply qpk|apply qls|apply qei|apply qni|apply qad|apply qln|apply qgt|apply qnt|apply qfr|apply qto)<;>(first|exact rfl|assumption|exact Ar.mk (by omega)|exact dct (by first|assumption|omega)|exact dcf (by first|assumption|omega)|exact List.not_mem_nil|apply dc_length|apply ec_length|apply dl_length|exact nm1 (by omega)|fail))|fail) ?_)
          refine CG.free mixed 7 [0, 1, 2, 3, 4, 5, 6] [(6, gS w13.heap.size dc 8 [W[best]])] (by kernel_rfl) (by intro p hp y; simp at hp; rcases hp with rfl; exact gS_stab y) ?_
          repeat (refine DerX.val rfl rfl rfl rfl (by first|((first|apply qmv|apply qas|apply qlc|apply qla|apply qfa|apply qic|apply qix|apply qpk|apply qls|apply qei|apply qni|apply qad|apply qln|apply qgt|apply qnt|apply qfr|apply qto)<;>(first|exact rfl|assumption|exact Ar.mk (by omega)|exact dct (by first|assumption|omega)|exact dcf (by first|assumption|omega)|exact List.not_mem_nil|apply dc_length|apply ec_length|apply dl_length|exact nm1 (by omega)|fail))|fail) ?_)
          refine DerX.buildSlice [W[best]] dc_length rfl rfl rfl rfl rfl rfl (Nat.le_refl _) (fun w => by rw [flt_one]; exact bse8 _ w) (fun a9 c9 => ?_)
          refine DerX.tl (fun w14 hk14 hF => ?_)
          have hS9 : SlF w13.heap.size dc 8 w14 a9 c9 [W[best]] := hF _ (.head _)
          have hro14 := own_kp0 hro hk14
          refine SG.appO (enc := dc) (xs := out) (ys := [W[best]]) (base := w10.heap.size) rfl rfl rfl (by exact rho_of rfl) (by exact rho_of rfl) rfl rfl rfl rfl dc_length dc_one hro14 hS9.sl (by simp only [maxLen, List.length_cons, List.length_nil]; omega) (by show (_ + 1) * 8 ≤ _; omega) (by have := hk14.size; omega) (fun v15 w15 hk15 ho15 hg15 => ?_)
          have hrw15 := own_kp (own_kp0 hrw hk14) hk15 (apart_notin hap)
          have hap15 := Apart.grow hap hg15 (own_kp0 hrw hk14)
          have hC15 := blk_own hro14 (by decide) (hC.kp0 hk14) hk15
          have k15 : Kp [b7] w10 w15 := ((hk12.trans hk13.any).trans hk14.any).trans_new hk15 (own_new hro14 (Nat.le_refl _))
          obtain ⟨a15, c15, rfl, _, _⟩ := Sl.own dc_length ho15 rfl
          repeat (first|apply CG.seq|apply CG.region|apply SG.nil|apply NG.next|apply CG.skip|apply CG.block|apply CG.ret|apply CG.exit|apply NG.ret_then|apply NG.ret_block|apply NG.exit_then|refine NG.exit_block rfl ?_|apply NG.normal_block|refine SG.val rfl rfl rfl rfl (by first|((first|apply qmv|apply qas|apply qlc|apply qla|apply qfa|apply qic|apply qix|apply qpk|apply qls|apply qei|apply qni|apply qad|apply qln|apply qgt|apply qnt|apply qfr|apply qto)<;>(first|exact rfl|assumption|exact Ar.mk (by omega)|exact dct (by first|assumption|omega)|exact dcf (by first|assumption|omega)|exact List.not_mem_nil|apply dc_length|apply ec_length|apply dl_length|exact nm1 (by omega)|fail))|fail) ?_)
          refine SG.store rfl rfl (by exact rho_of rfl) (by exact rho_of rfl) hC15 rfl (by show 8 + 1 ≤ _; simp [dl_length]) rfl (fun w16 hk16 hC16 => ?_)
          have hC16 : Blk w16 b7 (.cells (spl (dl o.rules (.slice ao out.length co) st wi) 8 [.slice a15 (out ++ [W[best]]).length c15]).toArray 39) := hC16
          rw [dl_set1] at hC16
          have ho16 := own_kp ho15 hk16 (own_neb ho15 (by decide) hC15)
          have hrw16 := own_kp hrw15 hk16 (own_neb hrw15 (by decide) hC15)
          have k16 := k15.trans hk16
          have s16 := k16.size
          obtain ⟨_, _, e, _, hSw16⟩ := Sl.own dc_length hrw16 rfl
          cases e
          have hjl : (W.take best).length = best := by rw [List.length_take]; omega
          have hdl : W.length - (best + 1) = (W.drop (best + 1)).length := List.length_drop.symm
          clear hF hS9 hSo hrb d1 hSw hmin hfst
          repeat (first|apply CG.seq|apply CG.region|apply SG.nil|apply NG.next|apply CG.skip|apply CG.block|apply CG.ret|apply CG.exit|apply NG.ret_then|apply NG.ret_block|apply NG.exit_then|refine NG.exit_block rfl ?_|apply NG.normal_block|refine SG.val rfl rfl rfl rfl (by first|((first|apply qmv|apply qas|apply qlc|apply qla|apply qfa|apply qic|apply qix|apply qpk|apply qls|apply qei|apply qni|apply qad|apply qln|apply qgt|apply qnt|apply qfr|apply qto)<;>(first|exact rfl|assumption|exact Ar.mk (by omega)|exact dct (by first|assumption|omega)|exact dcf (by first|assumption|omega)|exact List.not_mem_nil|apply dc_length|apply ec_length|apply dl_length|exact nm1 (by omega)|fail))|fail) ?_)
          refine CG.rows mixed 9 [1, 2, 3, 5, 6, 7, 8, 0, 4] [⟨0, 0, oD w16.heap.size []⟩, ⟨4, 0, oD w16.heap.size ([] ++ W.take best)⟩] (by kernel_rfl) (by kernel_rfl) (by kernel_rfl) (OkL.all (by repeat' (first | exact OkL.nil | refine OkL.cons ?_ ?_ | exact oP_ok | exact bP_ok))) ?_
          repeat (refine DerR.val rfl rfl rfl rfl (by first|((first|apply qmv|apply qas|apply qlc|apply qla|apply qfa|apply qic|apply qix|apply qpk|apply qls|apply qei|apply qni|apply qad|apply qln|apply qgt|apply qnt|apply qfr|apply qto)<;>(first|exact rfl|assumption|exact Ar.mk (by omega)|exact dct (by first|assumption|omega)|exact dcf (by first|assumption|omega)|exact List.not_mem_nil|apply dc_length|apply ec_length|apply dl_length|exact nm1 (by omega)|fail))|fail) ?_)
          refine DerR.val rfl rfl rfl rfl (qfr (j := best + 1) rfl rfl (by omega) ⟨by omega⟩) ?_
          refine DerR.buildO [] dc_length rfl rfl rfl rfl rfl (by repeat' (first | exact OkL.nil | refine OkL.cons ?_ ?_ | exact oP_ok | exact bP_ok)) rfl (Nat.le_refl _) (by simp) bse0 (fun v0 => ?_)
          refine DerR.append (src := 0) [] (W.take best) [(0, [])] dc_length dc_one rfl rfl (by kernel_rfl) ⟨Nat.le_refl _, trivial⟩ rfl rfl rfl (by repeat' (first | exact OkL.nil | refine OkL.cons ?_ ?_ | exact oP_ok | exact bP_ok)) (by exact rho_of rfl) (by exact rho_of rfl) rfl rfl rfl (by simp only [maxLen, List.length_nil]; omega) (by rw [hjl]; show (0 + best) * 8 ≤ _; omega) (Nat.le_refl _) (.head _) (by kernel_rfl) (fun w hk hF => ⟨_, _, by rw [hjl], (hSw16.kp0 hk).take best⟩) (fun v4 => ?_)
          refine DerR.tl (fun w17 V hok hV => ?_)
          have ho4 : w17.ownsRow w16.heap.size 23 8 v4 (W.take best).length (flt dc (W.take best)) := hok.get hV (.head _) rfl
          refine SG.appO (enc := dc) (xs := W.take best) (ys := W.drop (best + 1)) (base := w16.heap.size) rfl rfl rfl (by exact rho_of rfl) (by exact rho_of rfl) hdl rfl rfl rfl dc_length dc_one ho4 (sl_drop (hSw16.kp0 hok.kp) hcw) (by rw [← hdl, hjl]; simp only [maxLen]; omega) (by rw [← hdl, hjl]; show (best + _) * 8 ≤ _; omega) hok.kp.size (fun v18 w18 hk18 ho18 _ => ?_)
          have k18 : Kp [] w16 w18 := hok.kp.trans_new hk18 (own_new ho4 (Nat.le_refl _))
          repeat (first|apply CG.seq|apply CG.region|apply SG.nil|apply NG.next|apply CG.skip|apply CG.block|apply CG.ret|apply CG.exit|apply NG.ret_then|apply NG.ret_block|apply NG.exit_then|refine NG.exit_block rfl ?_|apply NG.normal_block|refine SG.val rfl rfl rfl rfl (by first|((first|apply qmv|apply qas|apply qlc|apply qla|apply qfa|apply qic|apply qix|apply qpk|apply qls|apply qei|apply qni|apply qad|apply qln|apply qgt|apply qnt|apply qfr|apply qto)<;>(first|exact rfl|assumption|exact Ar.mk (by omega)|exact dct (by first|assumption|omega)|exact dcf (by first|assumption|omega)|exact List.not_mem_nil|apply dc_length|apply ec_length|apply dl_length|exact nm1 (by omega)|fail))|fail) ?_)
          refine NG.round ((.slice a15 (out ++ [W[best]]).length c15, out ++ [W[best]]), (v18, W.take best ++ W.drop (best + 1))) (by (repeat' (first | exact True.intro | exact rfl | refine And.intro ?_ ?_))) ⟨k16.trans k18.any, hC16.kp0 k18, own_kp0 ho16 k18, own_mono ho18 s16, apart_new ho16 ho18, hstep⟩ (by simp only [List.length_append]; omega)
      · have g2 : ¬ (0 : Int) < (W.length : Int) := by omega
        have hW : W = [] := List.length_eq_zero_iff.1 (by omega)
        subst hW
        have hout := hsel.done
        obtain ⟨ao, co, rfl, hco, hSo⟩ := Sl.own dc_length hro rfl
        have hrd := Row.all (l := dl o.rules (.slice ao out.length co) st wi) hC rfl
        have hB2 := hB2.kp hk12 (nm1 (by omega))
        repeat (first|apply CG.seq|apply CG.region|apply SG.nil|apply NG.next|apply CG.skip|apply CG.block|apply CG.ret|apply CG.exit|apply NG.ret_then|apply NG.ret_block|apply NG.exit_then|refine NG.exit_block rfl ?_|apply NG.normal_block|refine SG.val rfl rfl rfl rfl (by first|((first|apply qmv|apply qas|apply qlc|apply qla|apply qfa|apply qic|apply qix|apply qpk|apply qls|apply qei|apply qni|apply qad|apply qln|apply qgt|apply qnt|apply qfr|apply qto)<;>(first|exact rfl|assumption|exact Ar.mk (by omega)|exact dct (by first|assumption|omega)|exact dcf (by first|assumption|omega)|exact List.not_mem_nil|apply dc_length|apply ec_length|apply dl_length|exact nm1 (by omega)|fail))|fail) ?_)
        refine CG.cond_f rfl (by exact rho_of rfl) rfl ?_
        repeat (first|apply CG.seq|apply CG.region|apply SG.nil|apply NG.next|apply CG.skip|apply CG.block|apply CG.ret|apply CG.exit|apply NG.ret_then|apply NG.ret_block|apply NG.exit_then|refine NG.exit_block rfl ?_|apply NG.normal_block|refine SG.val rfl rfl rfl rfl (by first|((first|apply qmv|apply qas|apply qlc|apply qla|apply qfa|apply qic|apply qix|apply qpk|apply qls|apply qei|apply qni|apply qad|apply qln|apply qgt|apply qnt|apply qfr|apply qto)<;>(first|exact rfl|assumption|exact Ar.mk (by omega)|exact dct (by first|assumption|omega)|exact dcf (by first|assumption|omega)|exact List.not_mem_nil|apply dc_length|apply ec_length|apply dl_length|exact nm1 (by omega)|fail))|fail) ?_)
        refine SG.setAll (old := dl zd (.slice none 0 0) 0 0) (l := dl o.rules (.slice ao out.length co) st wi) rfl rfl (by exact rho_of rfl) (by exact rho_of rfl) hB2 (dl_length _ _ _ _) (dl_length _ _ _ _) (dl_one _ _ _ _ _ _) (fun wz hkz hBz => ?_)
        have hrz : Row wz b2 0 (dl o.rules (.slice ao out.length co) st wi) := Row.all hBz rfl
        have hoz := own_kp hro hkz (own_neb hro (by decide) hB2)
        repeat (first|apply CG.seq|apply CG.region|apply SG.nil|apply NG.next|apply CG.skip|apply CG.block|apply CG.ret|apply CG.exit|apply NG.ret_then|apply NG.ret_block|apply NG.exit_then|refine NG.exit_block rfl ?_|apply NG.normal_block|refine SG.val rfl rfl rfl rfl (by first|((first|apply qmv|apply qas|apply qlc|apply qla|apply qfa|apply qic|apply qix|apply qpk|apply qls|apply qei|apply qni|apply qad|apply qln|apply qgt|apply qnt|apply qfr|apply qto)<;>(first|exact rfl|assumption|exact Ar.mk (by omega)|exact dct (by first|assumption|omega)|exact dcf (by first|assumption|omega)|exact List.not_mem_nil|apply dc_length|apply ec_length|apply dl_length|exact nm1 (by omega)|fail))|fail) ?_)
        refine ret2 (Or.inl rfl) Try.results14 (ResV.agg rfl rfl hrz (dl_length _ _ _ _)) (by first | exact ResV.tmp rfl | exact ResV.agg rfl rfl (by assumption) (by first | exact dc_length _ | exact nc_length _ | exact rc_length _ _ _ | exact ec_length _ | exact dl_length _ _ _ _ | rfl) | exact ResV.cell rfl rfl (by assumption)) ?_
        rw [e0, hg, ← hout]
        have s6' := k6.size
        exact ⟨_, rfl, ⟨_, rfl, own_mono hoz (by omega)⟩, ((k6.trans k10).trans_new hk12 (new1 (by omega))).trans_new hkz (new1 (by omega))⟩
end Go.Proofs.Ytnoipmimddoioaa
/-
  An element of an owned row is written over.
-/
namespace Go.Proofs.Ytnoipmimddoioaa
set_option linter.unusedVariables false
section
variable {α : Type} {enc : α → List Value} {sz : Nat}
theorem flt_set (he : ∀ x, (enc x).length = sz) (l : List α) (k : Nat) (hk : k < l.length) (x : α) (pre post : List Value) : spl (pre ++ (flt enc l ++ post)) (pre.length + k * sz) (enc x) = pre ++ (flt enc (l.set k x) ++ post) := by
  have h1 : pre ++ (flt enc l ++ post) = (pre ++ flt enc (l.take k)) ++ (enc l[k] ++ (flt enc (l.drop (k + 1)) ++ post)) := by rw [flt_split l k hk]; simp
  have h2 : (pre ++ flt enc (l.take k)).length = pre.length + k * sz := by
    rw [List.length_append, flt_length he, List.length_take, Nat.min_eq_left (by omega)]
  rw [h1, ← h2, spl_mid (by simp [he])]
  rw [List.set_eq_take_append_cons_drop, if_pos hk]
  simp [flt]
theorem own_slice {w : World} {base n : Nat} {T : TypeId} {v : Value} {xs : List Value} (ho : w.ownsRow base T sz v n xs) (hn : 0 < n) : ∃ g cap, v = .slice (some ⟨g, 0, none⟩) n cap ∧ n ≤ cap := by
  rcases ho.2 with ⟨_, h⟩ | ⟨g, cap, cur, h, _, _, h2, _⟩
  · omega
  · exact ⟨g, cap, h, h2⟩
theorem own_at {w : World} {base cap g : Nat} {T : TypeId} {l : List α} {n : Nat} (he : ∀ x, (enc x).length = sz) (ho : w.ownsRow base T sz (.slice (some ⟨g, 0, none⟩) n cap) n (flt enc l)) (hn : l.length = n) {k : Nat} (hk : k < l.length) : Row w g (0 + k * sz) (enc l[k]) := by
  obtain ⟨a, c, h1, _, hS⟩ := Sl.own he ho hn
  cases h1
  exact hS.row (List.getElem?_eq_getElem hk)
/-- One is written over. -/
theorem own_store {P : Program} {w : World} {base cap g n : Nat} {T : TypeId} {inf : TypeInfo} [f : Inf P T inf] {l : List α} (he : ∀ x, (enc x).length = inf.size) (hone : ∀ x, allOne (enc x) = true) (ho : w.ownsRow base T inf.size (.slice (some ⟨g, 0, none⟩) n cap) n (flt enc l)) (hn : l.length = n) {k : Nat} (hk : k < l.length) (x : α) :
    ∃ w', (Instr.storeAt T (.pointer (some ⟨g, 0 + k * inf.size, none⟩)) (.agg (enc x).toArray)).run P w = .ok () w' ∧ w'.ownsRow base T inf.size (.slice (some ⟨g, 0, none⟩) n cap) n (flt enc (l.set k x)) ∧ Kp [g] w w' := by
  rcases ho with ⟨h1, ⟨h2, _⟩ | ⟨g', cap', cur, h2, hb, hg, hc1, hc2, hc3, hc4⟩⟩
  · cases h2
  · cases h2
    have hB : Blk w g (.cells cur T) := hg
    have hlt : k * inf.size + inf.size ≤ n * inf.size := by
      have : (k + 1) * inf.size ≤ n * inf.size := Nat.mul_le_mul_right _ (by omega)
      rwa [Nat.add_mul, Nat.one_mul] at this
    have hle : n * inf.size ≤ cap * inf.size := Nat.mul_le_mul_right _ hc1
    have hcells : (Value.agg (enc x).toArray).cells.toList = enc x := by simp [Value.cells]
    have hrun := run_storeAt (P := P) (T := T) (off := 0 + k * inf.size) (v := .agg (enc x).toArray) hB (by rw [hcells]; exact he x) (by rw [hcells, he x]; omega) (by rw [hcells]; exact hone x)
    rw [hcells] at hrun
    refine ⟨_, hrun, ⟨by rw [flt_length he, List.length_set, hn], Or.inr ⟨g, cap, _, rfl, hb, hB.set _, hc1, hc2, ?_, ?_⟩⟩, Kp.set w hB rfl rfl⟩
    · have := spl_length (cs := cur.toList) (off := 0 + k * inf.size) (l := enc x) (by rw [he x]; simp; omega)
      rw [List.size_toArray, this]
      simpa using hc3
    · have hsplit : cur.toList = [] ++ (flt enc l ++ cur.toList.drop (n * inf.size)) := by
        rw [List.nil_append]
        conv => lhs; rw [← List.take_append_drop (n * inf.size) cur.toList]
        rw [hc4]
      have hset := flt_set he l k hk x [] (cur.toList.drop (n * inf.size))
      rw [← hsplit, List.length_nil, List.nil_append] at hset
      rw [List.toList_toArray, hset]
      refine (List.take_append_of_le_length ?_).trans (List.take_of_length_le ?_)
      · rw [flt_length he, List.length_set, hn]; exact Nat.le_refl _
      · rw [flt_length he, List.length_set, hn]; exact Nat.le_refl _
end
section
variable {P : Program} {α : Type} {enc : α → List Value} {m : Nat} {Q : Exit → Act → World → Prop} {ops rest : List Oper} {L : Env} {w : World} {ty : TypeId} {pos : String} {af : Array Edge} {q : Option (Nat × Bool)}
/-- .. in text order. -/
theorem SG.storeO {base cap g n : Nat} {T : TypeId} {inf : TypeInfo} [f : Inf P T inf] {l : List α} {a x : Operand} {y : α} {k o : Nat} (he : ∀ x, (enc x).length = inf.size) (hone : ∀ x, allOne (enc x) = true) (hw : want ops L ⟨none, .store T a x, ty, pos, af, q⟩ = some true) (hk : (known L a && known L x) = true)
    (ha : rho L a = .pointer (some ⟨g, o, none⟩)) (ho' : o = 0 + k * inf.size) (hx : rho L x = .agg (enc y).toArray) (ho : w.ownsRow base T inf.size (.slice (some ⟨g, 0, none⟩) n cap) n (flt enc l)) (hn : l.length = n) (hkl : k < l.length)
    (h : ∀ w', Kp [g] w w' → w'.ownsRow base T inf.size (.slice (some ⟨g, 0, none⟩) n cap) n (flt enc (l.set k y)) → SG P m ops Q rest L w') : SG P m ops Q (⟨none, .store T a x, ty, pos, af, q⟩ :: rest) L w := by
  subst ho'
  refine SG.op rfl rfl hw (by simpa [Op.operands] using hk) ?_
  obtain ⟨w', h1, h2, h3⟩ := own_store (P := P) he hone ho hn hkl y
  unfold OpRun
  have : (execOp (rho L) ⟨none, .store T a x, ty, pos, af, q⟩).run P w = .ok .skip w' := by
    simp only [execOp, hx, ha, Sem.run_bind, h1, Result.andThen, Sem.run_pure]
  rw [this]
  exact h w' h3 h2
end
end Go.Proofs.Ytnoipmimddoioaa
/-
  LobbyFollows, walked.
-/
namespace Go.Proofs.Ytnoipmimddoioaa
open Go.Proofs Go.Shelf Go.Sort
set_option linter.unusedVariables false

theorem bsh (w : World) : (Instr.buildSlice 25 0 #[]).run Try.prog w = .ok (.slice (some ⟨w.heap.size, 0, none⟩) 0 0) { w with heap := w.heap.push (.cells #[] 24) } := by kernel_rfl
theorem bdl' (w : World) (a0 a1 a2 a3 a4 a5 a6 a7 : UInt8) (x y : Int) : (Instr.build 27 #[(0, .agg #[bv a0, bv a1, bv a2, bv a3, bv a4, bv a5, bv a6, bv a7]), (2, .int .i64 x), (3, .int .i64 y)]).run Try.prog w = .ok (.agg #[bv a0, bv a1, bv a2, bv a3, bv a4, bv a5, bv a6, bv a7, .slice none 0 0, .int .i64 x, .int .i64 y]) w := by kernel_rfl
theorem bdl (r : Dg) (x y : Int) (w : World) : (Instr.build 27 #[(0, dv r), (2, .int .i64 x), (3, .int .i64 y)]).run Try.prog w = .ok (dealV r (.slice none 0 0) x y) w := by
  obtain ⟨l, hl⟩ := r
  match l, hl with
  | [a0, a1, a2, a3, a4, a5, a6, a7], _ => exact bdl' w a0 a1 a2 a3 a4 a5 a6 a7 x y
theorem deal_len (l : List Ofr) : (dealOf l).1.who.length ≤ l.length := by
  cases l with
  | nil => exact Nat.zero_le _
  | cons o r =>
    have e0 : dealOf (o :: r) = if ((o :: r).length : Int) = o.seats then (if (o :: r).all (fun x => decide x.Ok) then (if decide ((o :: r).Pairwise fitP) then (goodDel o.rules (o :: r), 0) else (zDel, 11)) else (zDel, 2)) else (zDel, 3) := rfl
    rw [e0]
    split
    · split
      · split
        · exact Nat.le_of_eq (good_len _ _)
        · exact Nat.zero_le _
      · exact Nat.zero_le _
    · exact Nat.zero_le _
/-- What a deal that answers 0 has. -/
theorem deal_two {l : List Ofr} (h : (dealOf l).2 = 0) : (dealOf l).1.who.length = l.length ∧ (2 : Int) ≤ l.length ∧ (dealOf l).1.who.Nodup := by
  cases l with
  | nil => exact absurd h (by decide)
  | cons o r =>
    have e0 : dealOf (o :: r) = if ((o :: r).length : Int) = o.seats then (if (o :: r).all (fun x => decide x.Ok) then (if decide ((o :: r).Pairwise fitP) then (goodDel o.rules (o :: r), 0) else (zDel, 11)) else (zDel, 2)) else (zDel, 3) := rfl
    rw [e0] at h ⊢
    split at h
    · rename_i h1
      split at h
      · rename_i h2
        split at h
        · rename_i h3
          rw [if_pos h1, if_pos h2, if_pos h3]
          refine ⟨good_len _ _, ?_, ?_⟩
          · have := of_decide_eq_true (List.all_eq_true.1 h2 o (by simp))
            rw [h1]
            exact this.s1
          · show (sortK (kW (mixD (o :: r))) ((o :: r).map (·.who))).Nodup
            rw [(sortK_perm _ _).nodup_iff, List.Nodup, List.pairwise_map]
            exact (of_decide_eq_true h3).imp (fun h => h.1)
        · cases h
      · cases h
    · cases h
theorem followsZ_eq {l : List Ofr} {d : Del} (e : Del) (h : dealOf l = (d, 0)) : followsZ e l = if e = d then 0 else 11 := by
  unfold followsZ
  rw [h, if_pos rfl]
theorem followsZ_bad {l : List Ofr} {d e : Del} {z : Int} (h : dealOf l = (d, z)) (hz : z ≠ 0) : followsZ e l = z := by
  unfold followsZ
  rw [h, if_neg hz]

theorem vals_rem8 {P : Program} {S : List Nat} {w0 : World} {F : World → Prop} {L : Env} {dd : Option Nat} {ty : TypeId} {pos : String} {af : Array Edge} {g : Option (Nat × Bool)} {T T' : TypeId} {x y : Operand} {u : UInt8} {b : Int} (hx : ro L x = some (bv u)) (hy : ro L y = some (.int .u8 b)) (h : 0 < b) :
    Vals P S w0 F L ⟨dd, .binOp .rem T x y T', ty, pos, af, g⟩ (.int .u8 ((u.toNat : Int) % b)) := fun w _ _ => by
  have hb : b ≠ 0 := by omega
  have hx' : rho L x = .int .u8 (u.toNat : Int) := rho_of hx
  simp [execOp, hx', rho_of hy, eqGuard, binOp, Op.intDiv, hb]
  exact Int.tmod_eq_emod_of_nonneg (by omega)
theorem wrap_one (u : UInt8) : IntKind.wrap .u8 ((u.toNat : Int) + 1) = ((u + 1 : UInt8).toNat : Int) := by
  simp [IntKind.wrap, IntKind.signed, IntKind.bits, UInt8.toNat_add]

theorem vals_add8 {P : Program} {S : List Nat} {w0 : World} {F : World → Prop} {L : Env} {dd : Option Nat} {ty : TypeId} {pos : String} {af : Array Edge} {g : Option (Nat × Bool)} {T T' : TypeId} {x y : Operand} {u : UInt8} (hx : ro L x = some (bv u)) (hy : ro L y = some (.int .u8 1)) :
    Vals P S w0 F L ⟨dd, .binOp .add T x y T', ty, pos, af, g⟩ (bv (u + 1)) := fun w _ _ => by
  have hx' : rho L x = .int .u8 (u.toNat : Int) := rho_of hx
  have e : bv (u + 1) = .int .u8 (IntKind.wrap .u8 ((u.toNat : Int) + 1)) := by rw [wrap_one]
  rw [e]
  simp [execOp, hx', rho_of hy, eqGuard, binOp, Op.intArith]
attribute [local irreducible] CG NG SG Vals Der Row Blk MapIs IterAt addI xorI orI andI shlI shrI mulI twoI cmpD cmpW kW digO manyI mixD sortK maxs dealOf nameD DerX
set_option maxHeartbeats 16000000 in
theorem follows_walk (w : World) (a : Option Addr) (n c : Nat) (l0 : List Ofr) (hL : l0.length = n ∧ Sl ec 21 w a l0) (hnc : n ≤ c) (hc : c ≤ maxLen) (wh : UInt8) (nn : Int) : Ret Try.prog 6 #[.slice a n c, bv wh, .int .i64 nn] w (.bool true) := by
  obtain ⟨rfl, hS0⟩ := hL
  refine enter3 Try.func6 rfl Try.ntmps6 rfl ?_
  have m2 : (if (8 : Int) < (l0.length : Int) then (8 : Int) else (l0.length : Int)) = ((l0.take 8).length : Int) := min_take l0 8
  have hS := hS0.take 8
  have hm8 : (l0.take 8).length ≤ 8 := by rw [List.length_take]; omega
  have hm9 : (l0.take 8).length ≤ c := by rw [List.length_take]; omega
  repeat (first|apply CG.seq|apply CG.region|apply SG.nil|apply NG.next|apply CG.skip|apply CG.block|apply CG.ret|apply CG.exit|apply NG.ret_then|apply NG.exit_then|refine NG.exit_block rfl ?_|apply NG.normal_block|refine SG.val rfl rfl rfl rfl (by first|((first|apply qia0|apply qmn|apply qmv|apply qas|apply qlc|apply qla|apply qfa|apply qic|apply qix|apply qpk|apply qls|apply qei|apply qni|apply qad|apply qln|apply qxt|apply qeb|apply qfr|apply qto)<;>(first|exact rfl|assumption|exact Ar.mk (by omega)|exact dct (by first|assumption|omega)|exact dcf (by first|assumption|omega)|exact List.not_mem_nil|apply dc_length|apply ec_length|apply dl_length|exact nm1 (by omega)|fail))|fail) ?_)
  rw [m2]
  generalize l0.take 8 = l at hS hm8 hm9 m2
  have hal := fun w (h : Sl ec 21 w a l) => all_spec (c := c) h 8 (by omega) (by omega)
  rw [List.take_of_length_le hm8] at hal
  have hrof := rof53_spec (c := c) hS (by omega)
  have htw := deal_two (l := l)
  generalize hq : dealOf l = q at hrof htw
  obtain ⟨d, z⟩ := q
  simp only at hrof htw
  repeat (first|apply CG.seq|apply CG.region|apply SG.nil|apply NG.next|apply CG.skip|apply CG.block|apply CG.ret|apply CG.exit|apply NG.ret_then|apply NG.exit_then|refine NG.exit_block rfl ?_|apply NG.normal_block|refine SG.val rfl rfl rfl rfl (by first|((first|apply qia0|apply qmn|apply qmv|apply qas|apply qlc|apply qla|apply qfa|apply qic|apply qix|apply qpk|apply qls|apply qei|apply qni|apply qad|apply qln|apply qxt|apply qeb|apply qfr|apply qto)<;>(first|exact rfl|assumption|exact Ar.mk (by omega)|exact dct (by first|assumption|omega)|exact dcf (by first|assumption|omega)|exact List.not_mem_nil|apply dc_length|apply ec_length|apply dl_length|exact nm1 (by omega)|fail))|fail) ?_)
  refine SG.call rfl rfl rfl (vs := [.slice a l.length c]) (by repeat' (first | exact True.intro | exact rho_of rfl | refine And.intro ?_ ?_)) (hrof.mono (fun e w1 hh => ?_))
  obtain ⟨v1, he, ⟨s1, rfl, ho1⟩, hk1⟩ := hh
  refine ⟨_, he, ?_⟩
  obtain ⟨a1, c1, rfl, _, hD1⟩ := Sl.own dc_length ho1 rfl
  have hdl : d.who.length ≤ 1000000 := by
    have := deal_len l
    rw [hq] at this
    simp only at this
    omega
  repeat (first|apply CG.seq|apply CG.region|apply SG.nil|apply NG.next|apply CG.skip|apply CG.block|apply CG.ret|apply CG.exit|apply NG.ret_then|apply NG.exit_then|refine NG.exit_block rfl ?_|apply NG.normal_block|refine SG.val rfl rfl rfl rfl (by first|((first|apply qia0|apply qmn|apply qmv|apply qas|apply qlc|apply qla|apply qfa|apply qic|apply qix|apply qpk|apply qls|apply qei|apply qni|apply qad|apply qln|apply qxt|apply qeb|apply qfr|apply qto)<;>(first|exact rfl|assumption|exact Ar.mk (by omega)|exact dct (by first|assumption|omega)|exact dcf (by first|assumption|omega)|exact List.not_mem_nil|apply dc_length|apply ec_length|apply dl_length|exact nm1 (by omega)|fail))|fail) ?_)
  refine SG.alloc rfl rfl rfl (fun b7 w2 hk2 hb7 hB7 => ?_)
  refine SG.setAll (l := dl d.rules (.slice a1 d.who.length c1) d.stake d.window) rfl rfl (by exact rho_of rfl) (by exact rho_of rfl) hB7 (dl_length _ _ _ _) rfl (dl_one _ _ _ _ _ _) (fun w3 hk3 hB8 => ?_)
  have hB8 : Blk w3 b7 (.cells (dl d.rules (.slice a1 d.who.length c1) d.stake d.window).toArray 39) := hB8
  have k13 : Kp [] w1 w3 := hk2.trans_new hk3 (new1 (by omega))
  have k3 := hk1.trans k13
  have hD3 := hD1.kp0 k13
  have l7 := hB8.lt
  obtain ⟨r0, r1, r2, r3, -⟩ := dl_rows hB8
  clear hrof ho1 hB7 hD1 hk2 hk3
  repeat (first|apply CG.seq|apply CG.region|apply SG.nil|apply NG.next|apply CG.skip|apply CG.block|apply CG.ret|apply CG.exit|apply NG.ret_then|apply NG.exit_then|refine NG.exit_block rfl ?_|apply NG.normal_block|refine SG.val rfl rfl rfl rfl (by first|((first|apply qia0|apply qmn|apply qmv|apply qas|apply qlc|apply qla|apply qfa|apply qic|apply qix|apply qpk|apply qls|apply qei|apply qni|apply qad|apply qln|apply qxt|apply qeb|apply qfr|apply qto)<;>(first|exact rfl|assumption|exact Ar.mk (by omega)|exact dct (by first|assumption|omega)|exact dcf (by first|assumption|omega)|exact List.not_mem_nil|apply dc_length|apply ec_length|apply dl_length|exact nm1 (by omega)|fail))|fail) ?_)
  refine SG.val rfl rfl rfl rfl (vals_build rfl (bdl d.rules d.stake d.window)) ?_
  refine SG.alloc rfl rfl rfl (fun b9 w4 hk4 hb9 hB9 => ?_)
  refine SG.setAll (l := dl d.rules (.slice none 0 0) d.stake d.window) rfl rfl (by exact rho_of rfl) (by exact rho_of rfl) hB9 (dl_length _ _ _ _) rfl (dl_one _ _ _ _ _ _) (fun w5 hk5 hB10 => ?_)
  have hB10 : Blk w5 b9 (.cells (dl d.rules (.slice none 0 0) d.stake d.window).toArray 27) := hB10
  have k35 : Kp [] w3 w5 := hk4.trans_new hk5 (new1 (by omega))
  have s5 := k35.size
  have l9 := hB10.lt
  clear r0 r1 r2 r3
  repeat (first|apply CG.seq|apply CG.region|apply SG.nil|apply NG.next|apply CG.skip|apply CG.block|apply CG.ret|apply CG.exit|apply NG.ret_then|apply NG.exit_then|refine NG.exit_block rfl ?_|apply NG.normal_block|refine SG.val rfl rfl rfl rfl (by first|((first|apply qia0|apply qmn|apply qmv|apply qas|apply qlc|apply qla|apply qfa|apply qic|apply qix|apply qpk|apply qls|apply qei|apply qni|apply qad|apply qln|apply qxt|apply qeb|apply qfr|apply qto)<;>(first|exact rfl|assumption|exact Ar.mk (by omega)|exact dct (by first|assumption|omega)|exact dcf (by first|assumption|omega)|exact List.not_mem_nil|apply dc_length|apply ec_length|apply dl_length|exact nm1 (by omega)|fail))|fail) ?_)
  refine CG.loop (X := Value × Nat) (fun x => [(0, .slice a l.length c), (1, bv wh), (2, .int .i64 nn), (7, .pointer (some ⟨b7, 0, none⟩)), (8, .int .i64 z), (9, .pointer (some ⟨b9, 0, none⟩)), (10, .int .i64 (x.2 : Int))])
    (fun x w' => x.2 ≤ d.who.length ∧ Kp [] w3 w' ∧ w5.heap.size ≤ w'.heap.size ∧ Blk w' b9 (.cells (dl d.rules x.1 d.stake d.window).toArray 27) ∧ w'.ownsRow w3.heap.size 24 8 x.1 (d.who.take x.2).length (flt dc (d.who.take x.2))) (fun x => d.who.length - x.2) (.slice none 0 0, 0) ⟨by simp only; omega, k35, Nat.le_refl _, hB10, own_nil⟩ (by (repeat' (first | exact True.intro | exact rfl | refine And.intro ?_ ?_))) ?_
  rintro ⟨v, i⟩ w6 ⟨hi, k6, s6, hB11, ho⟩
  simp only at hi hB11 ho
  refine CG.to [(0, .slice a l.length c), (1, bv wh), (2, .int .i64 nn), (7, .pointer (some ⟨b7, 0, none⟩)), (8, .int .i64 z), (9, .pointer (some ⟨b9, 0, none⟩)), (10, .int .i64 (i : Int))] (by (repeat' (first | exact True.intro | exact rfl | refine And.intro ?_ ?_))) ?_
  have hlen : (d.who.take i).length = i := by rw [List.length_take]; omega
  obtain ⟨av, cv, rfl, hcv, hSv⟩ := Sl.own dc_length ho rfl
  obtain ⟨r0, r1, r2, r3, -⟩ := dl_rows (hB8.kp0 k6)
  obtain ⟨p0, p1, p2, p3, p4⟩ := dl_rows hB11
  by_cases hlt : i < d.who.length
  · have g1 : (i : Int) < (d.who.length : Int) := by omega
    obtain ⟨bz, oz, rfl, hrz⟩ := (hD3.kp0 k6).at hlt
    repeat (first | first|apply CG.seq|apply CG.region|apply SG.nil|apply NG.next|apply CG.skip|apply CG.block|apply CG.ret|apply CG.exit|apply NG.ret_then|apply NG.exit_then|refine NG.exit_block rfl ?_|apply NG.normal_block|refine SG.val rfl rfl rfl rfl (by first|((first|apply qia0|apply qmn|apply qmv|apply qas|apply qlc|apply qla|apply qfa|apply qic|apply qix|apply qpk|apply qls|apply qei|apply qni|apply qad|apply qln|apply qxt|apply qeb|apply qfr|apply qto)<;>(first|exact rfl|assumption|exact Ar.mk (by omega)|exact dct (by first|assumption|omega)|exact dcf (by first|assumption|omega)|exact List.not_mem_nil|apply dc_length|apply ec_length|apply dl_length|exact nm1 (by omega)|fail))|fail) ?_ | refine SG.skip rfl rfl ?_)
    refine CG.cond_t rfl (by exact rho_of rfl) rfl ?_
    repeat (first|apply CG.seq|apply CG.region|apply SG.nil|apply NG.next|apply CG.skip|apply CG.block|apply CG.ret|apply CG.exit|apply NG.ret_then|apply NG.exit_then|refine NG.exit_block rfl ?_|apply NG.normal_block|refine SG.val rfl rfl rfl rfl (by first|((first|apply qia0|apply qmn|apply qmv|apply qas|apply qlc|apply qla|apply qfa|apply qic|apply qix|apply qpk|apply qls|apply qei|apply qni|apply qad|apply qln|apply qxt|apply qeb|apply qfr|apply qto)<;>(first|exact rfl|assumption|exact Ar.mk (by omega)|exact dct (by first|assumption|omega)|exact dcf (by first|assumption|omega)|exact List.not_mem_nil|apply dc_length|apply ec_length|apply dl_length|exact nm1 (by omega)|fail))|fail) ?_)
    refine CG.free mixed 8 [0, 1, 2, 3, 4, 5, 6, 7] [(7, gS w6.heap.size dc 8 [d.who[i]])] (by kernel_rfl) (by intro p hp y; simp at hp; rcases hp with rfl; exact gS_stab y) ?_
    repeat (refine DerX.val rfl rfl rfl rfl (by first|((first|apply qia0|apply qmn|apply qmv|apply qas|apply qlc|apply qla|apply qfa|apply qic|apply qix|apply qpk|apply qls|apply qei|apply qni|apply qad|apply qln|apply qxt|apply qeb|apply qfr|apply qto)<;>(first|exact rfl|assumption|exact Ar.mk (by omega)|exact dct (by first|assumption|omega)|exact dcf (by first|assumption|omega)|exact List.not_mem_nil|apply dc_length|apply ec_length|apply dl_length|exact nm1 (by omega)|fail))|fail) ?_)
    refine DerX.buildSlice [d.who[i]] dc_length rfl rfl rfl rfl rfl rfl (Nat.le_refl _) (fun w => by rw [flt_one]; exact bsg d.who[i] w) (fun a9 c9 => ?_)
    refine DerX.tl (fun w7 hk7 hF => ?_)
    have hS9 : SlF w6.heap.size dc 8 w7 a9 c9 [d.who[i]] := hF _ (.head _)
    have ho7 := own_kp0 ho hk7
    refine SG.appO (enc := dc) (xs := d.who.take i) (ys := [d.who[i]]) (base := w3.heap.size) rfl rfl rfl (by exact rho_of rfl) (by exact rho_of rfl) rfl rfl rfl rfl dc_length dc_one ho7 hS9.sl (by rw [hlen]; simp only [maxLen, List.length_cons, List.length_nil]; omega) (by rw [hlen]; show (i + 1) * 8 ≤ _; omega) (k6.trans hk7).size (fun v8 w8 hk8 ho8 _ => ?_)
    rw [← List.take_succ_eq_append_getElem hlt] at ho8
    have hBb := blk_own ho7 (by decide) (hB11.kp0 hk7) hk8
    have k8 : Kp [] w3 w8 := (k6.trans hk7).trans_new hk8 (own_new ho7 (Nat.le_refl _))
    obtain ⟨a8, c8, rfl, _, _⟩ := Sl.own dc_length ho8 rfl
    repeat (first|apply CG.seq|apply CG.region|apply SG.nil|apply NG.next|apply CG.skip|apply CG.block|apply CG.ret|apply CG.exit|apply NG.ret_then|apply NG.exit_then|refine NG.exit_block rfl ?_|apply NG.normal_block|refine SG.val rfl rfl rfl rfl (by first|((first|apply qia0|apply qmn|apply qmv|apply qas|apply qlc|apply qla|apply qfa|apply qic|apply qix|apply qpk|apply qls|apply qei|apply qni|apply qad|apply qln|apply qxt|apply qeb|apply qfr|apply qto)<;>(first|exact rfl|assumption|exact Ar.mk (by omega)|exact dct (by first|assumption|omega)|exact dcf (by first|assumption|omega)|exact List.not_mem_nil|apply dc_length|apply ec_length|apply dl_length|exact nm1 (by omega)|fail))|fail) ?_)
    refine SG.store rfl rfl (by exact rho_of rfl) (by exact rho_of rfl) hBb rfl (by show 8 + 1 ≤ _; simp [dl_length]) rfl (fun w9 hk9 hBc => ?_)
    have ho9 := own_kp ho8 hk9 (own_neb ho8 (by decide) hBb)
    have hBc : Blk w9 b9 (.cells (spl (dl d.rules (.slice av (d.who.take i).length cv) d.stake d.window) 8 [.slice a8 (d.who.take (i + 1)).length c8]).toArray 27) := hBc
    rw [dl_set1] at hBc
    have z1 := hk7.size
    have z2 := hk8.size
    have z3 := hk9.size
    repeat (first|apply CG.seq|apply CG.region|apply SG.nil|apply NG.next|apply CG.skip|apply CG.block|apply CG.ret|apply CG.exit|apply NG.ret_then|apply NG.exit_then|refine NG.exit_block rfl ?_|apply NG.normal_block|refine SG.val rfl rfl rfl rfl (by first|((first|apply qia0|apply qmn|apply qmv|apply qas|apply qlc|apply qla|apply qfa|apply qic|apply qix|apply qpk|apply qls|apply qei|apply qni|apply qad|apply qln|apply qxt|apply qeb|apply qfr|apply qto)<;>(first|exact rfl|assumption|exact Ar.mk (by omega)|exact dct (by first|assumption|omega)|exact dcf (by first|assumption|omega)|exact List.not_mem_nil|apply dc_length|apply ec_length|apply dl_length|exact nm1 (by omega)|fail))|fail) ?_)
    refine NG.round (.slice a8 (d.who.take (i + 1)).length c8, i + 1) (by (repeat' (first | exact True.intro | exact rfl | refine And.intro ?_ ?_))) ⟨by simp only; omega, k8.trans_new hk9 (new1 (by omega)), by omega, hBc, ho9⟩ (by simp only; omega)
  · have g1 : ¬ (i : Int) < (d.who.length : Int) := by omega
    rw [List.take_of_length_le (by omega)] at ho hB11 hSv p4 p1 ⊢
    have kw6 := k3.trans k6
    have hSl := hS.kp0 kw6
    have hfo := fun w (a' a2 : Option Addr) (c' c2 : Nat) (e : Del) (h1 : Sl dc 8 w a' e.who) (he : e.who.length ≤ 1000000) (h2 : Sl ec 21 w a2 l) (hc : l.length ≤ c2) => follows_spec (c := c') (c' := c2) e h1 he h2 (by omega) hc
    repeat (first | first|apply CG.seq|apply CG.region|apply SG.nil|apply NG.next|apply CG.skip|apply CG.block|apply CG.ret|apply CG.exit|apply NG.ret_then|apply NG.exit_then|refine NG.exit_block rfl ?_|apply NG.normal_block|refine SG.val rfl rfl rfl rfl (by first|((first|apply qia0|apply qmn|apply qmv|apply qas|apply qlc|apply qla|apply qfa|apply qic|apply qix|apply qpk|apply qls|apply qei|apply qni|apply qad|apply qln|apply qxt|apply qeb|apply qfr|apply qto)<;>(first|exact rfl|assumption|exact Ar.mk (by omega)|exact dct (by first|assumption|omega)|exact dcf (by first|assumption|omega)|exact List.not_mem_nil|apply dc_length|apply ec_length|apply dl_length|exact nm1 (by omega)|fail))|fail) ?_ | refine SG.skip rfl rfl ?_)
    refine CG.cond_f rfl (by exact rho_of rfl) rfl ?_
    clear r0 r1 r2 r3 p0 p1 p2 p3
    by_cases hz : z = 0
    rotate_left
    · have hzz : z = z := rfl
      have hbad := followsZ_bad (e := d) hq hz
      repeat (first|apply CG.seq|apply CG.region|apply SG.nil|apply NG.next|apply CG.skip|apply CG.block|apply CG.ret|apply CG.exit|apply NG.ret_then|apply NG.exit_then|refine NG.exit_block rfl ?_|apply NG.normal_block|refine SG.val rfl rfl rfl rfl (by first|((first|apply qia0|apply qmn|apply qmv|apply qas|apply qlc|apply qla|apply qfa|apply qic|apply qix|apply qpk|apply qls|apply qei|apply qni|apply qad|apply qln|apply qxt|apply qeb|apply qfr|apply qto)<;>(first|exact rfl|assumption|exact Ar.mk (by omega)|exact dct (by first|assumption|omega)|exact dcf (by first|assumption|omega)|exact List.not_mem_nil|apply dc_length|apply ec_length|apply dl_length|exact nm1 (by omega)|fail))|fail) ?_)
      refine CG.cond_t rfl (by exact rho_of rfl) rfl ?_
      repeat (first|apply CG.seq|apply CG.region|apply SG.nil|apply NG.next|apply CG.skip|apply CG.block|apply CG.ret|apply CG.exit|apply NG.ret_then|apply NG.exit_then|refine NG.exit_block rfl ?_|apply NG.normal_block|refine SG.val rfl rfl rfl rfl (by first|((first|apply qia0|apply qmn|apply qmv|apply qas|apply qlc|apply qla|apply qfa|apply qic|apply qix|apply qpk|apply qls|apply qei|apply qni|apply qad|apply qln|apply qxt|apply qeb|apply qfr|apply qto)<;>(first|exact rfl|assumption|exact Ar.mk (by omega)|exact dct (by first|assumption|omega)|exact dcf (by first|assumption|omega)|exact List.not_mem_nil|apply dc_length|apply ec_length|apply dl_length|exact nm1 (by omega)|fail))|fail) ?_)
      refine CG.draw0 mixed [0, 1, 2, 3, 6, 4, 5, 7, 8, 9] [4] (by kernel_rfl) ?_
      refine Der.call (vs := []) rfl rfl rfl (by repeat' (first | exact True.intro | exact rho_of rfl | refine And.intro ?_ ?_)) (fun w hk _ => known_spec w) ?_
      repeat (first | refine Der.val rfl rfl rfl (by first|((first|apply qia0|apply qmn|apply qmv|apply qas|apply qlc|apply qla|apply qfa|apply qic|apply qix|apply qpk|apply qls|apply qei|apply qni|apply qad|apply qln|apply qxt|apply qeb|apply qfr|apply qto)<;>(first|exact rfl|assumption|exact Ar.mk (by omega)|exact dct (by first|assumption|omega)|exact dcf (by first|assumption|omega)|exact List.not_mem_nil|apply dc_length|apply ec_length|apply dl_length|exact nm1 (by omega)|fail))|fail) ?_ | refine Der.skip rfl rfl ?_)
      refine Der.callG (X := Option Addr × Nat) (vs := [.slice a l.length c, .int .i64 8]) (fun q => .slice q.1 l.length q.2) (fun q w => Sl ec 21 w q.1 l ∧ l.length ≤ q.2) rfl rfl rfl rfl (by repeat' (first | exact True.intro | exact rho_of rfl | refine And.intro ?_ ?_)) (fun q w w' hk hq => ⟨hq.1.kp0 hk, hq.2⟩) (fun _ _ _ h => h) (fun w hk _ => (hal w (hSl.kp0 hk)).mono (fun z w' ⟨v, he, ho, hk'⟩ => ?_)) (fun q' => ?_)
      · obtain ⟨a9, c9, rfl, hc9, hS9⟩ := Sl.own ec_length ho rfl
        exact ⟨(a9, c9), he, ⟨hS9, hc9⟩, hk'⟩
      refine Der.call (vs := [dealV d.rules (.slice av d.who.length cv) d.stake d.window, .slice q'.1 l.length q'.2]) rfl rfl rfl (by repeat' (first | exact True.intro | exact rho_of rfl | refine And.intro ?_ ?_)) (fun w hk hF => hfo w _ _ _ _ d (hSv.kp0 hk) hdl hF.2.1 hF.2.2) ?_
      rw [hbad]
      repeat (first | refine Der.val rfl rfl rfl (by first|((first|apply qia0|apply qmn|apply qmv|apply qas|apply qlc|apply qla|apply qfa|apply qic|apply qix|apply qpk|apply qls|apply qei|apply qni|apply qad|apply qln|apply qxt|apply qeb|apply qfr|apply qto)<;>(first|exact rfl|assumption|exact Ar.mk (by omega)|exact dct (by first|assumption|omega)|exact dcf (by first|assumption|omega)|exact List.not_mem_nil|apply dc_length|apply ec_length|apply dl_length|exact nm1 (by omega)|fail))|fail) ?_ | refine Der.skip rfl rfl ?_)
      refine Der.fin (fun w8 hk8 _ _ => ?_)
      repeat (first|apply CG.seq|apply CG.region|apply SG.nil|apply NG.next|apply CG.skip|apply CG.block|apply CG.ret|apply CG.exit|apply NG.ret_then|apply NG.exit_then|refine NG.exit_block rfl ?_|apply NG.normal_block|refine SG.val rfl rfl rfl rfl (by first|((first|apply qia0|apply qmn|apply qmv|apply qas|apply qlc|apply qla|apply qfa|apply qic|apply qix|apply qpk|apply qls|apply qei|apply qni|apply qad|apply qln|apply qxt|apply qeb|apply qfr|apply qto)<;>(first|exact rfl|assumption|exact Ar.mk (by omega)|exact dct (by first|assumption|omega)|exact dcf (by first|assumption|omega)|exact List.not_mem_nil|apply dc_length|apply ec_length|apply dl_length|exact nm1 (by omega)|fail))|fail) ?_)
      refine ret1 (Or.inl rfl) Try.results6 (by first | exact ResV.tmp rfl | exact ResV.agg rfl rfl (by assumption) (by first | exact dc_length _ | exact nc_length _ | exact rc_length _ _ _ | exact ec_length _ | exact dl_length _ _ _ _ | rfl) | exact ResV.cell rfl rfl (by assumption)) ?_
      exact ⟨rfl, kw6.trans hk8⟩
    · subst hz
      obtain ⟨hw1, hw2, hnd⟩ := htw rfl
      have hw3 : 2 ≤ d.who.length := by omega
      have h00 : (0 : Int) = 0 := rfl
      repeat (first|apply CG.seq|apply CG.region|apply SG.nil|apply NG.next|apply CG.skip|apply CG.block|apply CG.ret|apply CG.exit|apply NG.ret_then|apply NG.exit_then|refine NG.exit_block rfl ?_|apply NG.normal_block|refine SG.val rfl rfl rfl rfl (by first|((first|apply qia0|apply qmn|apply qmv|apply qas|apply qlc|apply qla|apply qfa|apply qic|apply qix|apply qpk|apply qls|apply qei|apply qni|apply qad|apply qln|apply qxt|apply qeb|apply qfr|apply qto)<;>(first|exact rfl|assumption|exact Ar.mk (by omega)|exact dct (by first|assumption|omega)|exact dcf (by first|assumption|omega)|exact List.not_mem_nil|apply dc_length|apply ec_length|apply dl_length|exact nm1 (by omega)|fail))|fail) ?_)
      refine CG.cond_f rfl (by exact rho_of rfl) rfl ?_
      repeat (first|apply CG.seq|apply CG.region|apply SG.nil|apply NG.next|apply CG.skip|apply CG.block|apply CG.ret|apply CG.exit|apply NG.ret_then|apply NG.exit_then|refine NG.exit_block rfl ?_|apply NG.normal_block|refine SG.val rfl rfl rfl rfl (by first|((first|apply qia0|apply qmn|apply qmv|apply qas|apply qlc|apply qla|apply qfa|apply qic|apply qix|apply qpk|apply qls|apply qei|apply qni|apply qad|apply qln|apply qxt|apply qeb|apply qfr|apply qto)<;>(first|exact rfl|assumption|exact Ar.mk (by omega)|exact dct (by first|assumption|omega)|exact dcf (by first|assumption|omega)|exact List.not_mem_nil|apply dc_length|apply ec_length|apply dl_length|exact nm1 (by omega)|fail))|fail) ?_)
      refine SG.alloc rfl rfl rfl (fun b11 w7 hk7 hb11 hB12 => ?_)
      refine SG.setAll (l := dl d.rules (.slice av d.who.length cv) d.stake d.window) rfl rfl (by exact rho_of rfl) (by exact rho_of rfl) hB12 (dl_length _ _ _ _) rfl (dl_one _ _ _ _ _ _) (fun w8 hk8 hB13 => ?_)
      have hB13 : Blk w8 b11 (.cells (dl d.rules (.slice av d.who.length cv) d.stake d.window).toArray 27) := hB13
      have k68 : Kp [] w6 w8 := hk7.trans_new hk8 (new1 (by omega))
      have l9' := hB11.lt
      have l11 := hB13.lt
      have s8 := k68.size
      obtain ⟨-, p1, p2, p3, p4⟩ := dl_rows (hB11.kp0 k68)
      clear hB12 hk7 hk8 p4
      repeat (first|apply CG.seq|apply CG.region|apply SG.nil|apply NG.next|apply CG.skip|apply CG.block|apply CG.ret|apply CG.exit|apply NG.ret_then|apply NG.exit_then|refine NG.exit_block rfl ?_|apply NG.normal_block|refine SG.val rfl rfl rfl rfl (by first|((first|apply qia0|apply qmn|apply qmv|apply qas|apply qlc|apply qla|apply qfa|apply qic|apply qix|apply qpk|apply qls|apply qei|apply qni|apply qad|apply qln|apply qxt|apply qeb|apply qfr|apply qto)<;>(first|exact rfl|assumption|exact Ar.mk (by omega)|exact dct (by first|assumption|omega)|exact dcf (by first|assumption|omega)|exact List.not_mem_nil|apply dc_length|apply ec_length|apply dl_length|exact nm1 (by omega)|fail))|fail) ?_)
      refine SG.buildSlice rfl rfl rfl rfl bsh (fun b12 w9 hk9 hb12 hB14 => ?_)
      have ho0 : w9.ownsRow w8.heap.size 24 8 (.slice (some ⟨b12, 0, none⟩) 0 0) ([] : List Dg).length (flt dc []) := own_made dc_length hB14 hb12 rfl (by simp [maxLen])
      have p1 := p1.kp0 hk9
      repeat (first|apply CG.seq|apply CG.region|apply SG.nil|apply NG.next|apply CG.skip|apply CG.block|apply CG.ret|apply CG.exit|apply NG.ret_then|apply NG.exit_then|refine NG.exit_block rfl ?_|apply NG.normal_block|refine SG.val rfl rfl rfl rfl (by first|((first|apply qia0|apply qmn|apply qmv|apply qas|apply qlc|apply qla|apply qfa|apply qic|apply qix|apply qpk|apply qls|apply qei|apply qni|apply qad|apply qln|apply qxt|apply qeb|apply qfr|apply qto)<;>(first|exact rfl|assumption|exact Ar.mk (by omega)|exact dct (by first|assumption|omega)|exact dcf (by first|assumption|omega)|exact List.not_mem_nil|apply dc_length|apply ec_length|apply dl_length|exact nm1 (by omega)|fail))|fail) ?_)
      refine SG.appO (enc := dc) (xs := []) (ys := d.who) (base := w8.heap.size) rfl rfl rfl (by exact rho_of rfl) (by exact rho_of rfl) rfl rfl rfl rfl dc_length dc_one ho0 ((hSv.kp0 k68).kp0 hk9) (by simp only [maxLen, List.length_nil]; omega) (by show (0 + _) * 8 ≤ _; omega) hk9.size (fun v13 w10 hk10 ho13 _ => ?_)
      have k810 : Kp [] w8 w10 := hk9.trans_new hk10 (own_new ho0 (Nat.le_refl _))
      rw [List.nil_append] at ho13
      obtain ⟨g, cap, rfl, hcap⟩ := own_slice ho13 (by omega)
      have hBc := hB13.kp0 k810
      have s10 := k810.size
      have lg := own_lt ho13 g rfl
      have hgb : w8.heap.size ≤ g := by
        rcases ho13.2 with ⟨h, _⟩ | ⟨g', cap', cu, h, hb, _⟩
        · cases h
        · cases h; exact hb
      repeat (first|apply CG.seq|apply CG.region|apply SG.nil|apply NG.next|apply CG.skip|apply CG.block|apply CG.ret|apply CG.exit|apply NG.ret_then|apply NG.exit_then|refine NG.exit_block rfl ?_|apply NG.normal_block|refine SG.val rfl rfl rfl rfl (by first|((first|apply qia0|apply qmn|apply qmv|apply qas|apply qlc|apply qla|apply qfa|apply qic|apply qix|apply qpk|apply qls|apply qei|apply qni|apply qad|apply qln|apply qxt|apply qeb|apply qfr|apply qto)<;>(first|exact rfl|assumption|exact Ar.mk (by omega)|exact dct (by first|assumption|omega)|exact dcf (by first|assumption|omega)|exact List.not_mem_nil|apply dc_length|apply ec_length|apply dl_length|exact nm1 (by omega)|fail))|fail) ?_)
      refine SG.store rfl rfl (by exact rho_of rfl) (by exact rho_of rfl) hBc rfl (by show 8 + 1 ≤ _; simp [dl_length]) rfl (fun w11 hk11 hC => ?_)
      have hC : Blk w11 b11 (.cells (spl (dl d.rules (.slice av d.who.length cv) d.stake d.window) 8 [.slice (some ⟨g, 0, none⟩) d.who.length cap]).toArray 27) := hC
      rw [dl_set1] at hC
      have hor := own_kp ho13 hk11 (own_neb ho13 (by decide) hBc)
      have k611 : Kp [] w6 w11 := (k68.trans k810).trans_new hk11 (new1 (by omega))
      have s11 := hk11.size
      obtain ⟨_, _, ee, _, hSc⟩ := Sl.own dc_length hor rfl
      cases ee
      have hB9' := (hB11.kp0 (k68.trans k810)).kp hk11 (nm1 (by omega))
      obtain ⟨-, p1, p2, p3, -⟩ := dl_rows hB9'
      obtain ⟨u0, u1, u2, u3, -⟩ := dl_rows hC
      clear hB13 hB14 hBc ho0 ho13 hB11 hk9 hk10 hk11
      repeat (first|apply CG.seq|apply CG.region|apply SG.nil|apply NG.next|apply CG.skip|apply CG.block|apply CG.ret|apply CG.exit|apply NG.ret_then|apply NG.exit_then|refine NG.exit_block rfl ?_|apply NG.normal_block|refine SG.val rfl rfl rfl rfl (by first|((first|apply qia0|apply qmn|apply qmv|apply qas|apply qlc|apply qla|apply qfa|apply qic|apply qix|apply qpk|apply qls|apply qei|apply qni|apply qad|apply qln|apply qxt|apply qeb|apply qfr|apply qto)<;>(first|exact rfl|assumption|exact Ar.mk (by omega)|exact dct (by first|assumption|omega)|exact dcf (by first|assumption|omega)|exact List.not_mem_nil|apply dc_length|apply ec_length|apply dl_length|exact nm1 (by omega)|fail))|fail) ?_)
      refine SG.val rfl rfl rfl rfl (vals_rem8 rfl rfl (by decide)) ?_
      have hK0 : 0 ≤ (wh.toNat : Int) % 5 := by omega
      have hK5 : (wh.toNat : Int) % 5 < 5 := by omega
      generalize (wh.toNat : Int) % 5 = K at hK0 hK5
      apply SG.nil
      apply NG.next
      refine CG.cut_then (fun L w' => ∃ (e : Del) (ae : Option Addr) (ce : Nat) (q : Bool), SubE [(0, .slice a l.length c), (9, .pointer (some ⟨b9, 0, none⟩)), (11, .pointer (some ⟨b11, 0, none⟩)), (12, .bool q)] L ∧ Kp [] w6 w' ∧ Blk w' b11 (.cells (dl e.rules (.slice ae e.who.length ce) e.stake e.window).toArray 27) ∧ Sl dc 8 w' ae e.who ∧ e.who.length ≤ 100 ∧ q = decide (e = d) ∧ Blk w' b9 (.cells (dl d.rules (.slice av d.who.length cv) d.stake d.window).toArray 27)) ?_ ?_
      · have hcase : K = 0 ∨ K = 1 ∨ K = 2 ∨ K = 3 ∨ K = 4 := by omega
        have n10 : ¬ (1 : Int) = 0 := by decide
        have n20 : ¬ (2 : Int) = 0 := by decide
        have n30 : ¬ (3 : Int) = 0 := by decide
        have n40 : ¬ (4 : Int) = 0 := by decide
        have n21 : ¬ (2 : Int) = 1 := by decide
        have n31 : ¬ (3 : Int) = 1 := by decide
        have n41 : ¬ (4 : Int) = 1 := by decide
        have n32 : ¬ (3 : Int) = 2 := by decide
        have n42 : ¬ (4 : Int) = 2 := by decide
        have n43 : ¬ (4 : Int) = 3 := by decide
        have e11 : (1 : Int) = 1 := rfl
        have e22 : (2 : Int) = 2 := rfl
        have e33 : (3 : Int) = 3 := rfl
        have e44 : (4 : Int) = 4 := rfl
        have hgS : ∀ b off, (some (⟨g, 0, none⟩ : Addr)) = some ⟨b, off, none⟩ → b ∉ [b11] := fun b off h hm => by
          cases h
          rw [List.mem_singleton] at hm
          omega
        rcases hcase with rfl | rfl | rfl | rfl | rfl
        · by_cases hn : nn = d.stake
          all_goals
            repeat (first|apply CG.seq|apply CG.region|apply SG.nil|apply NG.next|apply CG.skip|apply CG.block|apply CG.ret|apply CG.exit|apply NG.ret_then|apply NG.exit_then|refine NG.exit_block rfl ?_|apply NG.normal_block|refine SG.val rfl rfl rfl rfl (by first|((first|apply qia0|apply qmn|apply qmv|apply qas|apply qlc|apply qla|apply qfa|apply qic|apply qix|apply qpk|apply qls|apply qei|apply qni|apply qad|apply qln|apply qxt|apply qeb|apply qfr|apply qto)<;>(first|exact rfl|assumption|exact Ar.mk (by omega)|exact dct (by first|assumption|omega)|exact dcf (by first|assumption|omega)|exact List.not_mem_nil|apply dc_length|apply ec_length|apply dl_length|exact nm1 (by omega)|fail))|fail) ?_)
            refine CG.cond_t rfl (by exact rho_of rfl) rfl ?_
            repeat (first|apply CG.seq|apply CG.region|apply SG.nil|apply NG.next|apply CG.skip|apply CG.block|apply CG.ret|apply CG.exit|apply NG.ret_then|apply NG.exit_then|refine NG.exit_block rfl ?_|apply NG.normal_block|refine SG.val rfl rfl rfl rfl (by first|((first|apply qia0|apply qmn|apply qmv|apply qas|apply qlc|apply qla|apply qfa|apply qic|apply qix|apply qpk|apply qls|apply qei|apply qni|apply qad|apply qln|apply qxt|apply qeb|apply qfr|apply qto)<;>(first|exact rfl|assumption|exact Ar.mk (by omega)|exact dct (by first|assumption|omega)|exact dcf (by first|assumption|omega)|exact List.not_mem_nil|apply dc_length|apply ec_length|apply dl_length|exact nm1 (by omega)|fail))|fail) ?_)
            refine CG.tailg mixed 7 [0, 1, 2, 3, 4, 5, 6] [6] [b11] (fun w' => Blk w' b11 (.cells (dl d.rules (.slice (some ⟨g, 0, none⟩) d.who.length cap) d.stake d.window).toArray 27)) (by kernel_rfl) hC (fun w w' hk h => h.kp0 hk) ?_
            repeat (refine Der.val rfl rfl rfl (by first|((first|apply qia0|apply qmn|apply qmv|apply qas|apply qlc|apply qla|apply qfa|apply qic|apply qix|apply qpk|apply qls|apply qei|apply qni|apply qad|apply qln|apply qxt|apply qeb|apply qfr|apply qto)<;>(first|exact rfl|assumption|exact Ar.mk (by omega)|exact dct (by first|assumption|omega)|exact dcf (by first|assumption|omega)|exact List.not_mem_nil|apply dc_length|apply ec_length|apply dl_length|exact nm1 (by omega)|fail))|fail) ?_)
            refine Der.storeR (fun w' => Blk w' b11 (.cells (spl (dl d.rules (.slice (some ⟨g, 0, none⟩) d.who.length cap) d.stake d.window) 9 [.int .i64 nn]).toArray 27)) rfl rfl rfl rfl (by exact rho_of rfl) (by exact rho_of rfl) (fun _ _ _ h => h) (fun w w' hk h => h.kp0 hk) (fun w h => ?_) ?_
            · have hrun := run_storeAt (P := Try.prog) (f := ty.i3) (off := 9) (v := .int .i64 nn) h rfl (by simp only [List.size_toArray, dl_length]; show 9 + 1 ≤ 11; omega) rfl
              exact ⟨_, hrun, h.set _, Kp.set w h rfl rfl⟩
            refine Der.tl (fun w12 hk12 _ hE => ?_)
            rw [dl_set2] at hE
            repeat (first|apply CG.seq|apply CG.region|apply SG.nil|apply NG.next|apply CG.skip|apply CG.block|apply CG.ret|apply CG.exit|apply NG.ret_then|apply NG.exit_then|refine NG.exit_block rfl ?_|apply NG.normal_block|refine SG.val rfl rfl rfl rfl (by first|((first|apply qia0|apply qmn|apply qmv|apply qas|apply qlc|apply qla|apply qfa|apply qic|apply qix|apply qpk|apply qls|apply qei|apply qni|apply qad|apply qln|apply qxt|apply qeb|apply qfr|apply qto)<;>(first|exact rfl|assumption|exact Ar.mk (by omega)|exact dct (by first|assumption|omega)|exact dcf (by first|assumption|omega)|exact List.not_mem_nil|apply dc_length|apply ec_length|apply dl_length|exact nm1 (by omega)|fail))|fail) ?_)
            first
              | exact NG.cut ⟨⟨d.rules, d.who, nn, d.window⟩, some ⟨g, 0, none⟩, cap, true, by (repeat' (first | exact True.intro | exact rfl | refine And.intro ?_ ?_)), k611.trans_new hk12 (new1 (by omega)), hE, hSc.kp hk12 hgS, by simp only; omega, (decide_eq_true (by rw [hn])).symm, hB9'.kp hk12 (nm1 (by omega))⟩
              | exact NG.cut ⟨⟨d.rules, d.who, nn, d.window⟩, some ⟨g, 0, none⟩, cap, false, by (repeat' (first | exact True.intro | exact rfl | refine And.intro ?_ ?_)), k611.trans_new hk12 (new1 (by omega)), hE, hSc.kp hk12 hgS, by simp only; omega, (decide_eq_false (fun h => hn (congrArg Del.stake h))).symm, hB9'.kp hk12 (nm1 (by omega))⟩
        · by_cases hn : nn = d.window
          all_goals
            repeat (first|apply CG.seq|apply CG.region|apply SG.nil|apply NG.next|apply CG.skip|apply CG.block|apply CG.ret|apply CG.exit|apply NG.ret_then|apply NG.exit_then|refine NG.exit_block rfl ?_|apply NG.normal_block|refine SG.val rfl rfl rfl rfl (by first|((first|apply qia0|apply qmn|apply qmv|apply qas|apply qlc|apply qla|apply qfa|apply qic|apply qix|apply qpk|apply qls|apply qei|apply qni|apply qad|apply qln|apply qxt|apply qeb|apply qfr|apply qto)<;>(first|exact rfl|assumption|exact Ar.mk (by omega)|exact dct (by first|assumption|omega)|exact dcf (by first|assumption|omega)|exact List.not_mem_nil|apply dc_length|apply ec_length|apply dl_length|exact nm1 (by omega)|fail))|fail) ?_)
            refine CG.cond_f rfl (by exact rho_of rfl) rfl ?_
            repeat (first|apply CG.seq|apply CG.region|apply SG.nil|apply NG.next|apply CG.skip|apply CG.block|apply CG.ret|apply CG.exit|apply NG.ret_then|apply NG.exit_then|refine NG.exit_block rfl ?_|apply NG.normal_block|refine SG.val rfl rfl rfl rfl (by first|((first|apply qia0|apply qmn|apply qmv|apply qas|apply qlc|apply qla|apply qfa|apply qic|apply qix|apply qpk|apply qls|apply qei|apply qni|apply qad|apply qln|apply qxt|apply qeb|apply qfr|apply qto)<;>(first|exact rfl|assumption|exact Ar.mk (by omega)|exact dct (by first|assumption|omega)|exact dcf (by first|assumption|omega)|exact List.not_mem_nil|apply dc_length|apply ec_length|apply dl_length|exact nm1 (by omega)|fail))|fail) ?_)
            refine CG.cond_t rfl (by exact rho_of rfl) rfl ?_
            repeat (first|apply CG.seq|apply CG.region|apply SG.nil|apply NG.next|apply CG.skip|apply CG.block|apply CG.ret|apply CG.exit|apply NG.ret_then|apply NG.exit_then|refine NG.exit_block rfl ?_|apply NG.normal_block|refine SG.val rfl rfl rfl rfl (by first|((first|apply qia0|apply qmn|apply qmv|apply qas|apply qlc|apply qla|apply qfa|apply qic|apply qix|apply qpk|apply qls|apply qei|apply qni|apply qad|apply qln|apply qxt|apply qeb|apply qfr|apply qto)<;>(first|exact rfl|assumption|exact Ar.mk (by omega)|exact dct (by first|assumption|omega)|exact dcf (by first|assumption|omega)|exact List.not_mem_nil|apply dc_length|apply ec_length|apply dl_length|exact nm1 (by omega)|fail))|fail) ?_)
            refine CG.tailg mixed 7 [0, 1, 2, 3, 4, 5, 6] [6] [b11] (fun w' => Blk w' b11 (.cells (dl d.rules (.slice (some ⟨g, 0, none⟩) d.who.length cap) d.stake d.window).toArray 27)) (by kernel_rfl) hC (fun w w' hk h => h.kp0 hk) ?_
            repeat (refine Der.val rfl rfl rfl (by first|((first|apply qia0|apply qmn|apply qmv|apply qas|apply qlc|apply qla|apply qfa|apply qic|apply qix|apply qpk|apply qls|apply qei|apply qni|apply qad|apply qln|apply qxt|apply qeb|apply qfr|apply qto)<;>(first|exact rfl|assumption|exact Ar.mk (by omega)|exact dct (by first|assumption|omega)|exact dcf (by first|assumption|omega)|exact List.not_mem_nil|apply dc_length|apply ec_length|apply dl_length|exact nm1 (by omega)|fail))|fail) ?_)
            refine Der.storeR (fun w' => Blk w' b11 (.cells (spl (dl d.rules (.slice (some ⟨g, 0, none⟩) d.who.length cap) d.stake d.window) 10 [.int .i64 nn]).toArray 27)) rfl rfl rfl rfl (by exact rho_of rfl) (by exact rho_of rfl) (fun _ _ _ h => h) (fun w w' hk h => h.kp0 hk) (fun w h => ?_) ?_
            · have hrun := run_storeAt (P := Try.prog) (f := ty.i3) (off := 10) (v := .int .i64 nn) h rfl (by simp only [List.size_toArray, dl_length]; show 10 + 1 ≤ 11; omega) rfl
              exact ⟨_, hrun, h.set _, Kp.set w h rfl rfl⟩
            refine Der.tl (fun w12 hk12 _ hE => ?_)
            rw [dl_set3] at hE
            repeat (first|apply CG.seq|apply CG.region|apply SG.nil|apply NG.next|apply CG.skip|apply CG.block|apply CG.ret|apply CG.exit|apply NG.ret_then|apply NG.exit_then|refine NG.exit_block rfl ?_|apply NG.normal_block|refine SG.val rfl rfl rfl rfl (by first|((first|apply qia0|apply qmn|apply qmv|apply qas|apply qlc|apply qla|apply qfa|apply qic|apply qix|apply qpk|apply qls|apply qei|apply qni|apply qad|apply qln|apply qxt|apply qeb|apply qfr|apply qto)<;>(first|exact rfl|assumption|exact Ar.mk (by omega)|exact dct (by first|assumption|omega)|exact dcf (by first|assumption|omega)|exact List.not_mem_nil|apply dc_length|apply ec_length|apply dl_length|exact nm1 (by omega)|fail))|fail) ?_)
            first
              | exact NG.cut ⟨⟨d.rules, d.who, d.stake, nn⟩, some ⟨g, 0, none⟩, cap, true, by (repeat' (first | exact True.intro | exact rfl | refine And.intro ?_ ?_)), k611.trans_new hk12 (new1 (by omega)), hE, hSc.kp hk12 hgS, by simp only; omega, (decide_eq_true (by rw [hn])).symm, hB9'.kp hk12 (nm1 (by omega))⟩
              | exact NG.cut ⟨⟨d.rules, d.who, d.stake, nn⟩, some ⟨g, 0, none⟩, cap, false, by (repeat' (first | exact True.intro | exact rfl | refine And.intro ?_ ?_)), k611.trans_new hk12 (new1 (by omega)), hE, hSc.kp hk12 hgS, by simp only; omega, (decide_eq_false (fun h => hn (congrArg Del.window h))).symm, hB9'.kp hk12 (nm1 (by omega))⟩
        · obtain ⟨a0, rest, hx⟩ : ∃ a0 rest, d.rules.1 = a0 :: rest := by
            have := d.rules.2
            cases h : d.rules.1 with
            | nil => rw [h] at this; cases this
            | cons x r => exact ⟨x, r, rfl⟩
          have hr8 : ((a0 + 1) :: rest).length = 8 := by
            have := d.rules.2
            rw [hx] at this
            exact this
          have hz : Row w11 b11 0 [bv a0] := Row.of hC [] (rest.map bv ++ [.slice (some ⟨g, 0, none⟩) d.who.length cap, .int .i64 d.stake, .int .i64 d.window]) (by simp [dl, dc, hx]) rfl
          have hset : spl (dl d.rules (.slice (some ⟨g, 0, none⟩) d.who.length cap) d.stake d.window) 0 [bv (a0 + 1)] = dl ⟨(a0 + 1) :: rest, hr8⟩ (.slice (some ⟨g, 0, none⟩) d.who.length cap) d.stake d.window := by
            simp [spl, dl, dc, hx]
          clear u0
          repeat (first|apply CG.seq|apply CG.region|apply SG.nil|apply NG.next|apply CG.skip|apply CG.block|apply CG.ret|apply CG.exit|apply NG.ret_then|apply NG.exit_then|refine NG.exit_block rfl ?_|apply NG.normal_block|refine SG.val rfl rfl rfl rfl (by first|((first|apply qia0|apply qmn|apply qmv|apply qas|apply qlc|apply qla|apply qfa|apply qic|apply qix|apply qpk|apply qls|apply qei|apply qni|apply qad|apply qln|apply qxt|apply qeb|apply qfr|apply qto)<;>(first|exact rfl|assumption|exact Ar.mk (by omega)|exact dct (by first|assumption|omega)|exact dcf (by first|assumption|omega)|exact List.not_mem_nil|apply dc_length|apply ec_length|apply dl_length|exact nm1 (by omega)|fail))|fail) ?_)
          refine CG.cond_f rfl (by exact rho_of rfl) rfl ?_
          repeat (first|apply CG.seq|apply CG.region|apply SG.nil|apply NG.next|apply CG.skip|apply CG.block|apply CG.ret|apply CG.exit|apply NG.ret_then|apply NG.exit_then|refine NG.exit_block rfl ?_|apply NG.normal_block|refine SG.val rfl rfl rfl rfl (by first|((first|apply qia0|apply qmn|apply qmv|apply qas|apply qlc|apply qla|apply qfa|apply qic|apply qix|apply qpk|apply qls|apply qei|apply qni|apply qad|apply qln|apply qxt|apply qeb|apply qfr|apply qto)<;>(first|exact rfl|assumption|exact Ar.mk (by omega)|exact dct (by first|assumption|omega)|exact dcf (by first|assumption|omega)|exact List.not_mem_nil|apply dc_length|apply ec_length|apply dl_length|exact nm1 (by omega)|fail))|fail) ?_)
          refine CG.cond_f rfl (by exact rho_of rfl) rfl ?_
          repeat (first|apply CG.seq|apply CG.region|apply SG.nil|apply NG.next|apply CG.skip|apply CG.block|apply CG.ret|apply CG.exit|apply NG.ret_then|apply NG.exit_then|refine NG.exit_block rfl ?_|apply NG.normal_block|refine SG.val rfl rfl rfl rfl (by first|((first|apply qia0|apply qmn|apply qmv|apply qas|apply qlc|apply qla|apply qfa|apply qic|apply qix|apply qpk|apply qls|apply qei|apply qni|apply qad|apply qln|apply qxt|apply qeb|apply qfr|apply qto)<;>(first|exact rfl|assumption|exact Ar.mk (by omega)|exact dct (by first|assumption|omega)|exact dcf (by first|assumption|omega)|exact List.not_mem_nil|apply dc_length|apply ec_length|apply dl_length|exact nm1 (by omega)|fail))|fail) ?_)
          refine CG.cond_t rfl (by exact rho_of rfl) rfl ?_
          repeat (first|apply CG.seq|apply CG.region|apply SG.nil|apply NG.next|apply CG.skip|apply CG.block|apply CG.ret|apply CG.exit|apply NG.ret_then|apply NG.exit_then|refine NG.exit_block rfl ?_|apply NG.normal_block|refine SG.val rfl rfl rfl rfl (by first|((first|apply qia0|apply qmn|apply qmv|apply qas|apply qlc|apply qla|apply qfa|apply qic|apply qix|apply qpk|apply qls|apply qei|apply qni|apply qad|apply qln|apply qxt|apply qeb|apply qfr|apply qto)<;>(first|exact rfl|assumption|exact Ar.mk (by omega)|exact dct (by first|assumption|omega)|exact dcf (by first|assumption|omega)|exact List.not_mem_nil|apply dc_length|apply ec_length|apply dl_length|exact nm1 (by omega)|fail))|fail) ?_)
          refine SG.val rfl rfl rfl rfl (vals_add8 (u := a0) rfl rfl) ?_
          repeat (first|apply CG.seq|apply CG.region|apply SG.nil|apply NG.next|apply CG.skip|apply CG.block|apply CG.ret|apply CG.exit|apply NG.ret_then|apply NG.exit_then|refine NG.exit_block rfl ?_|apply NG.normal_block|refine SG.val rfl rfl rfl rfl (by first|((first|apply qia0|apply qmn|apply qmv|apply qas|apply qlc|apply qla|apply qfa|apply qic|apply qix|apply qpk|apply qls|apply qei|apply qni|apply qad|apply qln|apply qxt|apply qeb|apply qfr|apply qto)<;>(first|exact rfl|assumption|exact Ar.mk (by omega)|exact dct (by first|assumption|omega)|exact dcf (by first|assumption|omega)|exact List.not_mem_nil|apply dc_length|apply ec_length|apply dl_length|exact nm1 (by omega)|fail))|fail) ?_)
          refine SG.store rfl rfl (by exact rho_of rfl) (by exact rho_of rfl) hC rfl (by show 0 + 1 ≤ _; simp [dl_length]) rfl (fun w12 hk12 hE => ?_)
          have hE : Blk w12 b11 (.cells (spl (dl d.rules (.slice (some ⟨g, 0, none⟩) d.who.length cap) d.stake d.window) 0 [bv (a0 + 1)]).toArray 27) := hE
          rw [hset] at hE
          repeat (first|apply CG.seq|apply CG.region|apply SG.nil|apply NG.next|apply CG.skip|apply CG.block|apply CG.ret|apply CG.exit|apply NG.ret_then|apply NG.exit_then|refine NG.exit_block rfl ?_|apply NG.normal_block|refine SG.val rfl rfl rfl rfl (by first|((first|apply qia0|apply qmn|apply qmv|apply qas|apply qlc|apply qla|apply qfa|apply qic|apply qix|apply qpk|apply qls|apply qei|apply qni|apply qad|apply qln|apply qxt|apply qeb|apply qfr|apply qto)<;>(first|exact rfl|assumption|exact Ar.mk (by omega)|exact dct (by first|assumption|omega)|exact dcf (by first|assumption|omega)|exact List.not_mem_nil|apply dc_length|apply ec_length|apply dl_length|exact nm1 (by omega)|fail))|fail) ?_)
          refine NG.cut ⟨⟨⟨(a0 + 1) :: rest, hr8⟩, d.who, d.stake, d.window⟩, some ⟨g, 0, none⟩, cap, false, by (repeat' (first | exact True.intro | exact rfl | refine And.intro ?_ ?_)), k611.trans_new hk12 (new1 (by omega)), hE, hSc.kp hk12 hgS, by simp only; omega, (decide_eq_false (fun h => ?_)).symm, hB9'.kp hk12 (nm1 (by omega))⟩
          have h2 := congrArg (fun x : Del => x.rules.1) h
          simp only at h2
          rw [hx] at h2
          simp only [List.cons.injEq, and_true] at h2
          have h3 := congrArg UInt8.toNat h2
          rw [UInt8.toNat_add] at h3
          have := a0.toNat_lt
          simp at h3
          omega
        · have h0 : 0 < d.who.length := by omega
          have h1 : 1 < d.who.length := by omega
          repeat (first|apply CG.seq|apply CG.region|apply SG.nil|apply NG.next|apply CG.skip|apply CG.block|apply CG.ret|apply CG.exit|apply NG.ret_then|apply NG.exit_then|refine NG.exit_block rfl ?_|apply NG.normal_block|refine SG.val rfl rfl rfl rfl (by first|((first|apply qia0|apply qmn|apply qmv|apply qas|apply qlc|apply qla|apply qfa|apply qic|apply qix|apply qpk|apply qls|apply qei|apply qni|apply qad|apply qln|apply qxt|apply qeb|apply qfr|apply qto)<;>(first|exact rfl|assumption|exact Ar.mk (by omega)|exact dct (by first|assumption|omega)|exact dcf (by first|assumption|omega)|exact List.not_mem_nil|apply dc_length|apply ec_length|apply dl_length|exact nm1 (by omega)|fail))|fail) ?_)
          refine CG.cond_f rfl (by exact rho_of rfl) rfl ?_
          repeat (first|apply CG.seq|apply CG.region|apply SG.nil|apply NG.next|apply CG.skip|apply CG.block|apply CG.ret|apply CG.exit|apply NG.ret_then|apply NG.exit_then|refine NG.exit_block rfl ?_|apply NG.normal_block|refine SG.val rfl rfl rfl rfl (by first|((first|apply qia0|apply qmn|apply qmv|apply qas|apply qlc|apply qla|apply qfa|apply qic|apply qix|apply qpk|apply qls|apply qei|apply qni|apply qad|apply qln|apply qxt|apply qeb|apply qfr|apply qto)<;>(first|exact rfl|assumption|exact Ar.mk (by omega)|exact dct (by first|assumption|omega)|exact dcf (by first|assumption|omega)|exact List.not_mem_nil|apply dc_length|apply ec_length|apply dl_length|exact nm1 (by omega)|fail))|fail) ?_)
          refine CG.cond_f rfl (by exact rho_of rfl) rfl ?_
          repeat (first|apply CG.seq|apply CG.region|apply SG.nil|apply NG.next|apply CG.skip|apply CG.block|apply CG.ret|apply CG.exit|apply NG.ret_then|apply NG.exit_then|refine NG.exit_block rfl ?_|apply NG.normal_block|refine SG.val rfl rfl rfl rfl (by first|((first|apply qia0|apply qmn|apply qmv|apply qas|apply qlc|apply qla|apply qfa|apply qic|apply qix|apply qpk|apply qls|apply qei|apply qni|apply qad|apply qln|apply qxt|apply qeb|apply qfr|apply qto)<;>(first|exact rfl|assumption|exact Ar.mk (by omega)|exact dct (by first|assumption|omega)|exact dcf (by first|assumption|omega)|exact List.not_mem_nil|apply dc_length|apply ec_length|apply dl_length|exact nm1 (by omega)|fail))|fail) ?_)
          refine CG.cond_f rfl (by exact rho_of rfl) rfl ?_
          repeat (first|apply CG.seq|apply CG.region|apply SG.nil|apply NG.next|apply CG.skip|apply CG.block|apply CG.ret|apply CG.exit|apply NG.ret_then|apply NG.exit_then|refine NG.exit_block rfl ?_|apply NG.normal_block|refine SG.val rfl rfl rfl rfl (by first|((first|apply qia0|apply qmn|apply qmv|apply qas|apply qlc|apply qla|apply qfa|apply qic|apply qix|apply qpk|apply qls|apply qei|apply qni|apply qad|apply qln|apply qxt|apply qeb|apply qfr|apply qto)<;>(first|exact rfl|assumption|exact Ar.mk (by omega)|exact dct (by first|assumption|omega)|exact dcf (by first|assumption|omega)|exact List.not_mem_nil|apply dc_length|apply ec_length|apply dl_length|exact nm1 (by omega)|fail))|fail) ?_)
          refine CG.cond_t rfl (by exact rho_of rfl) rfl ?_
          repeat (first|apply CG.seq|apply CG.region|apply SG.nil|apply NG.next|apply CG.skip|apply CG.block|apply CG.ret|apply CG.exit|apply NG.ret_then|apply NG.exit_then|refine NG.exit_block rfl ?_|apply NG.normal_block|refine SG.val rfl rfl rfl rfl (by first|((first|apply qia0|apply qmn|apply qmv|apply qas|apply qlc|apply qla|apply qfa|apply qic|apply qix|apply qpk|apply qls|apply qei|apply qni|apply qad|apply qln|apply qxt|apply qeb|apply qfr|apply qto)<;>(first|exact rfl|assumption|exact Ar.mk (by omega)|exact dct (by first|assumption|omega)|exact dcf (by first|assumption|omega)|exact List.not_mem_nil|apply dc_length|apply ec_length|apply dl_length|exact nm1 (by omega)|fail))|fail) ?_)
          refine CG.tailg mixed 14 [0, 1, 2, 3, 4, 5, 6, 7, 8, 9, 10, 11, 12, 13] [13, 1007, 1011] [g] (fun w' => w'.ownsRow w8.heap.size 24 8 (.slice (some ⟨g, 0, none⟩) d.who.length cap) d.who.length (flt dc d.who)) (by kernel_rfl) hor (fun w w' hk h => own_kp0 h hk) ?_
          repeat (refine Der.val rfl rfl rfl (by first|((first|apply qia0|apply qmn|apply qmv|apply qas|apply qlc|apply qla|apply qfa|apply qic|apply qix|apply qpk|apply qls|apply qei|apply qni|apply qad|apply qln|apply qxt|apply qeb|apply qfr|apply qto)<;>(first|exact rfl|assumption|exact Ar.mk (by omega)|exact dct (by first|assumption|omega)|exact dcf (by first|assumption|omega)|exact List.not_mem_nil|apply dc_length|apply ec_length|apply dl_length|exact nm1 (by omega)|fail))|fail) ?_)
          refine Der.loadR (l := dc d.who[1]) rfl rfl rfl rfl (by exact rho_of rfl) rfl (fun w h => own_at dc_length h rfl h1) (dc_length _) ?_
          repeat (refine Der.val rfl rfl rfl (by first|((first|apply qia0|apply qmn|apply qmv|apply qas|apply qlc|apply qla|apply qfa|apply qic|apply qix|apply qpk|apply qls|apply qei|apply qni|apply qad|apply qln|apply qxt|apply qeb|apply qfr|apply qto)<;>(first|exact rfl|assumption|exact Ar.mk (by omega)|exact dct (by first|assumption|omega)|exact dcf (by first|assumption|omega)|exact List.not_mem_nil|apply dc_length|apply ec_length|apply dl_length|exact nm1 (by omega)|fail))|fail) ?_)
          refine Der.loadR (l := dc d.who[0]) rfl rfl rfl rfl (by exact rho_of rfl) rfl (fun w h => own_at dc_length h rfl h0) (dc_length _) ?_
          repeat (refine Der.val rfl rfl rfl (by first|((first|apply qia0|apply qmn|apply qmv|apply qas|apply qlc|apply qla|apply qfa|apply qic|apply qix|apply qpk|apply qls|apply qei|apply qni|apply qad|apply qln|apply qxt|apply qeb|apply qfr|apply qto)<;>(first|exact rfl|assumption|exact Ar.mk (by omega)|exact dct (by first|assumption|omega)|exact dcf (by first|assumption|omega)|exact List.not_mem_nil|apply dc_length|apply ec_length|apply dl_length|exact nm1 (by omega)|fail))|fail) ?_)
          refine Der.storeR (fun w' => w'.ownsRow w8.heap.size 24 8 (.slice (some ⟨g, 0, none⟩) d.who.length cap) d.who.length (flt dc (d.who.set 0 d.who[1]))) rfl rfl rfl rfl (by exact rho_of rfl) (by exact rho_of rfl) (fun _ _ _ h => h) (fun w w' hk h => own_kp0 h hk) (fun w h => ?_) ?_
          · obtain ⟨w', q1, q2, q3⟩ := own_store (P := Try.prog) (f := ty.i24) dc_length dc_one h rfl h0 d.who[1]
            exact ⟨w', q1, q2, q3⟩
          refine Der.tl (fun w12 hk12 _ ho12 => ?_)
          repeat (first|apply CG.seq|apply CG.region|apply SG.nil|apply NG.next|apply CG.skip|apply CG.block|apply CG.ret|apply CG.exit|apply NG.ret_then|apply NG.exit_then|refine NG.exit_block rfl ?_|apply NG.normal_block|refine SG.val rfl rfl rfl rfl (by first|((first|apply qia0|apply qmn|apply qmv|apply qas|apply qlc|apply qla|apply qfa|apply qic|apply qix|apply qpk|apply qls|apply qei|apply qni|apply qad|apply qln|apply qxt|apply qeb|apply qfr|apply qto)<;>(first|exact rfl|assumption|exact Ar.mk (by omega)|exact dct (by first|assumption|omega)|exact dcf (by first|assumption|omega)|exact List.not_mem_nil|apply dc_length|apply ec_length|apply dl_length|exact nm1 (by omega)|fail))|fail) ?_)
          refine SG.storeO (k := 1) (y := d.who[0]) (f := ty.i24) dc_length dc_one rfl rfl (by exact rho_of rfl) rfl (by exact rho_of rfl) ho12 (by simp) (by simp; omega) (fun w13 hk13 ho13 => ?_)
          obtain ⟨W2, hW2⟩ : ∃ W2, W2 = (d.who.set 0 d.who[1]).set 1 d.who[0] := ⟨_, rfl⟩
          have hlen2 : W2.length = d.who.length := by rw [hW2]; simp
          have ho14 : w13.ownsRow w8.heap.size 24 8 (.slice (some ⟨g, 0, none⟩) W2.length cap) W2.length (flt dc W2) := by rw [hlen2, hW2]; exact ho13
          have hE : Blk w13 b11 (.cells (dl d.rules (.slice (some ⟨g, 0, none⟩) W2.length cap) d.stake d.window).toArray 27) := by rw [hlen2]; exact (hC.kp hk12 (nm1 (by omega))).kp hk13 (nm1 (by omega))
          obtain ⟨_, _, ee, _, hS2⟩ := Sl.own dc_length ho14 rfl
          cases ee
          repeat (first|apply CG.seq|apply CG.region|apply SG.nil|apply NG.next|apply CG.skip|apply CG.block|apply CG.ret|apply CG.exit|apply NG.ret_then|apply NG.exit_then|refine NG.exit_block rfl ?_|apply NG.normal_block|refine SG.val rfl rfl rfl rfl (by first|((first|apply qia0|apply qmn|apply qmv|apply qas|apply qlc|apply qla|apply qfa|apply qic|apply qix|apply qpk|apply qls|apply qei|apply qni|apply qad|apply qln|apply qxt|apply qeb|apply qfr|apply qto)<;>(first|exact rfl|assumption|exact Ar.mk (by omega)|exact dct (by first|assumption|omega)|exact dcf (by first|assumption|omega)|exact List.not_mem_nil|apply dc_length|apply ec_length|apply dl_length|exact nm1 (by omega)|fail))|fail) ?_)
          refine NG.cut ⟨⟨d.rules, W2, d.stake, d.window⟩, some ⟨g, 0, none⟩, cap, false, by (repeat' (first | exact True.intro | exact rfl | refine And.intro ?_ ?_)), (k611.trans_new hk12 (new1 (by omega))).trans_new hk13 (new1 (by omega)), hE, hS2, by simp only; omega, (decide_eq_false (fun h => ?_)).symm, (hB9'.kp hk12 (nm1 (by omega))).kp hk13 (nm1 (by omega))⟩
          have h2 : W2 = d.who := congrArg Del.who h
          have h4 : W2[0]? = some d.who[1] := by rw [hW2, List.getElem?_set_ne (by omega), List.getElem?_set_self h0]
          rw [h2, List.getElem?_eq_getElem h0] at h4
          exact List.pairwise_iff_getElem.1 hnd 0 1 h0 h1 (by omega) (Option.some.inj h4)
        · repeat (first|apply CG.seq|apply CG.region|apply SG.nil|apply NG.next|apply CG.skip|apply CG.block|apply CG.ret|apply CG.exit|apply NG.ret_then|apply NG.exit_then|refine NG.exit_block rfl ?_|apply NG.normal_block|refine SG.val rfl rfl rfl rfl (by first|((first|apply qia0|apply qmn|apply qmv|apply qas|apply qlc|apply qla|apply qfa|apply qic|apply qix|apply qpk|apply qls|apply qei|apply qni|apply qad|apply qln|apply qxt|apply qeb|apply qfr|apply qto)<;>(first|exact rfl|assumption|exact Ar.mk (by omega)|exact dct (by first|assumption|omega)|exact dcf (by first|assumption|omega)|exact List.not_mem_nil|apply dc_length|apply ec_length|apply dl_length|exact nm1 (by omega)|fail))|fail) ?_)
          refine CG.cond_f rfl (by exact rho_of rfl) rfl ?_
          repeat (first|apply CG.seq|apply CG.region|apply SG.nil|apply NG.next|apply CG.skip|apply CG.block|apply CG.ret|apply CG.exit|apply NG.ret_then|apply NG.exit_then|refine NG.exit_block rfl ?_|apply NG.normal_block|refine SG.val rfl rfl rfl rfl (by first|((first|apply qia0|apply qmn|apply qmv|apply qas|apply qlc|apply qla|apply qfa|apply qic|apply qix|apply qpk|apply qls|apply qei|apply qni|apply qad|apply qln|apply qxt|apply qeb|apply qfr|apply qto)<;>(first|exact rfl|assumption|exact Ar.mk (by omega)|exact dct (by first|assumption|omega)|exact dcf (by first|assumption|omega)|exact List.not_mem_nil|apply dc_length|apply ec_length|apply dl_length|exact nm1 (by omega)|fail))|fail) ?_)
          refine CG.cond_f rfl (by exact rho_of rfl) rfl ?_
          repeat (first|apply CG.seq|apply CG.region|apply SG.nil|apply NG.next|apply CG.skip|apply CG.block|apply CG.ret|apply CG.exit|apply NG.ret_then|apply NG.exit_then|refine NG.exit_block rfl ?_|apply NG.normal_block|refine SG.val rfl rfl rfl rfl (by first|((first|apply qia0|apply qmn|apply qmv|apply qas|apply qlc|apply qla|apply qfa|apply qic|apply qix|apply qpk|apply qls|apply qei|apply qni|apply qad|apply qln|apply qxt|apply qeb|apply qfr|apply qto)<;>(first|exact rfl|assumption|exact Ar.mk (by omega)|exact dct (by first|assumption|omega)|exact dcf (by first|assumption|omega)|exact List.not_mem_nil|apply dc_length|apply ec_length|apply dl_length|exact nm1 (by omega)|fail))|fail) ?_)
          refine CG.cond_f rfl (by exact rho_of rfl) rfl ?_
          repeat (first|apply CG.seq|apply CG.region|apply SG.nil|apply NG.next|apply CG.skip|apply CG.block|apply CG.ret|apply CG.exit|apply NG.ret_then|apply NG.exit_then|refine NG.exit_block rfl ?_|apply NG.normal_block|refine SG.val rfl rfl rfl rfl (by first|((first|apply qia0|apply qmn|apply qmv|apply qas|apply qlc|apply qla|apply qfa|apply qic|apply qix|apply qpk|apply qls|apply qei|apply qni|apply qad|apply qln|apply qxt|apply qeb|apply qfr|apply qto)<;>(first|exact rfl|assumption|exact Ar.mk (by omega)|exact dct (by first|assumption|omega)|exact dcf (by first|assumption|omega)|exact List.not_mem_nil|apply dc_length|apply ec_length|apply dl_length|exact nm1 (by omega)|fail))|fail) ?_)
          refine CG.cond_f rfl (by exact rho_of rfl) rfl ?_
          repeat (first|apply CG.seq|apply CG.region|apply SG.nil|apply NG.next|apply CG.skip|apply CG.block|apply CG.ret|apply CG.exit|apply NG.ret_then|apply NG.exit_then|refine NG.exit_block rfl ?_|apply NG.normal_block|refine SG.val rfl rfl rfl rfl (by first|((first|apply qia0|apply qmn|apply qmv|apply qas|apply qlc|apply qla|apply qfa|apply qic|apply qix|apply qpk|apply qls|apply qei|apply qni|apply qad|apply qln|apply qxt|apply qeb|apply qfr|apply qto)<;>(first|exact rfl|assumption|exact Ar.mk (by omega)|exact dct (by first|assumption|omega)|exact dcf (by first|assumption|omega)|exact List.not_mem_nil|apply dc_length|apply ec_length|apply dl_length|exact nm1 (by omega)|fail))|fail) ?_)
          refine CG.cond_t rfl (by exact rho_of rfl) rfl ?_
          repeat (first|apply CG.seq|apply CG.region|apply SG.nil|apply NG.next|apply CG.skip|apply CG.block|apply CG.ret|apply CG.exit|apply NG.ret_then|apply NG.exit_then|refine NG.exit_block rfl ?_|apply NG.normal_block|refine SG.val rfl rfl rfl rfl (by first|((first|apply qia0|apply qmn|apply qmv|apply qas|apply qlc|apply qla|apply qfa|apply qic|apply qix|apply qpk|apply qls|apply qei|apply qni|apply qad|apply qln|apply qxt|apply qeb|apply qfr|apply qto)<;>(first|exact rfl|assumption|exact Ar.mk (by omega)|exact dct (by first|assumption|omega)|exact dcf (by first|assumption|omega)|exact List.not_mem_nil|apply dc_length|apply ec_length|apply dl_length|exact nm1 (by omega)|fail))|fail) ?_)
          refine SG.val rfl rfl rfl rfl (qfr (j := 1) rfl rfl rfl ⟨by omega⟩) ?_
          repeat (first|apply CG.seq|apply CG.region|apply SG.nil|apply NG.next|apply CG.skip|apply CG.block|apply CG.ret|apply CG.exit|apply NG.ret_then|apply NG.exit_then|refine NG.exit_block rfl ?_|apply NG.normal_block|refine SG.val rfl rfl rfl rfl (by first|((first|apply qia0|apply qmn|apply qmv|apply qas|apply qlc|apply qla|apply qfa|apply qic|apply qix|apply qpk|apply qls|apply qei|apply qni|apply qad|apply qln|apply qxt|apply qeb|apply qfr|apply qto)<;>(first|exact rfl|assumption|exact Ar.mk (by omega)|exact dct (by first|assumption|omega)|exact dcf (by first|assumption|omega)|exact List.not_mem_nil|apply dc_length|apply ec_length|apply dl_length|exact nm1 (by omega)|fail))|fail) ?_)
          refine SG.store rfl rfl (by exact rho_of rfl) (by exact rho_of rfl) hC rfl (by show 8 + 1 ≤ _; simp [dl_length]) rfl (fun w12 hk12 hE => ?_)
          have hE : Blk w12 b11 (.cells (spl (dl d.rules (.slice (some ⟨g, 0, none⟩) d.who.length cap) d.stake d.window) 8 [.slice (some ⟨g, if cap = 1 then 0 else 0 + 1 * 8, none⟩) (d.who.length - 1) (cap - 1)]).toArray 27) := hE
          rw [dl_set1, show d.who.length - 1 = (d.who.drop 1).length from List.length_drop.symm] at hE
          have hS2 := (sl_drop (j := 1) hSc hcap).kp hk12 (fun b off h hm => by
            cases h
            rw [List.mem_singleton] at hm
            omega)
          have hl2 : (d.who.drop 1).length = d.who.length - 1 := List.length_drop
          repeat (first|apply CG.seq|apply CG.region|apply SG.nil|apply NG.next|apply CG.skip|apply CG.block|apply CG.ret|apply CG.exit|apply NG.ret_then|apply NG.exit_then|refine NG.exit_block rfl ?_|apply NG.normal_block|refine SG.val rfl rfl rfl rfl (by first|((first|apply qia0|apply qmn|apply qmv|apply qas|apply qlc|apply qla|apply qfa|apply qic|apply qix|apply qpk|apply qls|apply qei|apply qni|apply qad|apply qln|apply qxt|apply qeb|apply qfr|apply qto)<;>(first|exact rfl|assumption|exact Ar.mk (by omega)|exact dct (by first|assumption|omega)|exact dcf (by first|assumption|omega)|exact List.not_mem_nil|apply dc_length|apply ec_length|apply dl_length|exact nm1 (by omega)|fail))|fail) ?_)
          refine NG.cut ⟨⟨d.rules, d.who.drop 1, d.stake, d.window⟩, some ⟨g, if cap = 1 then 0 else 0 + 1 * 8, none⟩, cap - 1, false, by (repeat' (first | exact True.intro | exact rfl | refine And.intro ?_ ?_)), k611.trans_new hk12 (new1 (by omega)), hE, hS2, by simp only; omega, (decide_eq_false (fun h => ?_)).symm, hB9'.kp hk12 (nm1 (by omega))⟩
          have h2 := congrArg (fun x : Del => x.who.length) h
          simp only at h2
          omega
      · rintro L w12 ⟨e, ae, ce, q, hL, k12, hE, hSe, hel, hqd, hB9''⟩
        refine CG.to _ hL ?_
        obtain ⟨-, -, -, -, x9⟩ := dl_rows hB9''
        obtain ⟨-, -, -, -, x11⟩ := dl_rows hE
        have hSl := hSl.kp0 k12
        have hSv := hSv.kp0 k12
        have hf1 := followsZ_eq d hq
        rw [if_pos rfl] at hf1
        have hf2 := followsZ_eq e hq
        have hsm := fun w (h1 : Sl dc 8 w ae e.who) (h2 : Sl dc 8 w av d.who) => same_spec (c := ce) (c' := cv) e d h1 h2 (by omega)
        have hfd := fun w (a2 : Option Addr) (c2 : Nat) (h2 : Sl ec 21 w a2 l) (hc : l.length ≤ c2) (h1 : Sl dc 8 w av d.who) => hfo w av a2 cv c2 d h1 hdl h2 hc
        have hfe := fun w (a2 : Option Addr) (c2 : Nat) (h2 : Sl ec 21 w a2 l) (hc : l.length ≤ c2) (h1 : Sl dc 8 w ae e.who) => hfo w ae a2 ce c2 e h1 (by omega) h2 hc
        rw [hf1] at hfd
        rw [hf2] at hfe
        have h11 : (11 : Int) = 11 := rfl
        have h10 : ¬ (11 : Int) = 0 := by decide
        clear p1 p2 p3 u0 u1 u2 u3 hL
        repeat (first|apply CG.seq|apply CG.region|apply SG.nil|apply NG.next|apply CG.skip|apply CG.block|apply CG.ret|apply CG.exit|apply NG.ret_then|apply NG.exit_then|refine NG.exit_block rfl ?_|apply NG.normal_block|refine SG.val rfl rfl rfl rfl (by first|((first|apply qia0|apply qmn|apply qmv|apply qas|apply qlc|apply qla|apply qfa|apply qic|apply qix|apply qpk|apply qls|apply qei|apply qni|apply qad|apply qln|apply qxt|apply qeb|apply qfr|apply qto)<;>(first|exact rfl|assumption|exact Ar.mk (by omega)|exact dct (by first|assumption|omega)|exact dcf (by first|assumption|omega)|exact List.not_mem_nil|apply dc_length|apply ec_length|apply dl_length|exact nm1 (by omega)|fail))|fail) ?_)
        refine CG.draw0 mixed [0, 1, 2, 3, 4, 5, 6, 7, 8, 9, 10, 14, 11, 12, 13, 15, 16, 17, 18, 19, 20, 21, 22, 23, 24, 25, 26, 27, 28, 29, 30, 31, 32, 33, 34] [4, 11, 29] (by kernel_rfl) ?_
        by_cases hed : e = d
        · rw [decide_eq_true hed] at hqd hsm
          rw [if_pos hed] at hfe
          subst hqd
          refine Der.call (vs := []) rfl rfl rfl (by repeat' (first | exact True.intro | exact rho_of rfl | refine And.intro ?_ ?_)) (fun w hk _ => known_spec w) ?_
          repeat (first | refine Der.val rfl rfl rfl (by first|((first|apply qia0|apply qmn|apply qmv|apply qas|apply qlc|apply qla|apply qfa|apply qic|apply qix|apply qpk|apply qls|apply qei|apply qni|apply qad|apply qln|apply qxt|apply qeb|apply qfr|apply qto)<;>(first|exact rfl|assumption|exact Ar.mk (by omega)|exact dct (by first|assumption|omega)|exact dcf (by first|assumption|omega)|exact List.not_mem_nil|apply dc_length|apply ec_length|apply dl_length|exact nm1 (by omega)|fail))|fail) ?_ | refine Der.skip rfl rfl ?_)
          refine Der.callG (X := Option Addr × Nat) (vs := [.slice a l.length c, .int .i64 8]) (fun q => .slice q.1 l.length q.2) (fun q w => Sl ec 21 w q.1 l ∧ l.length ≤ q.2) rfl rfl rfl rfl (by repeat' (first | exact True.intro | exact rho_of rfl | refine And.intro ?_ ?_)) (fun q w w' hk hq => ⟨hq.1.kp0 hk, hq.2⟩) (fun w w' hk h => by first | exact h | exact ⟨h.1, h.2.1.kp0 hk, h.2.2⟩ | exact ⟨⟨h.1.1, h.1.2.1.kp0 hk, h.1.2.2⟩, h.2.1.kp0 hk, h.2.2⟩) (fun w hk _ => (hal w (hSl.kp0 hk)).mono (fun z w' ⟨v, he, ho, hk'⟩ => ?_)) (fun q' => ?_)
          · obtain ⟨a9, c9, rfl, hc9, hS9⟩ := Sl.own ec_length ho rfl
            exact ⟨(a9, c9), he, ⟨hS9, hc9⟩, hk'⟩
          refine Der.call (vs := [dealV d.rules (.slice av d.who.length cv) d.stake d.window, .slice q'.1 l.length q'.2]) rfl rfl rfl (by repeat' (first | exact True.intro | exact rho_of rfl | refine And.intro ?_ ?_)) (fun w hk hF => hfd w _ _ hF.2.1 hF.2.2 (hSv.kp0 hk)) ?_
          repeat (first | refine Der.val rfl rfl rfl (by first|((first|apply qia0|apply qmn|apply qmv|apply qas|apply qlc|apply qla|apply qfa|apply qic|apply qix|apply qpk|apply qls|apply qei|apply qni|apply qad|apply qln|apply qxt|apply qeb|apply qfr|apply qto)<;>(first|exact rfl|assumption|exact Ar.mk (by omega)|exact dct (by first|assumption|omega)|exact dcf (by first|assumption|omega)|exact List.not_mem_nil|apply dc_length|apply ec_length|apply dl_length|exact nm1 (by omega)|fail))|fail) ?_ | refine Der.skip rfl rfl ?_)
          refine Der.callG (X := Option Addr × Nat) (vs := [.slice a l.length c, .int .i64 8]) (fun q => .slice q.1 l.length q.2) (fun q w => Sl ec 21 w q.1 l ∧ l.length ≤ q.2) rfl rfl rfl rfl (by repeat' (first | exact True.intro | exact rho_of rfl | refine And.intro ?_ ?_)) (fun q w w' hk hq => ⟨hq.1.kp0 hk, hq.2⟩) (fun w w' hk h => by first | exact h | exact ⟨h.1, h.2.1.kp0 hk, h.2.2⟩ | exact ⟨⟨h.1.1, h.1.2.1.kp0 hk, h.1.2.2⟩, h.2.1.kp0 hk, h.2.2⟩) (fun w hk _ => (hal w (hSl.kp0 hk)).mono (fun z w' ⟨v, he, ho, hk'⟩ => ?_)) (fun q' => ?_)
          · obtain ⟨a9, c9, rfl, hc9, hS9⟩ := Sl.own ec_length ho rfl
            exact ⟨(a9, c9), he, ⟨hS9, hc9⟩, hk'⟩
          refine Der.call (vs := [dealV e.rules (.slice ae e.who.length ce) e.stake e.window, .slice q'.1 l.length q'.2]) rfl rfl rfl (by repeat' (first | exact True.intro | exact rho_of rfl | refine And.intro ?_ ?_)) (fun w hk hF => hfe w _ _ hF.2.1 hF.2.2 (hSe.kp0 hk)) ?_
          repeat (first | refine Der.val rfl rfl rfl (by first|((first|apply qia0|apply qmn|apply qmv|apply qas|apply qlc|apply qla|apply qfa|apply qic|apply qix|apply qpk|apply qls|apply qei|apply qni|apply qad|apply qln|apply qxt|apply qeb|apply qfr|apply qto)<;>(first|exact rfl|assumption|exact Ar.mk (by omega)|exact dct (by first|assumption|omega)|exact dcf (by first|assumption|omega)|exact List.not_mem_nil|apply dc_length|apply ec_length|apply dl_length|exact nm1 (by omega)|fail))|fail) ?_ | refine Der.skip rfl rfl ?_)
          refine Der.call (vs := [dealV e.rules (.slice ae e.who.length ce) e.stake e.window, dealV d.rules (.slice av d.who.length cv) d.stake d.window]) rfl rfl rfl (by repeat' (first | exact True.intro | exact rho_of rfl | refine And.intro ?_ ?_)) (fun w hk hF => hsm w (hSe.kp0 hk) (hSv.kp0 hk)) ?_
          repeat (first | refine Der.val rfl rfl rfl (by first|((first|apply qia0|apply qmn|apply qmv|apply qas|apply qlc|apply qla|apply qfa|apply qic|apply qix|apply qpk|apply qls|apply qei|apply qni|apply qad|apply qln|apply qxt|apply qeb|apply qfr|apply qto)<;>(first|exact rfl|assumption|exact Ar.mk (by omega)|exact dct (by first|assumption|omega)|exact dcf (by first|assumption|omega)|exact List.not_mem_nil|apply dc_length|apply ec_length|apply dl_length|exact nm1 (by omega)|fail))|fail) ?_ | refine Der.skip rfl rfl ?_)
          refine Der.fin (fun w13 hk13 _ _ => ?_)
          repeat (first|apply CG.seq|apply CG.region|apply SG.nil|apply NG.next|apply CG.skip|apply CG.block|apply CG.ret|apply CG.exit|apply NG.ret_then|apply NG.exit_then|refine NG.exit_block rfl ?_|apply NG.normal_block|refine SG.val rfl rfl rfl rfl (by first|((first|apply qia0|apply qmn|apply qmv|apply qas|apply qlc|apply qla|apply qfa|apply qic|apply qix|apply qpk|apply qls|apply qei|apply qni|apply qad|apply qln|apply qxt|apply qeb|apply qfr|apply qto)<;>(first|exact rfl|assumption|exact Ar.mk (by omega)|exact dct (by first|assumption|omega)|exact dcf (by first|assumption|omega)|exact List.not_mem_nil|apply dc_length|apply ec_length|apply dl_length|exact nm1 (by omega)|fail))|fail) ?_)
          refine ret1 (Or.inl rfl) Try.results6 (by first | exact ResV.tmp rfl | exact ResV.agg rfl rfl (by assumption) (by first | exact dc_length _ | exact nc_length _ | exact rc_length _ _ _ | exact ec_length _ | exact dl_length _ _ _ _ | rfl) | exact ResV.cell rfl rfl (by assumption)) ?_
          exact ⟨rfl, (kw6.trans k12).trans hk13⟩
        · rw [decide_eq_false hed] at hqd hsm
          rw [if_neg hed] at hfe
          subst hqd
          refine Der.call (vs := []) rfl rfl rfl (by repeat' (first | exact True.intro | exact rho_of rfl | refine And.intro ?_ ?_)) (fun w hk _ => known_spec w) ?_
          repeat (first | refine Der.val rfl rfl rfl (by first|((first|apply qia0|apply qmn|apply qmv|apply qas|apply qlc|apply qla|apply qfa|apply qic|apply qix|apply qpk|apply qls|apply qei|apply qni|apply qad|apply qln|apply qxt|apply qeb|apply qfr|apply qto)<;>(first|exact rfl|assumption|exact Ar.mk (by omega)|exact dct (by first|assumption|omega)|exact dcf (by first|assumption|omega)|exact List.not_mem_nil|apply dc_length|apply ec_length|apply dl_length|exact nm1 (by omega)|fail))|fail) ?_ | refine Der.skip rfl rfl ?_)
          refine Der.callG (X := Option Addr × Nat) (vs := [.slice a l.length c, .int .i64 8]) (fun q => .slice q.1 l.length q.2) (fun q w => Sl ec 21 w q.1 l ∧ l.length ≤ q.2) rfl rfl rfl rfl (by repeat' (first | exact True.intro | exact rho_of rfl | refine And.intro ?_ ?_)) (fun q w w' hk hq => ⟨hq.1.kp0 hk, hq.2⟩) (fun w w' hk h => by first | exact h | exact ⟨h.1, h.2.1.kp0 hk, h.2.2⟩ | exact ⟨⟨h.1.1, h.1.2.1.kp0 hk, h.1.2.2⟩, h.2.1.kp0 hk, h.2.2⟩) (fun w hk _ => (hal w (hSl.kp0 hk)).mono (fun z w' ⟨v, he, ho, hk'⟩ => ?_)) (fun q' => ?_)
          · obtain ⟨a9, c9, rfl, hc9, hS9⟩ := Sl.own ec_length ho rfl
            exact ⟨(a9, c9), he, ⟨hS9, hc9⟩, hk'⟩
          refine Der.call (vs := [dealV d.rules (.slice av d.who.length cv) d.stake d.window, .slice q'.1 l.length q'.2]) rfl rfl rfl (by repeat' (first | exact True.intro | exact rho_of rfl | refine And.intro ?_ ?_)) (fun w hk hF => hfd w _ _ hF.2.1 hF.2.2 (hSv.kp0 hk)) ?_
          repeat (first | refine Der.val rfl rfl rfl (by first|((first|apply qia0|apply qmn|apply qmv|apply qas|apply qlc|apply qla|apply qfa|apply qic|apply qix|apply qpk|apply qls|apply qei|apply qni|apply qad|apply qln|apply qxt|apply qeb|apply qfr|apply qto)<;>(first|exact rfl|assumption|exact Ar.mk (by omega)|exact dct (by first|assumption|omega)|exact dcf (by first|assumption|omega)|exact List.not_mem_nil|apply dc_length|apply ec_length|apply dl_length|exact nm1 (by omega)|fail))|fail) ?_ | refine Der.skip rfl rfl ?_)
          refine Der.callG (X := Option Addr × Nat) (vs := [.slice a l.length c, .int .i64 8]) (fun q => .slice q.1 l.length q.2) (fun q w => Sl ec 21 w q.1 l ∧ l.length ≤ q.2) rfl rfl rfl rfl (by repeat' (first | exact True.intro | exact rho_of rfl | refine And.intro ?_ ?_)) (fun q w w' hk hq => ⟨hq.1.kp0 hk, hq.2⟩) (fun w w' hk h => by first | exact h | exact ⟨h.1, h.2.1.kp0 hk, h.2.2⟩ | exact ⟨⟨h.1.1, h.1.2.1.kp0 hk, h.1.2.2⟩, h.2.1.kp0 hk, h.2.2⟩) (fun w hk _ => (hal w (hSl.kp0 hk)).mono (fun z w' ⟨v, he, ho, hk'⟩ => ?_)) (fun q' => ?_)
          · obtain ⟨a9, c9, rfl, hc9, hS9⟩ := Sl.own ec_length ho rfl
            exact ⟨(a9, c9), he, ⟨hS9, hc9⟩, hk'⟩
          refine Der.call (vs := [dealV e.rules (.slice ae e.who.length ce) e.stake e.window, .slice q'.1 l.length q'.2]) rfl rfl rfl (by repeat' (first | exact True.intro | exact rho_of rfl | refine And.intro ?_ ?_)) (fun w hk hF => hfe w _ _ hF.2.1 hF.2.2 (hSe.kp0 hk)) ?_
          repeat (first | refine Der.val rfl rfl rfl (by first|((first|apply qia0|apply qmn|apply qmv|apply qas|apply qlc|apply qla|apply qfa|apply qic|apply qix|apply qpk|apply qls|apply qei|apply qni|apply qad|apply qln|apply qxt|apply qeb|apply qfr|apply qto)<;>(first|exact rfl|assumption|exact Ar.mk (by omega)|exact dct (by first|assumption|omega)|exact dcf (by first|assumption|omega)|exact List.not_mem_nil|apply dc_length|apply ec_length|apply dl_length|exact nm1 (by omega)|fail))|fail) ?_ | refine Der.skip rfl rfl ?_)
          refine Der.call (vs := [dealV e.rules (.slice ae e.who.length ce) e.stake e.window, dealV d.rules (.slice av d.who.length cv) d.stake d.window]) rfl rfl rfl (by repeat' (first | exact True.intro | exact rho_of rfl | refine And.intro ?_ ?_)) (fun w hk hF => hsm w (hSe.kp0 hk) (hSv.kp0 hk)) ?_
          repeat (first | refine Der.val rfl rfl rfl (by first|((first|apply qia0|apply qmn|apply qmv|apply qas|apply qlc|apply qla|apply qfa|apply qic|apply qix|apply qpk|apply qls|apply qei|apply qni|apply qad|apply qln|apply qxt|apply qeb|apply qfr|apply qto)<;>(first|exact rfl|assumption|exact Ar.mk (by omega)|exact dct (by first|assumption|omega)|exact dcf (by first|assumption|omega)|exact List.not_mem_nil|apply dc_length|apply ec_length|apply dl_length|exact nm1 (by omega)|fail))|fail) ?_ | refine Der.skip rfl rfl ?_)
          refine Der.callG (X := Option Addr × Nat) (vs := [.slice a l.length c, .int .i64 8]) (fun q => .slice q.1 l.length q.2) (fun q w => Sl ec 21 w q.1 l ∧ l.length ≤ q.2) rfl rfl rfl rfl (by repeat' (first | exact True.intro | exact rho_of rfl | refine And.intro ?_ ?_)) (fun q w w' hk hq => ⟨hq.1.kp0 hk, hq.2⟩) (fun w w' hk h => by first | exact h | exact ⟨h.1, h.2.1.kp0 hk, h.2.2⟩ | exact ⟨⟨h.1.1, h.1.2.1.kp0 hk, h.1.2.2⟩, h.2.1.kp0 hk, h.2.2⟩) (fun w hk _ => (hal w (hSl.kp0 hk)).mono (fun z w' ⟨v, he, ho, hk'⟩ => ?_)) (fun q' => ?_)
          · obtain ⟨a9, c9, rfl, hc9, hS9⟩ := Sl.own ec_length ho rfl
            exact ⟨(a9, c9), he, ⟨hS9, hc9⟩, hk'⟩
          refine Der.call (vs := [dealV e.rules (.slice ae e.who.length ce) e.stake e.window, .slice q'.1 l.length q'.2]) rfl rfl rfl (by repeat' (first | exact True.intro | exact rho_of rfl | refine And.intro ?_ ?_)) (fun w hk hF => hfe w _ _ hF.2.1 hF.2.2 (hSe.kp0 hk)) ?_
          repeat (first | refine Der.val rfl rfl rfl (by first|((first|apply qia0|apply qmn|apply qmv|apply qas|apply qlc|apply qla|apply qfa|apply qic|apply qix|apply qpk|apply qls|apply qei|apply qni|apply qad|apply qln|apply qxt|apply qeb|apply qfr|apply qto)<;>(first|exact rfl|assumption|exact Ar.mk (by omega)|exact dct (by first|assumption|omega)|exact dcf (by first|assumption|omega)|exact List.not_mem_nil|apply dc_length|apply ec_length|apply dl_length|exact nm1 (by omega)|fail))|fail) ?_ | refine Der.skip rfl rfl ?_)
          refine Der.fin (fun w13 hk13 _ _ => ?_)
          repeat (first|apply CG.seq|apply CG.region|apply SG.nil|apply NG.next|apply CG.skip|apply CG.block|apply CG.ret|apply CG.exit|apply NG.ret_then|apply NG.exit_then|refine NG.exit_block rfl ?_|apply NG.normal_block|refine SG.val rfl rfl rfl rfl (by first|((first|apply qia0|apply qmn|apply qmv|apply qas|apply qlc|apply qla|apply qfa|apply qic|apply qix|apply qpk|apply qls|apply qei|apply qni|apply qad|apply qln|apply qxt|apply qeb|apply qfr|apply qto)<;>(first|exact rfl|assumption|exact Ar.mk (by omega)|exact dct (by first|assumption|omega)|exact dcf (by first|assumption|omega)|exact List.not_mem_nil|apply dc_length|apply ec_length|apply dl_length|exact nm1 (by omega)|fail))|fail) ?_)
          refine ret1 (Or.inl rfl) Try.results6 (by first | exact ResV.tmp rfl | exact ResV.agg rfl rfl (by assumption) (by first | exact dc_length _ | exact nc_length _ | exact rc_length _ _ _ | exact ec_length _ | exact dl_length _ _ _ _ | rfl) | exact ResV.cell rfl rfl (by assumption)) ?_
          exact ⟨rfl, (kw6.trans k12).trans hk13⟩
end Go.Proofs.Ytnoipmimddoioaa
/-
  LobbyFollows answers true for every input, and leaves its arguments as they were. No conditions.
-/
namespace Go.Proofs.Ytnoipmimddoioaa
open Go.ChangeShapes Go.WideShapes Go.ChangeAt Go.RowKit
set_option linter.unusedVariables false

set_option maxRecDepth 100000 in
theorem lobbyFollows_lifted (os : Os) (started : os.Started) (H : Type) (enc : TypeId × Value → H) :
    ReturnsInHanded {} Try.checked os 6 .any (Rows.lobbyFollowsSpec.pre6 enc Try.prog Try.f6 Rows.lobbyFollowsRow.domain false) (Rows.lobbyFollowsSpec.post enc Try.prog Try.f6 false true false false) := by
  refine returnsInHanded_of_change (C := Try.checked) own started (by kernel_rfl) Try.func6
    (ChangeSpec.witness6 (enc := enc) (C := Try.checked) false ⟨#[], #[.slice none 0 0, .int .u8 0, .int .i64 0], []⟩ 8 (by kernel_rfl) (by kernel_rfl) (by kernel_rfl) (by kernel_rfl)) ?_
  intro W base args ds gs before hval0 hW hcnd _
  have hval : ∀ (j : Nat) t v, Try.f6.params[j]? = some t → args[j]? = some v → Value.okWide Try.prog W .any base t v := hval0
  have hW' : DataW.Whole enc Try.prog Try.f6.params.toList Rows.lobbyFollowsSpec.vars false W args.toList ds gs before := hW
  obtain ⟨p, q, hA0, hV, rfl, hfz, hnd⟩ := hW
  have hA : DataW.TrodAll enc Try.prog W 0 (fun _ => true) true Try.f6.params.toList args.toList ds p := hA0
  rw [Try.params6] at hA hval
  obtain ⟨v0, v1, v2, d0, d1, d2, p0, p1, p2, rfl, rfl, rfl, h0, h1, h2⟩ := trodAll_three hA
  obtain ⟨a0, n0, c0, rfl, hn0, hc0, hs0⟩ := open_sl Try.underlying22 (by rw [cellsO]; omega) (hval 0 22 v0 rfl rfl) h0
  obtain ⟨l0, hl0⟩ := ofrs_of hs0
  obtain ⟨x1, rfl, hd1, _, wf1⟩ := open_int Try.underlying5 (hval 1 5 v1 rfl rfl) h1
  obtain ⟨u1, rfl⟩ := byte_of wf1
  obtain ⟨x2, rfl, hd2, _, wf2⟩ := open_int Try.underlying3 (hval 2 3 v2 rfl rfl) h2
  refine (follows_walk W a0 n0 c0 l0 hl0 hn0 hc0 u1 x2).mono fun e W' ⟨he, hk⟩ => ⟨_, he, ?_⟩
  exact law_post laidOut (by rw [Try.params6]; exact of_decide_eq_true (by kernel_rfl)) rfl hW' rfl (by kernel_rfl) Try.underlying4 hk

theorem lobbyFollows_holds : Rows.LobbyFollowsSaid :=
  OpenClaim.holds_of_wide 6 Try.f6 rfl rfl rfl rfl rfl rfl rfl ⟨rfl, rfl, rfl, rfl, rfl⟩ rfl rfl rfl rfl rfl (by kernel_rfl) Try.func6 (by kernel_rfl)
    (of_decide_eq_true (by kernel_rfl)) (by unfold Func.isWrapper; first | (rw [if_pos (by decide +kernel)]; kernel_rfl) | (rw [if_neg (by decide +kernel)]; exact ⟨rfl, rfl⟩))
    (fun os started H enc _ => lobbyFollows_lifted os started H enc)
end Go.Proofs.Ytnoipmimddoioaa
