/-
  HubTotals answers true for every input, and leaves its arguments as they were. No conditions.
-/
import Derived.Test.YtajllbdeoopimaaQe4
namespace Go.Proofs.Ytajllbdeoopimaa
set_option linter.unusedVariables false
/-- An act: what is held of its purse lies in memory. -/
structure HA where
  kind : Int
  now : Int
  frm : Dg
  to : Dg
  nm : Dg
  amt : Int
  til : Int
  p : Pu
  a : Option Addr
  c : Nat
def HA.s (x : HA) : Value := .slice x.a x.p.held.length x.c
def hac (x : HA) : List Value := [.int .i64 x.kind, .int .i64 x.now] ++ (dc x.frm ++ (dc x.to ++ (dc x.nm ++ ([.int .i64 x.amt, .int .i64 x.til] ++ pc x.p x.s))))
theorem hac_length (x : HA) : (hac x).length = 40 := by simp [hac, pc_length, dc_length]
theorem hac_one (x : HA) : allOne (hac x) = true := by simp [hac, allOne, pc, dc, oneB, HA.s]
def hav (x : HA) : Value := .agg (hac x).toArray
/-- What is so of an act that comes. -/
structure HA.In (x : HA) (w : World) : Prop where
  sl : Sl hc 11 w x.a x.p.held
  cap : x.p.held.length ≤ x.c
  big : x.c ≤ 9223372036854775807
  k : fitZ x.kind
  n : fitZ x.now
  am : fitZ x.amt
  t : fitZ x.til
  h0 : fitZ x.p.h0
  h1 : fitZ x.p.h1
theorem HA.In.kp0 {x : HA} {w w' : World} (h : x.In w) (hk : Kp [] w w') : x.In w' := ⟨h.sl.kp0 hk, h.cap, h.big, h.k, h.n, h.am, h.t, h.h0, h.h1⟩
theorem hac_rows {w : World} {b : Nat} {T : TypeId} {x : HA} (h : Blk w b (.cells (hac x).toArray T)) : Row w b 0 [.int .i64 x.kind] ∧ Row w b 1 [.int .i64 x.now] ∧ Row w b 2 (dc x.frm) ∧ Row w b 10 (dc x.to) ∧ Row w b 18 (dc x.nm) ∧ Row w b 26 [.int .i64 x.amt] ∧ Row w b 27 [.int .i64 x.til] ∧ Row w b 28 (pc x.p x.s) ∧ Row w b 0 (hac x) := by
  have l1 : (dc x.frm).length = 8 := dc_length _
  have l2 : (dc x.to).length = 8 := dc_length _
  have l3 : (dc x.nm).length = 8 := dc_length _
  refine ⟨?_, ?_, ?_, ?_, ?_, ?_, ?_, ?_, Row.all h rfl⟩
  · exact Row.of h [] ([.int .i64 x.now] ++ (dc x.frm ++ (dc x.to ++ (dc x.nm ++ ([.int .i64 x.amt, .int .i64 x.til] ++ pc x.p x.s))))) (by simp [hac]) rfl
  · exact Row.of h [.int .i64 x.kind] (dc x.frm ++ (dc x.to ++ (dc x.nm ++ ([.int .i64 x.amt, .int .i64 x.til] ++ pc x.p x.s)))) (by simp [hac]) rfl
  · exact Row.of h [.int .i64 x.kind, .int .i64 x.now] (dc x.to ++ (dc x.nm ++ ([.int .i64 x.amt, .int .i64 x.til] ++ pc x.p x.s))) (by simp [hac]) rfl
  · exact Row.of h ([.int .i64 x.kind, .int .i64 x.now] ++ dc x.frm) (dc x.nm ++ ([.int .i64 x.amt, .int .i64 x.til] ++ pc x.p x.s)) (by simp [hac]) (by simp [l1])
  · exact Row.of h ([.int .i64 x.kind, .int .i64 x.now] ++ (dc x.frm ++ dc x.to)) ([.int .i64 x.amt, .int .i64 x.til] ++ pc x.p x.s) (by simp [hac]) (by simp [l1, l2])
  · exact Row.of h ([.int .i64 x.kind, .int .i64 x.now] ++ (dc x.frm ++ (dc x.to ++ dc x.nm))) ([.int .i64 x.til] ++ pc x.p x.s) (by simp [hac]) (by simp [l1, l2, l3])
  · exact Row.of h ([.int .i64 x.kind, .int .i64 x.now] ++ (dc x.frm ++ (dc x.to ++ (dc x.nm ++ [.int .i64 x.amt])))) (pc x.p x.s) (by simp [hac]) (by simp [l1, l2, l3])
  · exact Row.of h ([.int .i64 x.kind, .int .i64 x.now] ++ (dc x.frm ++ (dc x.to ++ (dc x.nm ++ [.int .i64 x.amt, .int .i64 x.til])))) [] (by simp [hac]) (by simp [l1, l2, l3])
def HA.cut (x : HA) : Pu := { x.p with held := x.p.held.take 20 }
theorem HA.cut_len (x : HA) : x.cut.held.length = min x.p.held.length 20 := by simp [HA.cut, Nat.min_comm]
/-- A call that answers a purse of its own. -/
def gU (m : Nat) (p : Pu) : GD := ⟨Cl12, zC, fun l => .agg l.1.toArray, fun l w => ∃ s, l.1 = pc p s ∧ w.ownsRow m 56 11 s p.held.length (flt hc p.held)⟩
theorem gU_stab {m : Nat} {p : Pu} (x : (gU m p).X) : Stab [] ((gU m p).phi x) := fun w w' hk ⟨s, h1, h2⟩ => ⟨s, h1, own_kp0 h2 hk⟩
theorem take_min20 (l : List Hd) : (if (20 : Int) < (l.length : Int) then (20 : Int) else (l.length : Int)) = ((l.take 20).length : Int) := min_take l 20
attribute [local irreducible] CG NG SG Vals Der Row Blk MapIs IterAt DerX
set_option maxHeartbeats 16000000 in
/-- do, whatever the hub's own calls answer. -/
theorem do_gen {w : World} (x : HA) (hx : x.In w) (pv0 : Value) (R : Int → Value → World → Prop)
    (h0 : x.kind = 0 → ∀ W, Kp [] w W → Calls Try.prog 14 #[pv0, .int .i64 x.now, dv x.frm, dv x.to, dv x.nm, .int .i64 x.amt, .int .i64 x.til] W (fun e w' => ∃ z, e = .returned (.int .i64 z) ∧ R z (.slice none 0 0) w'))
    (h1 : x.kind = 1 → ∀ W, Kp [] w W → Calls Try.prog 15 #[pv0, .int .i64 x.now, dv x.nm, .int .i64 x.amt] W (fun e w' => ∃ z, e = .returned (.int .i64 z) ∧ R z (.slice none 0 0) w'))
    (h2 : x.kind = 2 → ∀ W, Kp [] w W → Calls Try.prog 27 #[pv0, .int .i64 x.now] W (fun e w' => ∃ v, e = .returned v ∧ R 0 v w'))
    (h3 : x.kind = 3 → ∀ W s, Kp [] w W → W.ownsRow w.heap.size 56 11 s x.cut.held.length (flt hc x.cut.held) → Calls Try.prog 12 #[pv0, dv x.frm, pv x.cut s, .int .i64 x.amt] W (fun e w' => ∃ z, e = .returned (.int .i64 z) ∧ R z (.slice none 0 0) w'))
    (h4 : ¬ (x.kind = 0 ∨ x.kind = 1 ∨ x.kind = 2 ∨ x.kind = 3) → ∀ W, Kp [] w W → R 0 (.slice none 0 0) W) :
    Calls Try.prog 22 #[pv0, hav x] w (fun e w' => ∃ z v, e = .returned (.tuple #[.int .i64 z, v]) ∧ R z v w') := by
  refine enter2 Try.func22 rfl Try.ntmps22 rfl ?_
  repeat (first|apply cA|apply cB|apply cD|apply cE|apply cF|apply cG|apply cH|apply cM|apply cN|apply cX|refine cY rfl rfl rfl rfl (by first|((first|apply qei|apply qmn|apply qto|apply qmv|apply qas|apply qlc|apply qla|apply qfa|apply qei|apply qln|apply qto)<;>(first|exact rfl|assumption|exact Ar.mk (by omega)|exact List.not_mem_nil|apply dc_length|apply pc_length|exact dcu|fail))|fail) ?_)
  refine SG.box rfl rfl rfl (by exact rho_of rfl) (fun b3 w1 hk1 hb3 hB3 => ?_)
  have hB3 : Blk w1 b3 (.cells (hac x).toArray 65) := hB3
  obtain ⟨r0, r1, r2, r10, r18, r26, r27, r28, -⟩ := hac_rows hB3
  repeat (first|apply cA|apply cB|apply cD|apply cE|apply cF|apply cG|apply cH|apply cM|apply cN|apply cX|refine cY rfl rfl rfl rfl (by first|((first|apply qei|apply qmn|apply qto|apply qmv|apply qas|apply qlc|apply qla|apply qfa|apply qei|apply qln|apply qto)<;>(first|exact rfl|assumption|exact Ar.mk (by omega)|exact List.not_mem_nil|apply dc_length|apply pc_length|exact dcu|fail))|fail) ?_)
  by_cases e0 : x.kind = 0
  · refine dB rfl (by exact rho_of rfl) (decide_eq_true e0) ?_
    repeat (first|apply cA|apply cB|apply cD|apply cE|apply cF|apply cG|apply cH|apply cM|apply cN|apply cX|refine cY rfl rfl rfl rfl (by first|((first|apply qei|apply qmn|apply qto|apply qmv|apply qas|apply qlc|apply qla|apply qfa|apply qei|apply qln|apply qto)<;>(first|exact rfl|assumption|exact Ar.mk (by omega)|exact List.not_mem_nil|apply dc_length|apply pc_length|exact dcu|fail))|fail) ?_)
    refine SG.call rfl rfl rfl (vs := [pv0, .int .i64 x.now, dv x.frm, dv x.to, dv x.nm, .int .i64 x.amt, .int .i64 x.til]) (by repeat' (first | exact True.intro | exact rho_of rfl | refine And.intro ?_ ?_)) ((h0 e0 w1 hk1).mono (fun e w2 hh => ?_))
    obtain ⟨z, he, hR⟩ := hh
    refine ⟨_, he, ?_⟩
    repeat (first|apply cA|apply cB|apply cD|apply cE|apply cF|apply cG|apply cH|apply cM|apply cN|apply cX|refine cY rfl rfl rfl rfl (by first|((first|apply qei|apply qmn|apply qto|apply qmv|apply qas|apply qlc|apply qla|apply qfa|apply qei|apply qln|apply qto)<;>(first|exact rfl|assumption|exact Ar.mk (by omega)|exact List.not_mem_nil|apply dc_length|apply pc_length|exact dcu|fail))|fail) ?_)
    refine ret2 (Or.inl rfl) Try.results22 (by first | exact ResV.tmp rfl | exact ResV.agg rfl rfl (by assumption) (by first | exact dc_length _ | exact nc_length _ | exact rc_length _ _ _ | exact ec_length _ | exact dl_length _ _ _ _ | rfl) | exact ResV.cell rfl rfl (by assumption)) (by first | exact ResV.tmp rfl | exact ResV.agg rfl rfl (by assumption) (by first | exact dc_length _ | exact nc_length _ | exact rc_length _ _ _ | exact ec_length _ | exact dl_length _ _ _ _ | rfl) | exact ResV.cell rfl rfl (by assumption)) ?_
    exact ⟨_, _, rfl, hR⟩
  refine dD rfl (by exact rho_of rfl) (decide_eq_false e0) ?_
  repeat (first|apply cA|apply cB|apply cD|apply cE|apply cF|apply cG|apply cH|apply cM|apply cN|apply cX|refine cY rfl rfl rfl rfl (by first|((first|apply qei|apply qmn|apply qto|apply qmv|apply qas|apply qlc|apply qla|apply qfa|apply qei|apply qln|apply qto)<;>(first|exact rfl|assumption|exact Ar.mk (by omega)|exact List.not_mem_nil|apply dc_length|apply pc_length|exact dcu|fail))|fail) ?_)
  by_cases e1 : x.kind = 1
  · refine dB rfl (by exact rho_of rfl) (decide_eq_true e1) ?_
    repeat (first|apply cA|apply cB|apply cD|apply cE|apply cF|apply cG|apply cH|apply cM|apply cN|apply cX|refine cY rfl rfl rfl rfl (by first|((first|apply qei|apply qmn|apply qto|apply qmv|apply qas|apply qlc|apply qla|apply qfa|apply qei|apply qln|apply qto)<;>(first|exact rfl|assumption|exact Ar.mk (by omega)|exact List.not_mem_nil|apply dc_length|apply pc_length|exact dcu|fail))|fail) ?_)
    refine SG.call rfl rfl rfl (vs := [pv0, .int .i64 x.now, dv x.nm, .int .i64 x.amt]) (by repeat' (first | exact True.intro | exact rho_of rfl | refine And.intro ?_ ?_)) ((h1 e1 w1 hk1).mono (fun e w2 hh => ?_))
    obtain ⟨z, he, hR⟩ := hh
    refine ⟨_, he, ?_⟩
    repeat (first|apply cA|apply cB|apply cD|apply cE|apply cF|apply cG|apply cH|apply cM|apply cN|apply cX|refine cY rfl rfl rfl rfl (by first|((first|apply qei|apply qmn|apply qto|apply qmv|apply qas|apply qlc|apply qla|apply qfa|apply qei|apply qln|apply qto)<;>(first|exact rfl|assumption|exact Ar.mk (by omega)|exact List.not_mem_nil|apply dc_length|apply pc_length|exact dcu|fail))|fail) ?_)
    refine ret2 (Or.inl rfl) Try.results22 (by first | exact ResV.tmp rfl | exact ResV.agg rfl rfl (by assumption) (by first | exact dc_length _ | exact nc_length _ | exact rc_length _ _ _ | exact ec_length _ | exact dl_length _ _ _ _ | rfl) | exact ResV.cell rfl rfl (by assumption)) (by first | exact ResV.tmp rfl | exact ResV.agg rfl rfl (by assumption) (by first | exact dc_length _ | exact nc_length _ | exact rc_length _ _ _ | exact ec_length _ | exact dl_length _ _ _ _ | rfl) | exact ResV.cell rfl rfl (by assumption)) ?_
    exact ⟨_, _, rfl, hR⟩
  refine dD rfl (by exact rho_of rfl) (decide_eq_false e1) ?_
  repeat (first|apply cA|apply cB|apply cD|apply cE|apply cF|apply cG|apply cH|apply cM|apply cN|apply cX|refine cY rfl rfl rfl rfl (by first|((first|apply qei|apply qmn|apply qto|apply qmv|apply qas|apply qlc|apply qla|apply qfa|apply qei|apply qln|apply qto)<;>(first|exact rfl|assumption|exact Ar.mk (by omega)|exact List.not_mem_nil|apply dc_length|apply pc_length|exact dcu|fail))|fail) ?_)
  by_cases e2 : x.kind = 2
  · refine dB rfl (by exact rho_of rfl) (decide_eq_true e2) ?_
    repeat (first|apply cA|apply cB|apply cD|apply cE|apply cF|apply cG|apply cH|apply cM|apply cN|apply cX|refine cY rfl rfl rfl rfl (by first|((first|apply qei|apply qmn|apply qto|apply qmv|apply qas|apply qlc|apply qla|apply qfa|apply qei|apply qln|apply qto)<;>(first|exact rfl|assumption|exact Ar.mk (by omega)|exact List.not_mem_nil|apply dc_length|apply pc_length|exact dcu|fail))|fail) ?_)
    refine SG.call rfl rfl rfl (vs := [pv0, .int .i64 x.now]) (by repeat' (first | exact True.intro | exact rho_of rfl | refine And.intro ?_ ?_)) ((h2 e2 w1 hk1).mono (fun e w2 hh => ?_))
    obtain ⟨v, he, hR⟩ := hh
    refine ⟨_, he, ?_⟩
    repeat (first|apply cA|apply cB|apply cD|apply cE|apply cF|apply cG|apply cH|apply cM|apply cN|apply cX|refine cY rfl rfl rfl rfl (by first|((first|apply qei|apply qmn|apply qto|apply qmv|apply qas|apply qlc|apply qla|apply qfa|apply qei|apply qln|apply qto)<;>(first|exact rfl|assumption|exact Ar.mk (by omega)|exact List.not_mem_nil|apply dc_length|apply pc_length|exact dcu|fail))|fail) ?_)
    refine ret2 (Or.inl rfl) Try.results22 (by first | exact ResV.tmp rfl | exact ResV.agg rfl rfl (by assumption) (by first | exact dc_length _ | exact nc_length _ | exact rc_length _ _ _ | exact ec_length _ | exact dl_length _ _ _ _ | rfl) | exact ResV.cell rfl rfl (by assumption)) (by first | exact ResV.tmp rfl | exact ResV.agg rfl rfl (by assumption) (by first | exact dc_length _ | exact nc_length _ | exact rc_length _ _ _ | exact ec_length _ | exact dl_length _ _ _ _ | rfl) | exact ResV.cell rfl rfl (by assumption)) ?_
    exact ⟨_, _, rfl, hR⟩
  refine dD rfl (by exact rho_of rfl) (decide_eq_false e2) ?_
  repeat (first|apply cA|apply cB|apply cD|apply cE|apply cF|apply cG|apply cH|apply cM|apply cN|apply cX|refine cY rfl rfl rfl rfl (by first|((first|apply qei|apply qmn|apply qto|apply qmv|apply qas|apply qlc|apply qla|apply qfa|apply qei|apply qln|apply qto)<;>(first|exact rfl|assumption|exact Ar.mk (by omega)|exact List.not_mem_nil|apply dc_length|apply pc_length|exact dcu|fail))|fail) ?_)
  by_cases e3 : x.kind = 3
  · refine dB rfl (by exact rho_of rfl) (decide_eq_true e3) ?_
    have r28 : Row w1 b3 28 (pc x.p (.slice x.a x.p.held.length x.c)) := r28
    repeat (first|apply cA|apply cB|apply cD|apply cE|apply cF|apply cG|apply cH|apply cM|apply cN|apply cX|refine cY rfl rfl rfl rfl (by first|((first|apply qei|apply qmn|apply qto|apply qmv|apply qas|apply qlc|apply qla|apply qfa|apply qei|apply qln|apply qto)<;>(first|exact rfl|assumption|exact Ar.mk (by omega)|exact List.not_mem_nil|apply dc_length|apply pc_length|exact dcu|fail))|fail) ?_)
    refine SG.alloc rfl rfl rfl (fun b6 w2 hk2 hb6 hB6 => ?_)
    refine SG.setAll (l := pc x.p (.slice x.a x.p.held.length x.c)) rfl rfl (by exact rho_of rfl) (by exact rho_of rfl) hB6 (pc_length _ _) rfl (pc_one _ _ _ _) (fun w3 hk3 hB6 => ?_)
    have hB6 : Blk w3 b6 (.cells (pc x.p (.slice x.a x.p.held.length x.c)).toArray 63) := hB6
    have k13 : Kp [] w1 w3 := hk2.trans_new hk3 (new1 (by omega))
    obtain ⟨-, -, -, -, s4, -⟩ := pc_rows hB6
    have hcl : (x.p.held.take 20).length ≤ x.c := by
      have := hx.cap
      rw [List.length_take]
      omega
    clear r28
    repeat (first|apply cA|apply cB|apply cD|apply cE|apply cF|apply cG|apply cH|apply cM|apply cN|apply cX|refine cY rfl rfl rfl rfl (by first|((first|apply qei|apply qmn|apply qto|apply qmv|apply qas|apply qlc|apply qla|apply qfa|apply qei|apply qln|apply qto)<;>(first|exact rfl|assumption|exact Ar.mk (by omega)|exact List.not_mem_nil|apply dc_length|apply pc_length|exact dcu|fail))|fail) ?_)
    rw [take_min20]
    repeat (first|apply cA|apply cB|apply cD|apply cE|apply cF|apply cG|apply cH|apply cM|apply cN|apply cX|refine cY rfl rfl rfl rfl (by first|((first|apply qei|apply qmn|apply qto|apply qmv|apply qas|apply qlc|apply qla|apply qfa|apply qei|apply qln|apply qto)<;>(first|exact rfl|assumption|exact Ar.mk (by omega)|exact List.not_mem_nil|apply dc_length|apply pc_length|exact dcu|fail))|fail) ?_)
    refine SG.store rfl rfl (by exact rho_of rfl) (by exact rho_of rfl) hB6 rfl (by show 0 + 11 + 1 ≤ _; simp [pc_length]) rfl (fun w4 hk4 hB64 => ?_)
    have hB64 : Blk w4 b6 (.cells (spl (pc x.p (.slice x.a x.p.held.length x.c)) 11 [.slice x.a (x.p.held.take 20).length x.c]).toArray 63) := hB64
    rw [pc_held] at hB64
    have k14 : Kp [] w1 w4 := k13.trans_new hk4 (new1 (by omega))
    have hR6 : Row w4 b6 0 (pc x.cut (.slice x.a x.cut.held.length x.c)) := Row.all hB64 rfl
    have r2 := r2.kp0 k14
    have r26 := r26.kp0 k14
    have hS := (hx.sl.take 20).kp0 (hk1.trans k14)
    clear s4
    repeat (first|apply cA|apply cB|apply cD|apply cE|apply cF|apply cG|apply cH|apply cM|apply cN|apply cX|refine cY rfl rfl rfl rfl (by first|((first|apply qei|apply qmn|apply qto|apply qmv|apply qas|apply qlc|apply qla|apply qfa|apply qei|apply qln|apply qto)<;>(first|exact rfl|assumption|exact Ar.mk (by omega)|exact List.not_mem_nil|apply dc_length|apply pc_length|exact dcu|fail))|fail) ?_)
    refine CG.free mixed 7 [0, 1, 2, 3, 5, 6, 4] [(4, gU w4.heap.size x.cut)] (by kernel_rfl) (by intro p hp y; simp at hp; subst hp; exact gU_stab y) ?_
    repeat (refine DerX.val rfl rfl rfl rfl (by first|((first|apply qei|apply qmn|apply qto|apply qmv|apply qas|apply qlc|apply qla|apply qfa|apply qei|apply qln|apply qto)<;>(first|exact rfl|assumption|exact Ar.mk (by omega)|exact List.not_mem_nil|apply dc_length|apply pc_length|exact dcu|fail))|fail) ?_)
    refine DerX.callE (vs := [pv x.cut (.slice x.a x.cut.held.length x.c)]) (gU w4.heap.size x.cut) rfl rfl rfl rfl (by repeat' (first | exact True.intro | exact rho_of rfl | refine And.intro ?_ ?_)) (fun W hk _ => (own_spec (c := x.c) x.cut (hS.kp0 hk) (by rw [x.cut_len]; omega)).mono (fun e w' hh => ?_)) (fun v' => ?_)
    · obtain ⟨s, he, ho, hk'⟩ := hh
      exact ⟨⟨pc x.cut s, pc_length _ _⟩, he, ⟨s, rfl, own_mono ho hk.size⟩, hk'⟩
    repeat (refine DerX.val rfl rfl rfl rfl (by first|((first|apply qei|apply qmn|apply qto|apply qmv|apply qas|apply qlc|apply qla|apply qfa|apply qei|apply qln|apply qto)<;>(first|exact rfl|assumption|exact Ar.mk (by omega)|exact List.not_mem_nil|apply dc_length|apply pc_length|exact dcu|fail))|fail) ?_)
    refine DerX.tl (fun w5 hk5 hF => ?_)
    obtain ⟨s, hs, ho⟩ : ∃ s, v'.1 = pc x.cut s ∧ w5.ownsRow w4.heap.size 56 11 s x.cut.held.length (flt hc x.cut.held) := hF _ (.head _)
    clear hF r2 r26 hR6
    have k5 := (hk1.trans k14).trans hk5
    repeat (first|apply cA|apply cB|apply cD|apply cE|apply cF|apply cG|apply cH|apply cM|apply cN|apply cX|refine cY rfl rfl rfl rfl (by first|((first|apply qei|apply qmn|apply qto|apply qmv|apply qas|apply qlc|apply qla|apply qfa|apply qei|apply qln|apply qto)<;>(first|exact rfl|assumption|exact Ar.mk (by omega)|exact List.not_mem_nil|apply dc_length|apply pc_length|exact dcu|fail))|fail) ?_)
    refine SG.call rfl rfl rfl (vs := [pv0, dv x.frm, .agg v'.1.toArray, .int .i64 x.amt]) (by repeat' (first | exact True.intro | exact rho_of rfl | refine And.intro ?_ ?_)) ?_
    rw [hs]
    refine (h3 e3 w5 s k5 (own_mono ho (hk1.trans k14).size)).mono (fun e w6 hh => ?_)
    obtain ⟨z, he, hR⟩ := hh
    refine ⟨_, he, ?_⟩
    repeat (first|apply cA|apply cB|apply cD|apply cE|apply cF|apply cG|apply cH|apply cM|apply cN|apply cX|refine cY rfl rfl rfl rfl (by first|((first|apply qei|apply qmn|apply qto|apply qmv|apply qas|apply qlc|apply qla|apply qfa|apply qei|apply qln|apply qto)<;>(first|exact rfl|assumption|exact Ar.mk (by omega)|exact List.not_mem_nil|apply dc_length|apply pc_length|exact dcu|fail))|fail) ?_)
    refine ret2 (Or.inl rfl) Try.results22 (by first | exact ResV.tmp rfl | exact ResV.agg rfl rfl (by assumption) (by first | exact dc_length _ | exact nc_length _ | exact rc_length _ _ _ | exact ec_length _ | exact dl_length _ _ _ _ | rfl) | exact ResV.cell rfl rfl (by assumption)) (by first | exact ResV.tmp rfl | exact ResV.agg rfl rfl (by assumption) (by first | exact dc_length _ | exact nc_length _ | exact rc_length _ _ _ | exact ec_length _ | exact dl_length _ _ _ _ | rfl) | exact ResV.cell rfl rfl (by assumption)) ?_
    exact ⟨_, _, rfl, hR⟩
  refine dD rfl (by exact rho_of rfl) (decide_eq_false e3) ?_
  repeat (first|apply cA|apply cB|apply cD|apply cE|apply cF|apply cG|apply cH|apply cM|apply cN|apply cX|refine cY rfl rfl rfl rfl (by first|((first|apply qei|apply qmn|apply qto|apply qmv|apply qas|apply qlc|apply qla|apply qfa|apply qei|apply qln|apply qto)<;>(first|exact rfl|assumption|exact Ar.mk (by omega)|exact List.not_mem_nil|apply dc_length|apply pc_length|exact dcu|fail))|fail) ?_)
  refine ret2 (Or.inl rfl) Try.results22 (by first | exact ResV.tmp rfl | exact ResV.agg rfl rfl (by assumption) (by first | exact dc_length _ | exact nc_length _ | exact rc_length _ _ _ | exact ec_length _ | exact dl_length _ _ _ _ | rfl) | exact ResV.cell rfl rfl (by assumption)) (by first | exact ResV.tmp rfl | exact ResV.agg rfl rfl (by assumption) (by first | exact dc_length _ | exact nc_length _ | exact rc_length _ _ _ | exact ec_length _ | exact dl_length _ _ _ _ | rfl) | exact ResV.cell rfl rfl (by assumption)) ?_
  exact ⟨_, _, rfl, h4 (fun h => by rcases h with h | h | h | h <;> contradiction) w1 hk1⟩
end Go.Proofs.Ytajllbdeoopimaa
namespace Go.Proofs.Ytajllbdeoopimaa
set_option linter.unusedVariables false
def doE (win : Int) (s : ST) (x : HA) : Int := if x.kind = 0 then fwdZ win s x.now x.frm x.to x.nm x.amt x.til else if x.kind = 1 then setZ s x.now x.nm x.amt else if x.kind = 3 then openZ s.l x.frm x.cut x.amt else 0
def doS (win : Int) (s : ST) (x : HA) : ST := if x.kind = 0 then (if fwdZ win s x.now x.frm x.to x.nm x.amt x.til = 0 then fwdS win s x.frm x.to x.nm x.amt x.til else s) else if x.kind = 1 then (if setZ s x.now x.nm x.amt = 0 then setS s x.nm x.amt else s) else if x.kind = 2 then (expAll x.now s).1 else if x.kind = 3 then (if openZ s.l x.frm x.cut x.amt = 0 then ⟨aput s.l x.frm (x.cut, x.amt), s.m⟩ else s) else s
def doG (s : ST) (x : HA) : List Dg := if x.kind = 2 then (expAll x.now s).2 else []
theorem aput_len {κ ν : Type} [DecidableEq κ] (k : κ) (v : ν) : ∀ m : List (κ × ν), (aput m k v).length ≤ m.length + 1
  | [] => by simp [aput]
  | (k', u) :: m => by
    simp only [aput]
    split
    · simp
    · simp only [List.length_cons]
      have := aput_len k v m
      omega
theorem keys_len' {κ ν : Type} {l l' : List (κ × ν)} (h : l'.map (·.1) = l.map (·.1)) : l'.length = l.length := by
  have := congrArg List.length h
  simpa using this
theorem exp2_len (now : Int) (s : ST) (n : Dg) (r : Pr) : (exp2 now s n r).1.m.length ≤ s.m.length := by
  unfold exp2
  split
  · exact Nat.le_refl _
  · split
    · split
      · exact List.length_filter_le _ _
      · exact Nat.le_refl _
    · exact Nat.le_refl _
theorem exp1_len (now : Int) (s : ST) (n : Dg) : (exp1 now s n).1.m.length ≤ s.m.length := by
  unfold exp1
  cases hn : alook s.m n with
  | none => exact Nat.le_refl _
  | some r =>
    simp only
    split
    · exact exp2_len _ _ _ _
    · split
      · exact Nat.le_refl _
      · split
        · exact Nat.le_refl _
        · split
          · refine Nat.le_trans (exp2_len _ _ _ _) ?_
            show (aput s.m n r.gone).length ≤ _
            rw [keys_len' (keys_put hn)]
            exact Nat.le_refl _
          · exact Nat.le_refl _
theorem expF_mlen (now : Int) : ∀ (ns : List Dg) (q : ST × List Dg), (ns.foldl (expF now) q).1.m.length ≤ q.1.m.length
  | [], q => Nat.le_refl _
  | n :: ns, q => by
    rw [List.foldl_cons]
    exact Nat.le_trans (expF_mlen now ns _) (exp1_len now q.1 n)
theorem do_len (win : Int) (s : ST) (x : HA) : (doS win s x).m.length ≤ s.m.length + 1 := by
  unfold doS
  split
  · split
    · unfold fwdS
      split
      · exact aput_len _ _ _
      · exact Nat.le_succ _
    · exact Nat.le_succ _
  · split
    · split
      · unfold setS
        split
        · exact Nat.le_succ _
        · split
          · exact Nat.le_succ_of_le (List.length_filter_le _ _)
          · exact Nat.le_succ _
      · exact Nat.le_succ _
    · split
      · exact Nat.le_succ_of_le (expF_mlen _ _ _)
      · split
        · split <;> exact Nat.le_succ _
        · exact Nat.le_succ _
/-- An act leaves all that is so; what was opened has what it brought. -/
theorem do_inv {win : Int} {s : ST} (hi : Inv win s) (hw : 0 ≤ win) (x : HA) : Inv win (doS win s x) ∧ sumA backL (doS win s x).l = sumA backL s.l + (if x.kind = 3 ∧ doE win s x = 0 then haveP x.p x.amt else 0) ∧ (¬ (x.kind = 3 ∧ doE win s x = 0) → Stp win s (doS win s x)) ∧ (x.kind = 3 ∧ doE win s x = 0 → doS win s x = ⟨aput s.l x.frm (x.cut, x.amt), s.m⟩ ∧ alook s.l x.frm = none ∧ x.cut.Ok ∧ (x.amt = 0 ∨ x.amt = 1) ∧ x.p.held = []) := by
  have key : Stp win s (doS win s x) → ¬ (x.kind = 3 ∧ doE win s x = 0) → _ := fun h hn => (⟨h.inv, by rw [if_neg hn, h.back]; omega, fun _ => h, fun h2 => absurd h2 hn⟩ : Inv win (doS win s x) ∧ sumA backL (doS win s x).l = sumA backL s.l + (if x.kind = 3 ∧ doE win s x = 0 then haveP x.p x.amt else 0) ∧ (¬ (x.kind = 3 ∧ doE win s x = 0) → Stp win s (doS win s x)) ∧ (x.kind = 3 ∧ doE win s x = 0 → doS win s x = ⟨aput s.l x.frm (x.cut, x.amt), s.m⟩ ∧ alook s.l x.frm = none ∧ x.cut.Ok ∧ (x.amt = 0 ∨ x.amt = 1) ∧ x.p.held = []))
  by_cases e0 : x.kind = 0
  · refine key ?_ (fun h => by have := h.1; omega)
    unfold doS
    rw [if_pos e0]
    split
    · rename_i h; exact fwd_stp hi hw h
    · exact Stp.refl hi
  by_cases e1 : x.kind = 1
  · refine key ?_ (fun h => by have := h.1; omega)
    unfold doS
    rw [if_neg e0, if_pos e1]
    split
    · rename_i h; exact set_stp hi h
    · exact Stp.refl hi
  by_cases e2 : x.kind = 2
  · refine key ?_ (fun h => by have := h.1; omega)
    unfold doS
    rw [if_neg e0, if_neg e1, if_pos e2]
    exact exp_stp (srt (s.m.map (·.1))) (s, []) hi
  by_cases e3 : x.kind = 3
  · have ee : doE win s x = openZ s.l x.frm x.cut x.amt := by unfold doE; rw [if_neg e0, if_neg e1, if_pos e3]
    have es : doS win s x = if openZ s.l x.frm x.cut x.amt = 0 then ⟨aput s.l x.frm (x.cut, x.amt), s.m⟩ else s := by unfold doS; rw [if_neg e0, if_neg e1, if_neg e2, if_pos e3]
    by_cases hz : openZ s.l x.frm x.cut x.amt = 0
    · rw [if_pos hz] at es
      obtain ⟨h1, h2, h3, h4, h5⟩ := open_inv hi hz
      have hc : x.kind = 3 ∧ doE win s x = 0 := ⟨e3, by rw [ee, hz]⟩
      have hnil : x.p.held = [] := by
        have h6 : x.p.held.take 20 = [] := h5
        rcases List.take_eq_nil_iff.1 h6 with h | h
        · cases h
        · exact h
      refine ⟨by rw [es]; exact h1, ?_, fun hn => absurd hc hn, fun _ => ⟨es, h2, h3, h4, hnil⟩⟩
      rw [if_pos hc, es]
      show sumA backL (aput s.l x.frm (x.cut, x.amt)) = _
      rw [sumA_new backL h2]
      have e4 : backL (x.cut, x.amt) = haveP x.p x.amt := by
        unfold backL
        simp only [h5, sumF]
        show haveP x.p x.amt + 0 = _
        omega
      rw [e4]
    · rw [if_neg hz] at es
      refine key ?_ (fun h => hz (by rw [← ee]; exact h.2))
      rw [es]
      exact Stp.refl hi
  · refine key ?_ (fun h => e3 h.1)
    unfold doS
    rw [if_neg e0, if_neg e1, if_neg e2, if_neg e3]
    exact Stp.refl hi
theorem do_e {w : World} {bh bs bp : Nat} {win : Int} {s : ST} (hH : HubE w bh bs bp win s) (hi : Inv win s) (hlen : s.m.length ≤ 1000) (hwin : 0 ≤ win ∧ win ≤ 1048576) (x : HA) (hx : x.In w) :
    Calls Try.prog 22 #[.pointer (some ⟨bh, 0, none⟩), hav x] w (fun e w' => ∃ v, e = .returned (.tuple #[.int .i64 (doE win s x), v]) ∧ w'.ownsRow w.heap.size 25 8 v (doG s x).length (flt dc (doG s x)) ∧ Kp [bs, bp] w w' ∧ HubE w' bh bs bp win (doS win s x)) := by
  refine (do_gen x hx (.pointer (some ⟨bh, 0, none⟩)) (fun z v w' => z = doE win s x ∧ w'.ownsRow w.heap.size 25 8 v (doG s x).length (flt dc (doG s x)) ∧ Kp [bs, bp] w w' ∧ HubE w' bh bs bp win (doS win s x)) (fun e W hk => ?_) (fun e W hk => ?_) (fun e W hk => ?_) (fun e W sl hk ho => ?_) (fun hn W hk => ?_)).mono (fun e w' ⟨z, v, h1, h2, h3⟩ => ⟨v, by rw [h1, h2], h3⟩)
  · refine (forward_e (hH.kp0 hk) hi x.now x.frm x.to x.nm x.amt x.til hwin hx.t.2).mono (fun e' w' hh => ?_)
    obtain ⟨h1, h2, h3⟩ := hh
    refine ⟨_, h1, by unfold doE; rw [if_pos e], ?_, hk.any.trans h2, by unfold doS; rw [if_pos e]; exact h3⟩
    rw [show doG s x = [] from if_neg (by omega)]
    exact own_nil
  · refine (settle_e (hH.kp0 hk) hi x.now x.nm x.amt).mono (fun e' w' hh => ?_)
    obtain ⟨h1, h2, h3⟩ := hh
    have e0 : ¬ x.kind = 0 := by omega
    refine ⟨_, h1, by unfold doE; rw [if_neg e0, if_pos e], ?_, hk.any.trans h2, by unfold doS; rw [if_neg e0, if_pos e]; exact h3⟩
    rw [show doG s x = [] from if_neg (by omega)]
    exact own_nil
  · refine (expire_e (hH.kp0 hk) hi hlen x.now).mono (fun e' w' hh => ?_)
    obtain ⟨v, h1, h2, h3, h4⟩ := hh
    have e0 : ¬ x.kind = 0 := by omega
    have e1 : ¬ x.kind = 1 := by omega
    refine ⟨v, h1, by unfold doE; rw [if_neg e0, if_neg e1, if_neg (by omega)], ?_, hk.any.trans h3, by unfold doS; rw [if_neg e0, if_neg e1, if_pos e]; exact h4⟩
    rw [show doG s x = (expAll x.now s).2 from if_pos e]
    exact own_mono h2 hk.size
  · obtain ⟨a, c, rfl, hcap, hS⟩ := Sl.own hc_length ho rfl
    refine (open_e (hH.kp0 hk) x.frm x.cut x.amt hS (by rw [x.cut_len]; omega) hcap).mono (fun e' w' hh => ?_)
    obtain ⟨h1, h2, h3⟩ := hh
    have e0 : ¬ x.kind = 0 := by omega
    have e1 : ¬ x.kind = 1 := by omega
    have e2 : ¬ x.kind = 2 := by omega
    refine ⟨_, h1, by unfold doE; rw [if_neg e0, if_neg e1, if_pos e], ?_, hk.any.trans h2, by unfold doS; rw [if_neg e0, if_neg e1, if_neg e2, if_pos e]; exact h3⟩
    rw [show doG s x = [] from if_neg e2]
    exact own_nil
  · have e0 : ¬ x.kind = 0 := fun h => hn (Or.inl h)
    have e1 : ¬ x.kind = 1 := fun h => hn (Or.inr (Or.inl h))
    have e2 : ¬ x.kind = 2 := fun h => hn (Or.inr (Or.inr (Or.inl h)))
    have e3 : ¬ x.kind = 3 := fun h => hn (Or.inr (Or.inr (Or.inr h)))
    refine ⟨by unfold doE; rw [if_neg e0, if_neg e1, if_neg e3], ?_, hk.any, by unfold doS; rw [if_neg e0, if_neg e1, if_neg e2, if_neg e3]; exact hH.kp0 hk⟩
    rw [show doG s x = [] from if_neg e2]
    exact own_nil
end Go.Proofs.Ytajllbdeoopimaa
namespace Go.Proofs.Ytajllbdeoopimaa
set_option linter.unusedVariables false
/-- A hub behind so many acts. -/
def stI (win : Int) (l : List HA) (i : Nat) : ST := (l.take i).foldl (doS win) ⟨[], []⟩
theorem stI_succ (win : Int) {l : List HA} {i : Nat} (h : i < l.length) : stI win l (i + 1) = doS win (stI win l i) l[i] := by
  unfold stI
  rw [List.take_succ_eq_append_getElem h, List.foldl_append]
  rfl
theorem hubE_new {w : World} {bh bs bp : Nat} {win : Int} (h : HubAt w bh bs bp win [] []) : HubE w bh bs bp win ⟨[], []⟩ := ⟨[], rfl, h⟩
attribute [local irreducible] CG NG SG Vals Der Row Blk MapIs IterAt DerX
end Go.Proofs.Ytajllbdeoopimaa
namespace Go.Proofs.Ytajllbdeoopimaa
set_option linter.unusedVariables false
section
variable {w : World} {bh bs bp : Nat} {win : Int} {s : ST}
theorem purse_e (hH : HubE w bh bs bp win s) (k : Dg) {x : Ps} (hk : alook s.l k = some x) : Calls Try.prog 16 #[.pointer (some ⟨bh, 0, none⟩), dv k] w (fun e w' => ∃ v, e = .returned (.tuple #[v, .bool true]) ∧ PuAt w.heap.size w' v x.1 ∧ Kp [] w w') := by
  obtain ⟨ms, e, hH⟩ := hH
  rw [← e] at hk
  obtain ⟨y, hy, rfl⟩ := er_some hk
  exact purse_some hH k hy (hH.at' _ (alook_mem hy)) (hH.few _ (alook_mem hy))
theorem peers_e (hH : HubE w bh bs bp win s) (hl : s.l.length ≤ 1000) : RetO Try.prog 25 dc 8 25 #[.pointer (some ⟨bh, 0, none⟩)] w (srt (s.l.map (·.1))) := by
  obtain ⟨ms, e, hH⟩ := hH
  have := peers_spec hH (by rw [← er_len, e]; exact hl)
  rwa [← er_keys, e] at this
theorem HubE.map1 {w' : World} {bt : Nat} {κ ν : Type} {enc : κ → Value} {V : ν → Value} {m : List (κ × ν)} (h : HubE w bh bs bp win s) (hm : MapIs w bt enc V m) (hk : Kp [bt] w w') (n1 : bs ≠ bt) (n2 : bp ≠ bt) : HubE w' bh bs bp win s := by
  obtain ⟨ms, e, h⟩ := h
  exact ⟨ms, e, h.other hm hm (kp2a hk) n1 n1 n2 n2⟩
end
/-- The totals, by the names. -/
def totL (l : Pl) : List (Dg × Int) := l.map (fun q => (q.1, sumP q.2.1))
theorem totL_look (k : Dg) : ∀ l : Pl, alook (totL l) k = (alook l k).map (fun x => sumP x.1)
  | [] => rfl
  | (k', v) :: l => by
    show (if k' = k then some (sumP v.1) else alook (totL l) k) = (if k' = k then some v else alook l k).map _
    by_cases e : k' = k
    · rw [if_pos e, if_pos e]; rfl
    · rw [if_neg e, if_neg e, totL_look k l]
theorem totL_put (k : Dg) (v : Ps) : ∀ l : Pl, totL (aput l k v) = aput (totL l) k (sumP v.1)
  | [] => rfl
  | (k', u) :: l => by
    show totL (if k' = k then (k', v) :: l else (k', u) :: aput l k v) = (if k' = k then (k', sumP v.1) :: totL l else (k', sumP u.1) :: aput (totL l) k (sumP v.1))
    by_cases e : k' = k
    · rw [if_pos e, if_pos e]; rfl
    · rw [if_neg e, if_neg e, ← totL_put k v l]; rfl
theorem totL_keys (l : Pl) : (totL l).map (·.1) = l.map (·.1) := by simp [totL]
theorem al_ext {κ ν : Type} [DecidableEq κ] : ∀ {a b : List (κ × ν)}, a.map (·.1) = b.map (·.1) → (a.map (·.1)).Nodup → (∀ k, alook a k = alook b k) → a = b
  | [], [], _, _, _ => rfl
  | [], _ :: _, h, _, _ => by cases h
  | _ :: _, [], h, _, _ => by cases h
  | (k, u) :: a, (k', v) :: b, h, hd, hl => by
    simp only [List.map_cons, List.cons.injEq] at h
    obtain ⟨rfl, h⟩ := h
    have hd' := List.nodup_cons.1 hd
    have h1 := hl k
    simp only [alook, if_pos] at h1
    cases h1
    congr 1
    refine al_ext h hd'.2 (fun z => ?_)
    by_cases e : k = z
    · subst e
      rw [look_none hd'.1, look_none (by rw [← h]; exact hd'.1)]
    · have h2 := hl z
      simp only [alook] at h2
      rwa [if_neg e, if_neg e] at h2
theorem totL_stp {win : Int} {s s' : ST} (hi : Inv win s) (h : Stp win s s') : totL s'.l = totL s.l := by
  refine al_ext (by rw [totL_keys, totL_keys, h.keys]) (by rw [totL_keys]; exact h.inv.kl) (fun k => ?_)
  rw [totL_look, totL_look]
  have := h.tot k
  cases e1 : alook s'.l k with
  | none =>
    cases e2 : alook s.l k with
    | none => rfl
    | some y => rw [e1, e2] at this; cases this
  | some x =>
    cases e2 : alook s.l k with
    | none => rw [e1, e2] at this; cases this
    | some y =>
      rw [e1, e2] at this
      simp only [Option.map_some, Option.some.injEq, Prod.mk.injEq] at this
      simp [this.1]
def iz (z : Int) : Value := .int .i64 z
attribute [local irreducible] CG NG SG Vals Der Row Blk MapIs IterAt DerX
set_option maxHeartbeats 64000000 in
theorem totals_walk (w : World) (a : Option Addr) (n c : Nat) (l : List HA) (hl : l.length = n) (hS : Sl hac 40 w a l) (hin : ∀ x ∈ l, x.In w) (hn : n ≤ maxLen) : Ret Try.prog 5 #[.slice a n c] w (.bool true) := by
  subst hl
  refine enter1 Try.func5 rfl Try.ntmps5 rfl ?_
  have hmax : Ar (l.length ≤ 9223372036854775807) := ⟨hn⟩
  clear hn
  repeat (first|apply cA|apply cB|apply cD|apply cE|apply cF|apply cG|apply cH|apply cJ|apply cU|refine cV rfl ?_|apply cX|refine cY rfl rfl rfl rfl (by first|((first|apply qlm|apply qep|apply qmv|apply qas|apply qlc|apply qla|apply qfa|apply qix|apply qpk|apply qls|apply qei|apply qni|apply qad|apply qln|apply qlv|apply qxt|apply qnt|apply qep|apply qlm)<;>(first|exact rfl|assumption|exact Ar.mk (by omega)|exact dct (by first|assumption|omega)|exact dcf (by first|assumption|omega)|exact List.not_mem_nil|apply dc_length|apply hc_length|apply pc_length|apply hac_length|exact lk1 (by assumption)|exact nm2 (by omega) (by omega)|fail))|fail) ?_)
  refine SG.call rfl rfl rfl (vs := [.int .i64 5]) (by repeat' (first | exact True.intro | exact rho_of rfl | refine And.intro ?_ ?_)) ((new_spec 5 (by decide) (by decide) w).mono (fun e w1 hh => ?_))
  obtain ⟨bh, bs, bp, he, hk1, gh, gs, gp, hH1⟩ := hh
  refine ⟨_, he, ?_⟩
  clear he
  have ls1 := hH1.sh.lt
  have lp1 := hH1.pr.lt
  repeat (first | first|apply cA|apply cB|apply cD|apply cE|apply cF|apply cG|apply cH|apply cJ|apply cU|refine cV rfl ?_|apply cX|refine cY rfl rfl rfl rfl (by first|((first|apply qlm|apply qep|apply qmv|apply qas|apply qlc|apply qla|apply qfa|apply qix|apply qpk|apply qls|apply qei|apply qni|apply qad|apply qln|apply qlv|apply qxt|apply qnt|apply qep|apply qlm)<;>(first|exact rfl|assumption|exact Ar.mk (by omega)|exact dct (by first|assumption|omega)|exact dcf (by first|assumption|omega)|exact List.not_mem_nil|apply dc_length|apply hc_length|apply pc_length|apply hac_length|exact lk1 (by assumption)|exact nm2 (by omega) (by omega)|fail))|fail) ?_ | refine cZ rfl rfl ?_)
  refine dD rfl (by exact rho_of rfl) rfl ?_
  repeat (first|apply cA|apply cB|apply cD|apply cE|apply cF|apply cG|apply cH|apply cJ|apply cU|refine cV rfl ?_|apply cX|refine cY rfl rfl rfl rfl (by first|((first|apply qlm|apply qep|apply qmv|apply qas|apply qlc|apply qla|apply qfa|apply qix|apply qpk|apply qls|apply qei|apply qni|apply qad|apply qln|apply qlv|apply qxt|apply qnt|apply qep|apply qlm)<;>(first|exact rfl|assumption|exact Ar.mk (by omega)|exact dct (by first|assumption|omega)|exact dcf (by first|assumption|omega)|exact List.not_mem_nil|apply dc_length|apply hc_length|apply pc_length|apply hac_length|exact lk1 (by assumption)|exact nm2 (by omega) (by omega)|fail))|fail) ?_)
  refine SG.makeMap (dv (n := 8)) iz rfl rfl (fun bt w2 hk2 hbt hm2 => ?_)
  have hH2 := hH1.kp0 hk2
  have k2 := hk1.trans hk2
  have s1 := hk1.size
  repeat (first|apply cA|apply cB|apply cD|apply cE|apply cF|apply cG|apply cH|apply cJ|apply cU|refine cV rfl ?_|apply cX|refine cY rfl rfl rfl rfl (by first|((first|apply qlm|apply qep|apply qmv|apply qas|apply qlc|apply qla|apply qfa|apply qix|apply qpk|apply qls|apply qei|apply qni|apply qad|apply qln|apply qlv|apply qxt|apply qnt|apply qep|apply qlm)<;>(first|exact rfl|assumption|exact Ar.mk (by omega)|exact dct (by first|assumption|omega)|exact dcf (by first|assumption|omega)|exact List.not_mem_nil|apply dc_length|apply hc_length|apply pc_length|apply hac_length|exact lk1 (by assumption)|exact nm2 (by omega) (by omega)|fail))|fail) ?_)
  refine CG.loop (X := Nat) (fun i => [(0, .slice a l.length c), (3, .pointer (some ⟨bh, 0, none⟩)), (5, .map (some bt)), (6, .int .i64 (i : Int))])
    (fun i w' => i ≤ 24 ∧ Kp [] w w' ∧ HubE w' bh bs bp 5 (stI 5 l i) ∧ Inv 5 (stI 5 l i) ∧ (stI 5 l i).m.length ≤ i ∧ MapIs w' bt (dv (n := 8)) iz (totL (stI 5 l i).l)) (fun i => 24 - i) 0 ⟨Nat.zero_le _, k2, hubE_new hH2, inv0 5, Nat.zero_le _, hm2⟩ (by (repeat' (first | exact True.intro | exact rfl | refine And.intro ?_ ?_))) ?_
  clear hH1 hH2 hm2 hk1 hk2 k2
  rintro i w3 ⟨hi24, hk3, hH3, hinv, hml, hm3⟩
  by_cases hlt : i < l.length
  rotate_left
  · have g1 : ¬ (i : Int) < (l.length : Int) := by omega
    repeat (first | first|apply cA|apply cB|apply cD|apply cE|apply cF|apply cG|apply cH|apply cJ|apply cU|refine cV rfl ?_|apply cX|refine cY rfl rfl rfl rfl (by first|((first|apply qlm|apply qep|apply qmv|apply qas|apply qlc|apply qla|apply qfa|apply qix|apply qpk|apply qls|apply qei|apply qni|apply qad|apply qln|apply qlv|apply qxt|apply qnt|apply qep|apply qlm)<;>(first|exact rfl|assumption|exact Ar.mk (by omega)|exact dct (by first|assumption|omega)|exact dcf (by first|assumption|omega)|exact List.not_mem_nil|apply dc_length|apply hc_length|apply pc_length|apply hac_length|exact lk1 (by assumption)|exact nm2 (by omega) (by omega)|fail))|fail) ?_ | refine cZ rfl rfl ?_)
    refine dD rfl (by exact rho_of rfl) rfl ?_
    repeat (first | first|apply cA|apply cB|apply cD|apply cE|apply cF|apply cG|apply cH|apply cJ|apply cU|refine cV rfl ?_|apply cX|refine cY rfl rfl rfl rfl (by first|((first|apply qlm|apply qep|apply qmv|apply qas|apply qlc|apply qla|apply qfa|apply qix|apply qpk|apply qls|apply qei|apply qni|apply qad|apply qln|apply qlv|apply qxt|apply qnt|apply qep|apply qlm)<;>(first|exact rfl|assumption|exact Ar.mk (by omega)|exact dct (by first|assumption|omega)|exact dcf (by first|assumption|omega)|exact List.not_mem_nil|apply dc_length|apply hc_length|apply pc_length|apply hac_length|exact lk1 (by assumption)|exact nm2 (by omega) (by omega)|fail))|fail) ?_ | refine cZ rfl rfl ?_)
    refine SG.ret rfl rfl rfl (vs := []) (by repeat' (first | exact True.intro | exact rho_of rfl | refine And.intro ?_ ?_)) (known_spec w3) (fun w4 hk4 => ?_)
    repeat (first|apply cA|apply cB|apply cD|apply cE|apply cF|apply cG|apply cH|apply cJ|apply cU|refine cV rfl ?_|apply cX|refine cY rfl rfl rfl rfl (by first|((first|apply qlm|apply qep|apply qmv|apply qas|apply qlc|apply qla|apply qfa|apply qix|apply qpk|apply qls|apply qei|apply qni|apply qad|apply qln|apply qlv|apply qxt|apply qnt|apply qep|apply qlm)<;>(first|exact rfl|assumption|exact Ar.mk (by omega)|exact dct (by first|assumption|omega)|exact dcf (by first|assumption|omega)|exact List.not_mem_nil|apply dc_length|apply hc_length|apply pc_length|apply hac_length|exact lk1 (by assumption)|exact nm2 (by omega) (by omega)|fail))|fail) ?_)
    refine ret1 (Or.inl rfl) Try.results5 (by first | exact ResV.tmp rfl | exact ResV.agg rfl rfl (by assumption) (by first | exact dc_length _ | exact nc_length _ | exact rc_length _ _ _ | exact ec_length _ | exact dl_length _ _ _ _ | rfl) | exact ResV.cell rfl rfl (by assumption)) ?_
    exact ⟨rfl, hk3.trans hk4⟩
  have g1 : (i : Int) < (l.length : Int) := by omega
  by_cases h24 : i < 24
  rotate_left
  · have g2 : ¬ (i : Int) < 24 := by omega
    repeat (first | first|apply cA|apply cB|apply cD|apply cE|apply cF|apply cG|apply cH|apply cJ|apply cU|refine cV rfl ?_|apply cX|refine cY rfl rfl rfl rfl (by first|((first|apply qlm|apply qep|apply qmv|apply qas|apply qlc|apply qla|apply qfa|apply qix|apply qpk|apply qls|apply qei|apply qni|apply qad|apply qln|apply qlv|apply qxt|apply qnt|apply qep|apply qlm)<;>(first|exact rfl|assumption|exact Ar.mk (by omega)|exact dct (by first|assumption|omega)|exact dcf (by first|assumption|omega)|exact List.not_mem_nil|apply dc_length|apply hc_length|apply pc_length|apply hac_length|exact lk1 (by assumption)|exact nm2 (by omega) (by omega)|fail))|fail) ?_ | refine cZ rfl rfl ?_)
    refine dD rfl (by exact rho_of rfl) rfl ?_
    repeat (first | first|apply cA|apply cB|apply cD|apply cE|apply cF|apply cG|apply cH|apply cJ|apply cU|refine cV rfl ?_|apply cX|refine cY rfl rfl rfl rfl (by first|((first|apply qlm|apply qep|apply qmv|apply qas|apply qlc|apply qla|apply qfa|apply qix|apply qpk|apply qls|apply qei|apply qni|apply qad|apply qln|apply qlv|apply qxt|apply qnt|apply qep|apply qlm)<;>(first|exact rfl|assumption|exact Ar.mk (by omega)|exact dct (by first|assumption|omega)|exact dcf (by first|assumption|omega)|exact List.not_mem_nil|apply dc_length|apply hc_length|apply pc_length|apply hac_length|exact lk1 (by assumption)|exact nm2 (by omega) (by omega)|fail))|fail) ?_ | refine cZ rfl rfl ?_)
    refine SG.ret rfl rfl rfl (vs := []) (by repeat' (first | exact True.intro | exact rho_of rfl | refine And.intro ?_ ?_)) (known_spec w3) (fun w4 hk4 => ?_)
    repeat (first|apply cA|apply cB|apply cD|apply cE|apply cF|apply cG|apply cH|apply cJ|apply cU|refine cV rfl ?_|apply cX|refine cY rfl rfl rfl rfl (by first|((first|apply qlm|apply qep|apply qmv|apply qas|apply qlc|apply qla|apply qfa|apply qix|apply qpk|apply qls|apply qei|apply qni|apply qad|apply qln|apply qlv|apply qxt|apply qnt|apply qep|apply qlm)<;>(first|exact rfl|assumption|exact Ar.mk (by omega)|exact dct (by first|assumption|omega)|exact dcf (by first|assumption|omega)|exact List.not_mem_nil|apply dc_length|apply hc_length|apply pc_length|apply hac_length|exact lk1 (by assumption)|exact nm2 (by omega) (by omega)|fail))|fail) ?_)
    refine ret1 (Or.inl rfl) Try.results5 (by first | exact ResV.tmp rfl | exact ResV.agg rfl rfl (by assumption) (by first | exact dc_length _ | exact nc_length _ | exact rc_length _ _ _ | exact ec_length _ | exact dl_length _ _ _ _ | rfl) | exact ResV.cell rfl rfl (by assumption)) ?_
    exact ⟨rfl, hk3.trans hk4⟩
  have g2 : (i : Int) < 24 := by omega
  obtain ⟨ba, oa, rfl, hri⟩ := (hS.kp0 hk3).at hlt
  have hxin := hin _ (List.getElem_mem hlt)
  have hnext := stI_succ 5 hlt
  obtain ⟨d1, -, d3, d4⟩ := do_inv hinv (by decide) l[i]
  have dl := do_len 5 (stI 5 l i) l[i]
  rw [← hnext] at d1 dl
  generalize hx : l[i] = x at hri hxin hnext d3 d4 dl
  generalize hs : stI 5 l i = s at hH3 hinv hml hnext d3 d4 dl hm3
  generalize hs' : stI 5 l (i + 1) = s' at hnext d1 dl
  refine CG.to [(0, .slice (some ⟨ba, oa, none⟩) l.length c), (3, .pointer (some ⟨bh, 0, none⟩)), (5, .map (some bt)), (6, .int .i64 (i : Int))] (by (repeat' (first | exact True.intro | exact rfl | refine And.intro ?_ ?_))) ?_
  repeat (first | first|apply cA|apply cB|apply cD|apply cE|apply cF|apply cG|apply cH|apply cJ|apply cU|refine cV rfl ?_|apply cX|refine cY rfl rfl rfl rfl (by first|((first|apply qlm|apply qep|apply qmv|apply qas|apply qlc|apply qla|apply qfa|apply qix|apply qpk|apply qls|apply qei|apply qni|apply qad|apply qln|apply qlv|apply qxt|apply qnt|apply qep|apply qlm)<;>(first|exact rfl|assumption|exact Ar.mk (by omega)|exact dct (by first|assumption|omega)|exact dcf (by first|assumption|omega)|exact List.not_mem_nil|apply dc_length|apply hc_length|apply pc_length|apply hac_length|exact lk1 (by assumption)|exact nm2 (by omega) (by omega)|fail))|fail) ?_ | refine cZ rfl rfl ?_)
  refine dB rfl (by exact rho_of rfl) rfl ?_
  repeat (first | first|apply cA|apply cB|apply cD|apply cE|apply cF|apply cG|apply cH|apply cJ|apply cU|refine cV rfl ?_|apply cX|refine cY rfl rfl rfl rfl (by first|((first|apply qlm|apply qep|apply qmv|apply qas|apply qlc|apply qla|apply qfa|apply qix|apply qpk|apply qls|apply qei|apply qni|apply qad|apply qln|apply qlv|apply qxt|apply qnt|apply qep|apply qlm)<;>(first|exact rfl|assumption|exact Ar.mk (by omega)|exact dct (by first|assumption|omega)|exact dcf (by first|assumption|omega)|exact List.not_mem_nil|apply dc_length|apply hc_length|apply pc_length|apply hac_length|exact lk1 (by assumption)|exact nm2 (by omega) (by omega)|fail))|fail) ?_ | refine cZ rfl rfl ?_)
  refine SG.alloc rfl rfl rfl (fun b7 w4 hk4 hb7 hB7 => ?_)
  refine SG.setAll (l := hac x) rfl rfl (by exact rho_of rfl) (by exact rho_of rfl) hB7 (hac_length _) rfl (hac_one _) (fun w5 hk5 hB7 => ?_)
  have hB7 : Blk w5 b7 (.cells (hac x).toArray 65) := hB7
  have k35 : Kp [] w3 w5 := hk4.trans_new hk5 (new1 (by omega))
  have hR7 : Row w5 b7 0 (hac x) := Row.all hB7 rfl
  have hH5 := hH3.kp0 k35
  have hm5 := hm3.kp0 k35
  clear hri
  repeat (first|apply cA|apply cB|apply cD|apply cE|apply cF|apply cG|apply cH|apply cJ|apply cU|refine cV rfl ?_|apply cX|refine cY rfl rfl rfl rfl (by first|((first|apply qlm|apply qep|apply qmv|apply qas|apply qlc|apply qla|apply qfa|apply qix|apply qpk|apply qls|apply qei|apply qni|apply qad|apply qln|apply qlv|apply qxt|apply qnt|apply qep|apply qlm)<;>(first|exact rfl|assumption|exact Ar.mk (by omega)|exact dct (by first|assumption|omega)|exact dcf (by first|assumption|omega)|exact List.not_mem_nil|apply dc_length|apply hc_length|apply pc_length|apply hac_length|exact lk1 (by assumption)|exact nm2 (by omega) (by omega)|fail))|fail) ?_)
  refine SG.call rfl rfl rfl (vs := [.pointer (some ⟨bh, 0, none⟩), hav x]) (by repeat' (first | exact True.intro | exact rho_of rfl | refine And.intro ?_ ?_)) ((do_e hH5 hinv (by omega) ⟨by decide, by decide⟩ x (hxin.kp0 (hk3.trans k35))).mono (fun e w6 hh => ?_))
  obtain ⟨v, he, ho, hk6, hH6⟩ := hh
  refine ⟨_, he, ?_⟩
  rw [← hnext] at hH6
  have hB76 := hH5.blk hB7 hk6
  obtain ⟨r0, -, r2, -, -, -, -, r28, -⟩ := hac_rows hB76
  have k36 : Kp [] w w6 := (hk3.trans k35).trans_new hk6 (new2 (by omega) (by omega))
  have hm6 := hm5.kp hk6 (nm2 (by omega) (by omega))
  have hpost : ∀ {w' : World}, Kp [] w w' → HubE w' bh bs bp 5 s' → MapIs w' bt (dv (n := 8)) iz (totL s'.l) → i + 1 ≤ 24 ∧ Kp [] w w' ∧ HubE w' bh bs bp 5 (stI 5 l (i + 1)) ∧ Inv 5 (stI 5 l (i + 1)) ∧ (stI 5 l (i + 1)).m.length ≤ i + 1 ∧ MapIs w' bt (dv (n := 8)) iz (totL (stI 5 l (i + 1)).l) := fun hk h1 h2 => by
    rw [hs']
    exact ⟨by omega, hk, h1, d1, by omega, h2⟩
  clear he hR7
  repeat (refine cY rfl rfl rfl rfl (by first|((first|apply qlm|apply qep|apply qmv|apply qas|apply qlc|apply qla|apply qfa|apply qix|apply qpk|apply qls|apply qei|apply qni|apply qad|apply qln|apply qlv|apply qxt|apply qnt|apply qep|apply qlm)<;>(first|exact rfl|assumption|exact Ar.mk (by omega)|exact dct (by first|assumption|omega)|exact dcf (by first|assumption|omega)|exact List.not_mem_nil|apply dc_length|apply hc_length|apply pc_length|apply hac_length|exact lk1 (by assumption)|exact nm2 (by omega) (by omega)|fail))|fail) ?_)
  refine cD ?_
  refine cE ?_
  refine cA ?_
  refine CG.cut_then (fun L w' => SubE [(0, .slice (some ⟨ba, oa, none⟩) l.length c), (3, .pointer (some ⟨bh, 0, none⟩)), (5, .map (some bt)), (6, .int .i64 (i : Int))] L ∧ Kp [] w w' ∧ HubE w' bh bs bp 5 s' ∧ MapIs w' bt (dv (n := 8)) iz (totL s'.l)) ?_ ?_
  · by_cases e3 : x.kind = 3
    · by_cases ez : doE 5 s x = 0
      · obtain ⟨f1, f2, f3, -, f5⟩ := d4 ⟨e3, ez⟩
        have ets : totL s'.l = aput (totL s.l) x.frm (totalZ x.p) := by
          rw [hnext, f1]
          show totL (aput s.l x.frm (x.cut, x.amt)) = _
          rw [totL_put]
          have e1 : x.cut = x.p := by
            unfold HA.cut
            rw [f5]
            show ({ x.p with held := [] } : Pu) = x.p
            rw [← f5]
          show aput (totL s.l) x.frm (sumP x.cut) = _
          have e2 : totalZ x.p = sumP x.p := if_pos (by rw [← e1]; exact checkZ_ok f3)
          rw [e1, e2]
        have r28 : Row w6 b7 28 (pc x.p (.slice x.a x.p.held.length x.c)) := r28
        have hSx : Sl hc 11 w6 x.a x.p.held := (hxin.kp0 k36).sl
        have hl0 : x.p.held.length = 0 := by rw [f5]; rfl
        repeat (first | first|apply cA|apply cB|apply cD|apply cE|apply cF|apply cG|apply cH|apply cJ|apply cU|refine cV rfl ?_|apply cX|refine cY rfl rfl rfl rfl (by first|((first|apply qlm|apply qep|apply qmv|apply qas|apply qlc|apply qla|apply qfa|apply qix|apply qpk|apply qls|apply qei|apply qni|apply qad|apply qln|apply qlv|apply qxt|apply qnt|apply qep|apply qlm)<;>(first|exact rfl|assumption|exact Ar.mk (by omega)|exact dct (by first|assumption|omega)|exact dcf (by first|assumption|omega)|exact List.not_mem_nil|apply dc_length|apply hc_length|apply pc_length|apply hac_length|exact lk1 (by assumption)|exact nm2 (by omega) (by omega)|fail))|fail) ?_ | refine cZ rfl rfl ?_)
        refine dB rfl (by exact rho_of rfl) rfl ?_
        repeat (first | first|apply cA|apply cB|apply cD|apply cE|apply cF|apply cG|apply cH|apply cJ|apply cU|refine cV rfl ?_|apply cX|refine cY rfl rfl rfl rfl (by first|((first|apply qlm|apply qep|apply qmv|apply qas|apply qlc|apply qla|apply qfa|apply qix|apply qpk|apply qls|apply qei|apply qni|apply qad|apply qln|apply qlv|apply qxt|apply qnt|apply qep|apply qlm)<;>(first|exact rfl|assumption|exact Ar.mk (by omega)|exact dct (by first|assumption|omega)|exact dcf (by first|assumption|omega)|exact List.not_mem_nil|apply dc_length|apply hc_length|apply pc_length|apply hac_length|exact lk1 (by assumption)|exact nm2 (by omega) (by omega)|fail))|fail) ?_ | refine cZ rfl rfl ?_)
        refine CG.free mixed 7 [0, 1, 2, 3, 4, 5, 6] [(5, gU w6.heap.size x.p)] (by kernel_rfl) (by intro p hp y; simp at hp; subst hp; exact gU_stab y) ?_
        repeat (refine DerX.val rfl rfl rfl rfl (by first|((first|apply qlm|apply qep|apply qmv|apply qas|apply qlc|apply qla|apply qfa|apply qix|apply qpk|apply qls|apply qei|apply qni|apply qad|apply qln|apply qlv|apply qxt|apply qnt|apply qep|apply qlm)<;>(first|exact rfl|assumption|exact Ar.mk (by omega)|exact dct (by first|assumption|omega)|exact dcf (by first|assumption|omega)|exact List.not_mem_nil|apply dc_length|apply hc_length|apply pc_length|apply hac_length|exact lk1 (by assumption)|exact nm2 (by omega) (by omega)|fail))|fail) ?_)
        refine DerX.callE (vs := [pv x.p (.slice x.a x.p.held.length x.c)]) (gU w6.heap.size x.p) rfl rfl rfl rfl (by repeat' (first | exact True.intro | exact rho_of rfl | refine And.intro ?_ ?_)) (fun W hk _ => (own_spec (c := x.c) x.p (hSx.kp0 hk) (by omega)).mono (fun e w' hh => ?_)) (fun v' => ?_)
        · obtain ⟨sl, he, ho', hk'⟩ := hh
          exact ⟨⟨pc x.p sl, pc_length _ _⟩, he, ⟨sl, rfl, own_mono ho' hk.size⟩, hk'⟩
        refine DerX.call (vs := [.agg v'.1.toArray]) (v := .int .i64 (totalZ x.p)) rfl rfl rfl rfl (by repeat' (first | exact True.intro | exact rho_of rfl | refine And.intro ?_ ?_)) (fun W hk hF => ?_) ?_
        · obtain ⟨sl, hs2, ho2⟩ : ∃ sl, v'.1 = pc x.p sl ∧ W.ownsRow w6.heap.size 56 11 sl x.p.held.length (flt hc x.p.held) := hF _ (.head _) (by kernel_rfl)
          obtain ⟨a2, c2, rfl, hc2, hS2⟩ := Sl.own hc_length ho2 rfl
          rw [hs2]
          exact total_spec x.p hS2 (by omega) hc2
        refine DerX.tl (fun w7 hk7 hF => ?_)
        clear hF r0 r2 r28
        refine SG.mapUpdate (enc := dv (n := 8)) (V := iz) (kx := x.frm) (vy := totalZ x.p) rfl rfl (by exact rho_of rfl) (by exact rho_of rfl) (by exact rho_of rfl) (hm6.kp0 hk7) BArr.key (fun w8 hk8 hm8 => ?_)
        rw [← ets] at hm8
        repeat (first|apply cA|apply cB|apply cD|apply cE|apply cF|apply cG|apply cH|apply cJ|apply cU|refine cV rfl ?_|apply cX|refine cY rfl rfl rfl rfl (by first|((first|apply qlm|apply qep|apply qmv|apply qas|apply qlc|apply qla|apply qfa|apply qix|apply qpk|apply qls|apply qei|apply qni|apply qad|apply qln|apply qlv|apply qxt|apply qnt|apply qep|apply qlm)<;>(first|exact rfl|assumption|exact Ar.mk (by omega)|exact dct (by first|assumption|omega)|exact dcf (by first|assumption|omega)|exact List.not_mem_nil|apply dc_length|apply hc_length|apply pc_length|apply hac_length|exact lk1 (by assumption)|exact nm2 (by omega) (by omega)|fail))|fail) ?_)
        exact NG.cut ⟨by (repeat' (first | exact True.intro | exact rfl | refine And.intro ?_ ?_)), (k36.trans hk7).trans_new hk8 (new1 (by omega)), (hH6.kp0 hk7).map1 (hm6.kp0 hk7) hk8 (by omega) (by omega), hm8⟩
      · have ets := totL_stp hinv (d3 (fun h => ez h.2))
        rw [← hnext] at ets
        repeat (first | first|apply cA|apply cB|apply cD|apply cE|apply cF|apply cG|apply cH|apply cJ|apply cU|refine cV rfl ?_|apply cX|refine cY rfl rfl rfl rfl (by first|((first|apply qlm|apply qep|apply qmv|apply qas|apply qlc|apply qla|apply qfa|apply qix|apply qpk|apply qls|apply qei|apply qni|apply qad|apply qln|apply qlv|apply qxt|apply qnt|apply qep|apply qlm)<;>(first|exact rfl|assumption|exact Ar.mk (by omega)|exact dct (by first|assumption|omega)|exact dcf (by first|assumption|omega)|exact List.not_mem_nil|apply dc_length|apply hc_length|apply pc_length|apply hac_length|exact lk1 (by assumption)|exact nm2 (by omega) (by omega)|fail))|fail) ?_ | refine cZ rfl rfl ?_)
        refine dD rfl (by exact rho_of rfl) rfl ?_
        repeat (first | first|apply cA|apply cB|apply cD|apply cE|apply cF|apply cG|apply cH|apply cJ|apply cU|refine cV rfl ?_|apply cX|refine cY rfl rfl rfl rfl (by first|((first|apply qlm|apply qep|apply qmv|apply qas|apply qlc|apply qla|apply qfa|apply qix|apply qpk|apply qls|apply qei|apply qni|apply qad|apply qln|apply qlv|apply qxt|apply qnt|apply qep|apply qlm)<;>(first|exact rfl|assumption|exact Ar.mk (by omega)|exact dct (by first|assumption|omega)|exact dcf (by first|assumption|omega)|exact List.not_mem_nil|apply dc_length|apply hc_length|apply pc_length|apply hac_length|exact lk1 (by assumption)|exact nm2 (by omega) (by omega)|fail))|fail) ?_ | refine cZ rfl rfl ?_)
        exact NG.cut ⟨by (repeat' (first | exact True.intro | exact rfl | refine And.intro ?_ ?_)), k36, hH6, by rw [ets]; exact hm6⟩
    · have ets := totL_stp hinv (d3 (fun h => e3 h.1))
      rw [← hnext] at ets
      repeat (first | first|apply cA|apply cB|apply cD|apply cE|apply cF|apply cG|apply cH|apply cJ|apply cU|refine cV rfl ?_|apply cX|refine cY rfl rfl rfl rfl (by first|((first|apply qlm|apply qep|apply qmv|apply qas|apply qlc|apply qla|apply qfa|apply qix|apply qpk|apply qls|apply qei|apply qni|apply qad|apply qln|apply qlv|apply qxt|apply qnt|apply qep|apply qlm)<;>(first|exact rfl|assumption|exact Ar.mk (by omega)|exact dct (by first|assumption|omega)|exact dcf (by first|assumption|omega)|exact List.not_mem_nil|apply dc_length|apply hc_length|apply pc_length|apply hac_length|exact lk1 (by assumption)|exact nm2 (by omega) (by omega)|fail))|fail) ?_ | refine cZ rfl rfl ?_)
      refine dD rfl (by exact rho_of rfl) rfl ?_
      repeat (first | first|apply cA|apply cB|apply cD|apply cE|apply cF|apply cG|apply cH|apply cJ|apply cU|refine cV rfl ?_|apply cX|refine cY rfl rfl rfl rfl (by first|((first|apply qlm|apply qep|apply qmv|apply qas|apply qlc|apply qla|apply qfa|apply qix|apply qpk|apply qls|apply qei|apply qni|apply qad|apply qln|apply qlv|apply qxt|apply qnt|apply qep|apply qlm)<;>(first|exact rfl|assumption|exact Ar.mk (by omega)|exact dct (by first|assumption|omega)|exact dcf (by first|assumption|omega)|exact List.not_mem_nil|apply dc_length|apply hc_length|apply pc_length|apply hac_length|exact lk1 (by assumption)|exact nm2 (by omega) (by omega)|fail))|fail) ?_ | refine cZ rfl rfl ?_)
      exact NG.cut ⟨by (repeat' (first | exact True.intro | exact rfl | refine And.intro ?_ ?_)), k36, hH6, by rw [ets]; exact hm6⟩
  rintro L w7 ⟨hLL, hk7, hH7, hm7⟩
  refine CG.to _ hLL ?_
  clear hLL L r0 r2 r28 hm6 hH6 k36 hB76 hm5 hm3 hH5 hH3
  have hl16 := d1.len
  have hsl : (srt (s'.l.map (·.1))).length = s'.l.length := by rw [(srt_perm _).length_eq, List.length_map]
  have htl : (totL s'.l).length = s'.l.length := by simp [totL]
  have hlk := srt_look s'.l
  repeat (first | first|apply cA|apply cB|apply cD|apply cE|apply cF|apply cG|apply cH|apply cJ|apply cU|refine cV rfl ?_|apply cX|refine cY rfl rfl rfl rfl (by first|((first|apply qlm|apply qep|apply qmv|apply qas|apply qlc|apply qla|apply qfa|apply qix|apply qpk|apply qls|apply qei|apply qni|apply qad|apply qln|apply qlv|apply qxt|apply qnt|apply qep|apply qlm)<;>(first|exact rfl|assumption|exact Ar.mk (by omega)|exact dct (by first|assumption|omega)|exact dcf (by first|assumption|omega)|exact List.not_mem_nil|apply dc_length|apply hc_length|apply pc_length|apply hac_length|exact lk1 (by assumption)|exact nm2 (by omega) (by omega)|fail))|fail) ?_ | refine cZ rfl rfl ?_)
  refine SG.call rfl rfl rfl (vs := [.pointer (some ⟨bh, 0, none⟩)]) (by repeat' (first | exact True.intro | exact rho_of rfl | refine And.intro ?_ ?_)) ((peers_e hH7 (by omega)).mono (fun e w8 hh => ?_))
  obtain ⟨v10, he, ho10, hk8⟩ := hh
  refine ⟨v10, he, ?_⟩
  obtain ⟨a10, c10, rfl, _, hS10⟩ := Sl.own dc_length ho10 rfl
  generalize srt (s'.l.map (·.1)) = ks at hsl hlk hS10
  have hm8 := hm7.kp0 hk8
  have g3 : ((ks.length : Nat) : Int) = ((totL s'.l).length : Int) := by omega
  repeat (first | first|apply cA|apply cB|apply cD|apply cE|apply cF|apply cG|apply cH|apply cJ|apply cU|refine cV rfl ?_|apply cX|refine cY rfl rfl rfl rfl (by first|((first|apply qlm|apply qep|apply qmv|apply qas|apply qlc|apply qla|apply qfa|apply qix|apply qpk|apply qls|apply qei|apply qni|apply qad|apply qln|apply qlv|apply qxt|apply qnt|apply qep|apply qlm)<;>(first|exact rfl|assumption|exact Ar.mk (by omega)|exact dct (by first|assumption|omega)|exact dcf (by first|assumption|omega)|exact List.not_mem_nil|apply dc_length|apply hc_length|apply pc_length|apply hac_length|exact lk1 (by assumption)|exact nm2 (by omega) (by omega)|fail))|fail) ?_ | refine cZ rfl rfl ?_)
  refine dD rfl (by exact rho_of rfl) rfl ?_
  repeat (first | first|apply cA|apply cB|apply cD|apply cE|apply cF|apply cG|apply cH|apply cJ|apply cU|refine cV rfl ?_|apply cX|refine cY rfl rfl rfl rfl (by first|((first|apply qlm|apply qep|apply qmv|apply qas|apply qlc|apply qla|apply qfa|apply qix|apply qpk|apply qls|apply qei|apply qni|apply qad|apply qln|apply qlv|apply qxt|apply qnt|apply qep|apply qlm)<;>(first|exact rfl|assumption|exact Ar.mk (by omega)|exact dct (by first|assumption|omega)|exact dcf (by first|assumption|omega)|exact List.not_mem_nil|apply dc_length|apply hc_length|apply pc_length|apply hac_length|exact lk1 (by assumption)|exact nm2 (by omega) (by omega)|fail))|fail) ?_ | refine cZ rfl rfl ?_)
  refine CG.loop (X := Nat) (fun k => [(0, .slice (some ⟨ba, oa, none⟩) l.length c), (3, .pointer (some ⟨bh, 0, none⟩)), (5, .map (some bt)), (6, .int .i64 (i : Int)), (10, .slice a10 ks.length c10), (11, .int .i64 (k : Int))])
    (fun k w' => k ≤ ks.length ∧ Kp [] w8 w') (fun k => ks.length - k) 0 ⟨Nat.zero_le _, Kp.refl _ _⟩ (by (repeat' (first | exact True.intro | exact rfl | refine And.intro ?_ ?_))) ?_
  rintro k w9 ⟨hk9, hkk⟩
  by_cases hkl : k < ks.length
  rotate_left
  · have g4 : ¬ (k : Int) < (ks.length : Int) := by omega
    repeat (first | first|apply cA|apply cB|apply cD|apply cE|apply cF|apply cG|apply cH|apply cJ|apply cU|refine cV rfl ?_|apply cX|refine cY rfl rfl rfl rfl (by first|((first|apply qlm|apply qep|apply qmv|apply qas|apply qlc|apply qla|apply qfa|apply qix|apply qpk|apply qls|apply qei|apply qni|apply qad|apply qln|apply qlv|apply qxt|apply qnt|apply qep|apply qlm)<;>(first|exact rfl|assumption|exact Ar.mk (by omega)|exact dct (by first|assumption|omega)|exact dcf (by first|assumption|omega)|exact List.not_mem_nil|apply dc_length|apply hc_length|apply pc_length|apply hac_length|exact lk1 (by assumption)|exact nm2 (by omega) (by omega)|fail))|fail) ?_ | refine cZ rfl rfl ?_)
    refine dD rfl (by exact rho_of rfl) rfl ?_
    repeat (first | first|apply cA|apply cB|apply cD|apply cE|apply cF|apply cG|apply cH|apply cJ|apply cU|refine cV rfl ?_|apply cX|refine cY rfl rfl rfl rfl (by first|((first|apply qlm|apply qep|apply qmv|apply qas|apply qlc|apply qla|apply qfa|apply qix|apply qpk|apply qls|apply qei|apply qni|apply qad|apply qln|apply qlv|apply qxt|apply qnt|apply qep|apply qlm)<;>(first|exact rfl|assumption|exact Ar.mk (by omega)|exact dct (by first|assumption|omega)|exact dcf (by first|assumption|omega)|exact List.not_mem_nil|apply dc_length|apply hc_length|apply pc_length|apply hac_length|exact lk1 (by assumption)|exact nm2 (by omega) (by omega)|fail))|fail) ?_ | refine cZ rfl rfl ?_)
    refine NG.round (i + 1) (by (repeat' (first | exact True.intro | exact rfl | refine And.intro ?_ ?_))) (hpost ((hk7.trans hk8).trans hkk) ((hH7.kp0 hk8).kp0 hkk) (hm8.kp0 hkk)) (by omega)
  have g4 : (k : Int) < (ks.length : Int) := by omega
  obtain ⟨bb, ob, rfl, hrk⟩ := (hS10.kp0 hkk).at hkl
  obtain ⟨y, hy⟩ := hlk ks[k] (List.getElem_mem hkl)
  obtain ⟨hyo, -⟩ := d1.ok _ y hy
  have hck := checkZ_ok hyo
  have hto : totalZ y.1 = sumP y.1 := if_pos hck
  have hty : alook (totL s'.l) ks[k] = some (sumP y.1) := by rw [totL_look, hy]; rfl
  repeat (first | first|apply cA|apply cB|apply cD|apply cE|apply cF|apply cG|apply cH|apply cJ|apply cU|refine cV rfl ?_|apply cX|refine cY rfl rfl rfl rfl (by first|((first|apply qlm|apply qep|apply qmv|apply qas|apply qlc|apply qla|apply qfa|apply qix|apply qpk|apply qls|apply qei|apply qni|apply qad|apply qln|apply qlv|apply qxt|apply qnt|apply qep|apply qlm)<;>(first|exact rfl|assumption|exact Ar.mk (by omega)|exact dct (by first|assumption|omega)|exact dcf (by first|assumption|omega)|exact List.not_mem_nil|apply dc_length|apply hc_length|apply pc_length|apply hac_length|exact lk1 (by assumption)|exact nm2 (by omega) (by omega)|fail))|fail) ?_ | refine cZ rfl rfl ?_)
  refine dB rfl (by exact rho_of rfl) rfl ?_
  repeat (first | first|apply cA|apply cB|apply cD|apply cE|apply cF|apply cG|apply cH|apply cJ|apply cU|refine cV rfl ?_|apply cX|refine cY rfl rfl rfl rfl (by first|((first|apply qlm|apply qep|apply qmv|apply qas|apply qlc|apply qla|apply qfa|apply qix|apply qpk|apply qls|apply qei|apply qni|apply qad|apply qln|apply qlv|apply qxt|apply qnt|apply qep|apply qlm)<;>(first|exact rfl|assumption|exact Ar.mk (by omega)|exact dct (by first|assumption|omega)|exact dcf (by first|assumption|omega)|exact List.not_mem_nil|apply dc_length|apply hc_length|apply pc_length|apply hac_length|exact lk1 (by assumption)|exact nm2 (by omega) (by omega)|fail))|fail) ?_ | refine cZ rfl rfl ?_)
  refine SG.call rfl rfl rfl (vs := [.pointer (some ⟨bh, 0, none⟩), dv ks[k]]) (by repeat' (first | exact True.intro | exact rho_of rfl | refine And.intro ?_ ?_)) ((purse_e ((hH7.kp0 hk8).kp0 hkk) ks[k] hy).mono (fun e w10 hh => ?_))
  obtain ⟨v12, he, ⟨sv, rfl, ho12⟩, hk10⟩ := hh
  refine ⟨_, he, ?_⟩
  obtain ⟨a12, c12, rfl, hc12, hS12⟩ := Sl.own hc_length ho12 rfl
  have hrk := hrk.kp0 hk10
  repeat (first | first|apply cA|apply cB|apply cD|apply cE|apply cF|apply cG|apply cH|apply cJ|apply cU|refine cV rfl ?_|apply cX|refine cY rfl rfl rfl rfl (by first|((first|apply qlm|apply qep|apply qmv|apply qas|apply qlc|apply qla|apply qfa|apply qix|apply qpk|apply qls|apply qei|apply qni|apply qad|apply qln|apply qlv|apply qxt|apply qnt|apply qep|apply qlm)<;>(first|exact rfl|assumption|exact Ar.mk (by omega)|exact dct (by first|assumption|omega)|exact dcf (by first|assumption|omega)|exact List.not_mem_nil|apply dc_length|apply hc_length|apply pc_length|apply hac_length|exact lk1 (by assumption)|exact nm2 (by omega) (by omega)|fail))|fail) ?_ | refine cZ rfl rfl ?_)
  refine SG.alloc rfl rfl rfl (fun b12 w11 hk11 hb12 hB12 => ?_)
  refine SG.setAll (l := pc y.1 (.slice a12 y.1.held.length c12)) rfl rfl (by exact rho_of rfl) (by exact rho_of rfl) hB12 (pc_length _ _) rfl (pc_one _ _ _ _) (fun w12 hk12 hB12 => ?_)
  have k1012 : Kp [] w10 w12 := hk11.trans_new hk12 (new1 (by omega))
  have hrk := hrk.kp0 k1012
  have hm12 := ((hm8.kp0 hkk).kp0 hk10).kp0 k1012
  have hS12 := hS12.kp0 k1012
  have hR12 : Row w12 b12 0 (pc y.1 (.slice a12 y.1.held.length c12)) := Row.all hB12 rfl
  have hl12 := hyo.l
  have g5 : ((sumP y.1 : Int)) = sumP y.1 := rfl
  repeat (first | first|apply cA|apply cB|apply cD|apply cE|apply cF|apply cG|apply cH|apply cJ|apply cU|refine cV rfl ?_|apply cX|refine cY rfl rfl rfl rfl (by first|((first|apply qlm|apply qep|apply qmv|apply qas|apply qlc|apply qla|apply qfa|apply qix|apply qpk|apply qls|apply qei|apply qni|apply qad|apply qln|apply qlv|apply qxt|apply qnt|apply qep|apply qlm)<;>(first|exact rfl|assumption|exact Ar.mk (by omega)|exact dct (by first|assumption|omega)|exact dcf (by first|assumption|omega)|exact List.not_mem_nil|apply dc_length|apply hc_length|apply pc_length|apply hac_length|exact lk1 (by assumption)|exact nm2 (by omega) (by omega)|fail))|fail) ?_ | refine cZ rfl rfl ?_)
  refine CG.draw0 mixed [0, 1, 2, 3, 4, 5, 6, 7, 8, 9, 10, 11, 12, 13, 14, 15, 16, 17] [] (by kernel_rfl) ?_
  repeat (first | refine dA rfl rfl rfl (by first|((first|apply qlm|apply qep|apply qmv|apply qas|apply qlc|apply qla|apply qfa|apply qix|apply qpk|apply qls|apply qei|apply qni|apply qad|apply qln|apply qlv|apply qxt|apply qnt|apply qep|apply qlm)<;>(first|exact rfl|assumption|exact Ar.mk (by omega)|exact dct (by first|assumption|omega)|exact dcf (by first|assumption|omega)|exact List.not_mem_nil|apply dc_length|apply hc_length|apply pc_length|apply hac_length|exact lk1 (by assumption)|exact nm2 (by omega) (by omega)|fail))|fail) ?_ | refine Der.skip rfl rfl ?_)
  refine Der.call rfl rfl rfl (vs := [pv y.1 (.slice a12 y.1.held.length c12)]) (v := .int .i64 0) (by repeat' (first | exact True.intro | exact rho_of rfl | refine And.intro ?_ ?_)) (fun W hk _ => by rw [← hck]; exact check_spec y.1 (hS12.kp0 hk) (by omega) hc12) ?_
  repeat (first | refine dA rfl rfl rfl (by first|((first|apply qlm|apply qep|apply qmv|apply qas|apply qlc|apply qla|apply qfa|apply qix|apply qpk|apply qls|apply qei|apply qni|apply qad|apply qln|apply qlv|apply qxt|apply qnt|apply qep|apply qlm)<;>(first|exact rfl|assumption|exact Ar.mk (by omega)|exact dct (by first|assumption|omega)|exact dcf (by first|assumption|omega)|exact List.not_mem_nil|apply dc_length|apply hc_length|apply pc_length|apply hac_length|exact lk1 (by assumption)|exact nm2 (by omega) (by omega)|fail))|fail) ?_ | refine Der.skip rfl rfl ?_)
  refine Der.call rfl rfl rfl (vs := [pv y.1 (.slice a12 y.1.held.length c12)]) (v := .int .i64 (sumP y.1)) (by repeat' (first | exact True.intro | exact rho_of rfl | refine And.intro ?_ ?_)) (fun W hk _ => by rw [← hto]; exact total_spec y.1 (hS12.kp0 hk) (by omega) hc12) ?_
  repeat (first | refine dA rfl rfl rfl (by first|((first|apply qlm|apply qep|apply qmv|apply qas|apply qlc|apply qla|apply qfa|apply qix|apply qpk|apply qls|apply qei|apply qni|apply qad|apply qln|apply qlv|apply qxt|apply qnt|apply qep|apply qlm)<;>(first|exact rfl|assumption|exact Ar.mk (by omega)|exact dct (by first|assumption|omega)|exact dcf (by first|assumption|omega)|exact List.not_mem_nil|apply dc_length|apply hc_length|apply pc_length|apply hac_length|exact lk1 (by assumption)|exact nm2 (by omega) (by omega)|fail))|fail) ?_ | refine Der.skip rfl rfl ?_)
  refine Der.fin (fun w13 hk13 _ _ => ?_)
  repeat (first | first|apply cA|apply cB|apply cD|apply cE|apply cF|apply cG|apply cH|apply cJ|apply cU|refine cV rfl ?_|apply cX|refine cY rfl rfl rfl rfl (by first|((first|apply qlm|apply qep|apply qmv|apply qas|apply qlc|apply qla|apply qfa|apply qix|apply qpk|apply qls|apply qei|apply qni|apply qad|apply qln|apply qlv|apply qxt|apply qnt|apply qep|apply qlm)<;>(first|exact rfl|assumption|exact Ar.mk (by omega)|exact dct (by first|assumption|omega)|exact dcf (by first|assumption|omega)|exact List.not_mem_nil|apply dc_length|apply hc_length|apply pc_length|apply hac_length|exact lk1 (by assumption)|exact nm2 (by omega) (by omega)|fail))|fail) ?_ | refine cZ rfl rfl ?_)
  refine dD rfl (by exact rho_of rfl) rfl ?_
  repeat (first | first|apply cA|apply cB|apply cD|apply cE|apply cF|apply cG|apply cH|apply cJ|apply cU|refine cV rfl ?_|apply cX|refine cY rfl rfl rfl rfl (by first|((first|apply qlm|apply qep|apply qmv|apply qas|apply qlc|apply qla|apply qfa|apply qix|apply qpk|apply qls|apply qei|apply qni|apply qad|apply qln|apply qlv|apply qxt|apply qnt|apply qep|apply qlm)<;>(first|exact rfl|assumption|exact Ar.mk (by omega)|exact dct (by first|assumption|omega)|exact dcf (by first|assumption|omega)|exact List.not_mem_nil|apply dc_length|apply hc_length|apply pc_length|apply hac_length|exact lk1 (by assumption)|exact nm2 (by omega) (by omega)|fail))|fail) ?_ | refine cZ rfl rfl ?_)
  refine NG.round (k + 1) (by (repeat' (first | exact True.intro | exact rfl | refine And.intro ?_ ?_))) ⟨by omega, ((hkk.trans hk10).trans k1012).trans hk13⟩ (by omega)
end Go.Proofs.Ytajllbdeoopimaa
namespace Go.Proofs.Ytajllbdeoopimaa
open Go.ChangeShapes Go.WideShapes Go.ChangeAt Go.RowKit
set_option linter.unusedVariables false
theorem cellsE : Try.prog.cellsOf 24 = 8 := by kernel_rfl
theorem cellsH : Try.prog.cellsOf 104 = 11 := by kernel_rfl
theorem cellsS : Try.prog.cellsOf 61 = 1 := by kernel_rfl
theorem cellsZ : Try.prog.cellsOf 31 = 2 := by kernel_rfl
theorem cellsP : Try.prog.cellsOf 63 = 12 := by kernel_rfl
theorem cellsA : Try.prog.cellsOf 65 = 40 := by kernel_rfl
theorem fit_of {n : Int} (h : (Lit.int .i64 n).wf = true) : fitZ n := i64_of h
/-- The elements of a slice, by how one is read. -/
theorem elems_of {H α : Type} {en : TypeId × Value → H} {P : Program} {w : World} {e : TypeId} {a : Option Addr} {n : Nat} (enc : α → List Value) (p : α → Prop) (h : SlOf en P w e a n)
    (rd : ∀ cs fuel y, DataW.trod en P w 0 (fun _ => true) true fuel e cs = some y → ∃ x : α, cs = enc x ∧ p x) : ∃ l : List α, l.length = n ∧ Sl enc (P.cellsOf e) w a l ∧ ∀ x ∈ l, p x := by
  have key : ∀ i : _root_.Fin n, ∃ x : α, (∃ b off, a = some ⟨b, off, none⟩ ∧ Row w b (off + i.1 * P.cellsOf e) (enc x)) ∧ p x := by
    intro i
    obtain ⟨b, off, cs, fuel, y, h1, h2, h3, h4⟩ := h.row i.1 i.2
    obtain ⟨x, rfl, hp⟩ := rd cs fuel y h4
    exact ⟨x, ⟨b, off, h1, h2⟩, hp⟩
  refine ⟨List.ofFn (fun i => Classical.choose (key i)), by simp, fun i x hx => ?_, fun x hx => ?_⟩
  · rw [List.getElem?_ofFn] at hx
    split at hx
    · rename_i hi
      cases hx
      exact (Classical.choose_spec (key ⟨i, hi⟩)).1
    · cases hx
  · obtain ⟨i, rfl⟩ := List.mem_ofFn.1 hx
    exact (Classical.choose_spec (key i)).2
theorem cut_drop {α : Type} (l : List α) (a n : Nat) : l.drop a = (l.drop a).take n ++ l.drop (a + n) := by
  rw [← List.drop_drop, List.take_append_drop]
theorem sl_cell {H : Type} {enc : TypeId × Value → H} {P : Program} {w : World} {t e : TypeId} {cs : List Value} {fuel : Nat} {y : DataW H × List MemPlace} (ht : P.underlying t = some (.slice e)) (he : 0 < P.cellsOf e)
    (hf : DataW.trod enc P w 0 (fun _ => true) true fuel t cs = some y) : ∃ a n c, cs = [.slice a n c] ∧ n ≤ c ∧ c ≤ maxLen ∧ SlOf enc P w e a n := by
  rcases Go.Deep.open_slice ht hf with ⟨hc, _⟩ | ⟨a, len, cap, m, n, D, Pl, hc, _, hl, hm, hmm, _, hall⟩
  · exact ⟨none, 0, 0, hc, by omega, by omega, ⟨fun i hi => by omega⟩⟩
  · subst hc
    have hmc : m = cap := by rw [hmm]; simp
    refine ⟨some a, len, cap, rfl, hl, hm, ⟨fun i hi => ?_⟩⟩
    obtain ⟨cs0, h10, _⟩ := hall 0 (by omega)
    obtain ⟨b, off, ha, _, _⟩ := row_of_cells h10 he
    have ha' : a = ⟨b, off, none⟩ := by simpa [Addr.add] using ha
    subst ha'
    obtain ⟨cs, h1, h2⟩ := hall i (by omega)
    rw [add_none] at h1
    obtain ⟨b2, off2, hb2, hr, hlen⟩ := row_of_cells h1 he
    cases hb2
    exact ⟨b, off, cs, n, _, rfl, hr, hlen, h2⟩
set_option maxRecDepth 100000 in
theorem hdc_of {H : Type} {enc : TypeId × Value → H} {w : World} {cs : List Value} {fuel : Nat} {y : DataW H × List MemPlace} (h : DataW.trod enc Try.prog w 0 (fun _ => true) true fuel 104 cs = some y) : ∃ o : Hd, cs = hc o := by
  obtain ⟨xs, m, _, _, hl, hlen, hf⟩ := DataW.trod_struct Try.underlying104 h
  rw [cellsH] at hl
  match xs, hlen with
  | [y0, y1, y2, y3], _ =>
    have h0 : DataW.trod enc Try.prog w 0 (fun _ => true) true m 24 ((cs.drop 0).take (Try.prog.cellsOf 24)) = some y0 := hf 0 _ rfl
    have h1 : DataW.trod enc Try.prog w 0 (fun _ => true) true m 3 ((cs.drop 8).take (Try.prog.cellsOf 3)) = some y1 := hf 1 _ rfl
    have h2 : DataW.trod enc Try.prog w 0 (fun _ => true) true m 3 ((cs.drop 9).take (Try.prog.cellsOf 3)) = some y2 := hf 2 _ rfl
    have h3 : DataW.trod enc Try.prog w 0 (fun _ => true) true m 3 ((cs.drop 10).take (Try.prog.cellsOf 3)) = some y3 := hf 3 _ rfl
    rw [cellsE] at h0
    rw [cells3] at h1 h2 h3
    obtain ⟨d0, e0⟩ := arr_bytes Try.underlying24 Try.underlying5 cells5 cellsE h0
    obtain ⟨n1, e1, _, _⟩ := DataW.trod_int Try.underlying3 h1
    obtain ⟨n2, e2, _, _⟩ := DataW.trod_int Try.underlying3 h2
    obtain ⟨n3, e3, _, _⟩ := DataW.trod_int Try.underlying3 h3
    refine ⟨⟨d0, n1, n2, n3⟩, ?_⟩
    have hd : cs.drop (10 + 1) = [] := List.drop_of_length_le (by omega)
    have e : cs = cs.drop 0 := rfl
    rw [e, cut_drop cs 0 8, e0, cut_drop cs (0 + 8) 1, e1, cut_drop cs (0 + 8 + 1) 1, e2, cut_drop cs (0 + 8 + 1 + 1) 1, e3, hd]
    rfl
theorem hds_of {H : Type} {enc : TypeId × Value → H} {w : World} {a : Option Addr} {n : Nat} (h : SlOf enc Try.prog w 104 a n) : ∃ l : List Hd, l.length = n ∧ Sl hc 11 w a l := by
  obtain ⟨l, h1, h2, h3⟩ := elems_of hc (fun _ => True) h (fun cs fuel y hy => by
    obtain ⟨o, e⟩ := hdc_of hy
    exact ⟨o, e, trivial⟩)
  rw [cellsH] at h2
  exact ⟨l, h1, h2⟩
set_option maxRecDepth 100000 in
theorem z2_of {H : Type} {enc : TypeId × Value → H} {w : World} {cs : List Value} {fuel : Nat} {y : DataW H × List MemPlace} (h : DataW.trod enc Try.prog w 0 (fun _ => true) true fuel 31 cs = some y) : ∃ p q : Int, cs = [.int .i64 p, .int .i64 q] ∧ fitZ p ∧ fitZ q := by
  obtain ⟨xs, m, _, _, hl, hxl, hat⟩ := DataW.trod_array Try.underlying31 h
  rw [cellsZ] at hl
  match cs, hl with
  | [c0, c1], _ =>
    have h0 := hat 0 (by omega)
    have h1 := hat 1 (by omega)
    rw [cells3] at h0 h1
    rw [List.getElem?_eq_getElem (by omega)] at h0 h1
    obtain ⟨n0, e0, _, w0⟩ := DataW.trod_int Try.underlying3 h0
    obtain ⟨n1, e1, _, w1⟩ := DataW.trod_int Try.underlying3 h1
    simp at e0 e1
    exact ⟨n0, n1, by rw [e0, e1], fit_of w0, fit_of w1⟩
set_option maxRecDepth 100000 in
theorem pur_of {H : Type} {enc : TypeId × Value → H} {w : World} {cs : List Value} {fuel : Nat} {y : DataW H × List MemPlace} (h : DataW.trod enc Try.prog w 0 (fun _ => true) true fuel 63 cs = some y) : ∃ (p : Pu) (a : Option Addr) (c : Nat), cs = pc p (.slice a p.held.length c) ∧ Sl hc 11 w a p.held ∧ p.held.length ≤ c ∧ c ≤ maxLen ∧ fitZ p.h0 ∧ fitZ p.h1 := by
  obtain ⟨xs, m, _, _, hl, hlen, hf⟩ := DataW.trod_struct Try.underlying63 h
  rw [cellsP] at hl
  match xs, hlen with
  | [y0, y1, y2, y3], _ =>
    have h0 : DataW.trod enc Try.prog w 0 (fun _ => true) true m 24 ((cs.drop 0).take (Try.prog.cellsOf 24)) = some y0 := hf 0 _ rfl
    have h1 : DataW.trod enc Try.prog w 0 (fun _ => true) true m 3 ((cs.drop 8).take (Try.prog.cellsOf 3)) = some y1 := hf 1 _ rfl
    have h2 : DataW.trod enc Try.prog w 0 (fun _ => true) true m 31 ((cs.drop 9).take (Try.prog.cellsOf 31)) = some y2 := hf 2 _ rfl
    have h3 : DataW.trod enc Try.prog w 0 (fun _ => true) true m 61 ((cs.drop 11).take (Try.prog.cellsOf 61)) = some y3 := hf 3 _ rfl
    rw [cellsE] at h0
    rw [cells3] at h1
    rw [cellsZ] at h2
    rw [cellsS] at h3
    obtain ⟨d0, e0⟩ := arr_bytes Try.underlying24 Try.underlying5 cells5 cellsE h0
    obtain ⟨n1, e1, _, _⟩ := DataW.trod_int Try.underlying3 h1
    obtain ⟨x, z, e2, f1, f2⟩ := z2_of h2
    obtain ⟨a, n, c, e3, hn, hc', hs⟩ := sl_cell Try.underlying61 (by rw [cellsH]; omega) h3
    obtain ⟨l, hll, hS⟩ := hds_of hs
    subst hll
    refine ⟨⟨d0, n1, x, z, l⟩, a, c, ?_, hS, hn, hc', f1, f2⟩
    have hd : cs.drop (11 + 1) = [] := List.drop_of_length_le (by omega)
    have e : cs = cs.drop 0 := rfl
    rw [e, cut_drop cs 0 8, e0, cut_drop cs (0 + 8) 1, e1, cut_drop cs (0 + 8 + 1) 2, e2, cut_drop cs (0 + 8 + 1 + 2) 1, e3, hd]
    rfl
set_option maxRecDepth 100000 in
theorem hac_of {H : Type} {enc : TypeId × Value → H} {w : World} {cs : List Value} {fuel : Nat} {y : DataW H × List MemPlace} (h : DataW.trod enc Try.prog w 0 (fun _ => true) true fuel 65 cs = some y) : ∃ x : HA, cs = hac x ∧ x.In w := by
  obtain ⟨xs, m, _, _, hl, hlen, hf⟩ := DataW.trod_struct Try.underlying65 h
  rw [cellsA] at hl
  match xs, hlen with
  | [y0, y1, y2, y3, y4, y5, y6, y7], _ =>
    have h0 : DataW.trod enc Try.prog w 0 (fun _ => true) true m 3 ((cs.drop 0).take (Try.prog.cellsOf 3)) = some y0 := hf 0 _ rfl
    have h1 : DataW.trod enc Try.prog w 0 (fun _ => true) true m 3 ((cs.drop 1).take (Try.prog.cellsOf 3)) = some y1 := hf 1 _ rfl
    have h2 : DataW.trod enc Try.prog w 0 (fun _ => true) true m 24 ((cs.drop 2).take (Try.prog.cellsOf 24)) = some y2 := hf 2 _ rfl
    have h3 : DataW.trod enc Try.prog w 0 (fun _ => true) true m 24 ((cs.drop 10).take (Try.prog.cellsOf 24)) = some y3 := hf 3 _ rfl
    have h4 : DataW.trod enc Try.prog w 0 (fun _ => true) true m 24 ((cs.drop 18).take (Try.prog.cellsOf 24)) = some y4 := hf 4 _ rfl
    have h5 : DataW.trod enc Try.prog w 0 (fun _ => true) true m 3 ((cs.drop 26).take (Try.prog.cellsOf 3)) = some y5 := hf 5 _ rfl
    have h6 : DataW.trod enc Try.prog w 0 (fun _ => true) true m 3 ((cs.drop 27).take (Try.prog.cellsOf 3)) = some y6 := hf 6 _ rfl
    have h7 : DataW.trod enc Try.prog w 0 (fun _ => true) true m 63 ((cs.drop 28).take (Try.prog.cellsOf 63)) = some y7 := hf 7 _ rfl
    rw [cellsE] at h2 h3 h4
    rw [cells3] at h0 h1 h5 h6
    rw [cellsP] at h7
    obtain ⟨n0, e0, _, w0⟩ := DataW.trod_int Try.underlying3 h0
    obtain ⟨n1, e1, _, w1⟩ := DataW.trod_int Try.underlying3 h1
    obtain ⟨d2, e2⟩ := arr_bytes Try.underlying24 Try.underlying5 cells5 cellsE h2
    obtain ⟨d3, e3⟩ := arr_bytes Try.underlying24 Try.underlying5 cells5 cellsE h3
    obtain ⟨d4, e4⟩ := arr_bytes Try.underlying24 Try.underlying5 cells5 cellsE h4
    obtain ⟨n5, e5, _, w5⟩ := DataW.trod_int Try.underlying3 h5
    obtain ⟨n6, e6, _, w6⟩ := DataW.trod_int Try.underlying3 h6
    obtain ⟨p, a, c, e7, hS, hn, hc', f1, f2⟩ := pur_of h7
    refine ⟨⟨n0, n1, d2, d3, d4, n5, n6, p, a, c⟩, ?_, ⟨hS, hn, Nat.le_trans hc' (Nat.le_of_eq rfl), fit_of w0, fit_of w1, fit_of w5, fit_of w6, f1, f2⟩⟩
    have hd : cs.drop (28 + 12) = [] := List.drop_of_length_le (by omega)
    have e : cs = cs.drop 0 := rfl
    rw [e, cut_drop cs 0 1, e0, cut_drop cs (0 + 1) 1, e1, cut_drop cs (0 + 1 + 1) 8, e2, cut_drop cs (0 + 1 + 1 + 8) 8, e3, cut_drop cs (0 + 1 + 1 + 8 + 8) 8, e4, cut_drop cs (0 + 1 + 1 + 8 + 8 + 8) 1, e5, cut_drop cs (0 + 1 + 1 + 8 + 8 + 8 + 1) 1, e6, cut_drop cs (0 + 1 + 1 + 8 + 8 + 8 + 1 + 1) 12, e7, hd]
    simp [hac, HA.s]
theorem acts_of {H : Type} {enc : TypeId × Value → H} {w : World} {a : Option Addr} {n : Nat} (h : SlOf enc Try.prog w 65 a n) : ∃ l : List HA, l.length = n ∧ Sl hac 40 w a l ∧ ∀ x ∈ l, x.In w := by
  obtain ⟨l, h1, h2, h3⟩ := elems_of hac (fun x => x.In w) h (fun cs fuel y hy => hac_of hy)
  rw [cellsA] at h2
  exact ⟨l, h1, h2, h3⟩
end Go.Proofs.Ytajllbdeoopimaa

namespace Go.Proofs.Ytajllbdeoopimaa
open Go.ChangeShapes Go.WideShapes Go.ChangeAt Go.RowKit
set_option linter.unusedVariables false
set_option maxRecDepth 100000 in
theorem hubTotals_lifted (os : Os) (started : os.Started) (H : Type) (enc : TypeId × Value → H) :
    ReturnsInHanded {} Try.checked os 5 .any (Rows.hubTotalsSpec.pre6 enc Try.prog Try.f5 Rows.hubTotalsRow.domain false) (Rows.hubTotalsSpec.post enc Try.prog Try.f5 false true false false) := by
  refine returnsInHanded_of_change (C := Try.checked) own started (by kernel_rfl) Try.func5
    (ChangeSpec.witness6 (enc := enc) (C := Try.checked) false ⟨#[], #[.slice none 0 0], []⟩ 8 (by kernel_rfl) (by kernel_rfl) (by kernel_rfl) (by kernel_rfl)) ?_
  intro W base args ds gs before hval0 hW hcnd _
  have hval : ∀ (j : Nat) t v, Try.f5.params[j]? = some t → args[j]? = some v → Value.okWide Try.prog W .any base t v := hval0
  have hW' : DataW.Whole enc Try.prog Try.f5.params.toList Rows.hubTotalsSpec.vars false W args.toList ds gs before := hW
  obtain ⟨p, q, hA0, hV, rfl, hfz, hnd⟩ := hW
  have hA : DataW.TrodAll enc Try.prog W 0 (fun _ => true) true Try.f5.params.toList args.toList ds p := hA0
  rw [Try.params5] at hA hval
  obtain ⟨v0, d0, rfl, rfl, h0⟩ := trodAll_one hA
  obtain ⟨a0, n0, c0, rfl, hn0, hc0, hs0⟩ := open_sl Try.underlying46 (by rw [cellsA]; omega) (hval 0 46 v0 rfl rfl) h0
  obtain ⟨l0, hl0, hS0, hin0⟩ := acts_of hs0
  refine (totals_walk W a0 n0 c0 l0 hl0 hS0 hin0 (Nat.le_trans hn0 hc0)).mono fun e W' ⟨he, hk⟩ => ⟨_, he, ?_⟩
  exact law_post laidOut (by rw [Try.params5]; exact of_decide_eq_true (by kernel_rfl)) rfl hW' rfl (by kernel_rfl) Try.underlying4 hk
theorem hubTotals_holds : Rows.HubTotalsSaid :=
  OpenClaim.holds_of_wide 5 Try.f5 rfl rfl rfl rfl rfl rfl rfl ⟨rfl, rfl, rfl, rfl, rfl⟩ rfl rfl rfl rfl rfl (by kernel_rfl) Try.func5 (by kernel_rfl)
    (of_decide_eq_true (by kernel_rfl)) (by unfold Func.isWrapper; first | (rw [if_pos (by decide +kernel)]; kernel_rfl) | (rw [if_neg (by decide +kernel)]; exact ⟨rfl, rfl⟩))
    (fun os started H enc _ => hubTotals_lifted os started H enc)
end Go.Proofs.Ytajllbdeoopimaa
