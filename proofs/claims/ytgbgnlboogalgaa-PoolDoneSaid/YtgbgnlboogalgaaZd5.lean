/-
  PoolDone answers true for every input, and leaves its arguments as they were. No conditions.
-/
import Derived.Test.YtgbgnlboogalgaaZd4
namespace Go.Proofs.Ytgbgnlboogalgaa
open Go.Proofs
set_option linter.unusedVariables false
def keyD (k : UInt8) : Dg := ⟨[k, 0, 0, 0, 0, 0, 0, 0], rfl⟩
def oneT (k : UInt8) (n f : Int) : Tx := ⟨keyD k, n, f, 2, [], []⟩
def oneM (k : UInt8) (n f : Int) : Tm := ⟨oneT k n f, none, 0, none, 0⟩
theorem oneM_in (k : UInt8) (n f : Int) (m : Nat) (w : World) : (oneM k n f).In m w :=
  ⟨Bs.nil, Bs.nil, Or.inr (fun _ _ e => by cases e), Or.inr (fun _ _ e => by cases e), Nat.zero_le _, Nat.zero_le _⟩
theorem wrong_one {k : UInt8} {n f : Int} (h0 : 0 ≤ n) (h1 : n ≤ 1099511627776) (h2 : 0 ≤ f) (h3 : f ≤ 1125899906842624) : wrongT (oneT k n f) = 0 := by
  unfold wrongT
  rw [if_pos ⟨h0, h1, h2, h3, (by show (0 : Int) ≤ 2; decide), (by show (2 : Int) ≤ 2; decide), Nat.zero_le _, Nat.zero_le _⟩, if_neg (by show ¬ (2 : Int) = 0; decide)]
theorem addE_new {room h : Int} {l : List En} {t : Tx} (h1 : ¬ (h < 0 ∨ 1099511627776 < h)) (h2 : wrongT t = 0) (h3 : l.find? (isK t.frm t.non) = none) (h4 : (l.length : Int) < room) : addZ room l h t = 0 ∧ addE room l h t = l ++ [⟨t, h⟩] := by
  have hz := addZ_ok (room := room) h1 h2 h3 (by omega)
  refine ⟨hz, ?_⟩
  unfold addE
  rw [if_pos hz]
  unfold addL
  rw [erase_none h3]
def e1 : En := ⟨oneT 1 0 1, 3⟩
def e2 : En := ⟨oneT 1 1 9, 3⟩
def e3 : En := ⟨oneT 2 0 5, 3⟩
theorem ord_known : ordE [e1, e2, e3] = [e3, e1, e2] := by
  refine Ord.eq ?_
  have hb : ∀ l, e1 ∈ l → ¬ Frst En.key En.non l e2 := fun l h hf => by
    have := hf e1 h (by decide)
    revert this
    decide
  refine .step [e1, e2] e3 [] _ ⟨fun o ho hk => ?_, fun o ho hf => ?_, fun o ho hf => ?_⟩ (.step [] e1 [e2] _ ⟨fun o ho hk => ?_, fun o ho hf => ?_, fun o ho hf => (by cases ho)⟩ (.step [] e2 [] _ ⟨fun o ho hk => ?_, fun o ho hf => ?_, fun o ho hf => (by cases ho)⟩ .nil))
  · simp only [List.cons_append, List.nil_append, List.mem_cons, List.not_mem_nil, or_false] at ho
    rcases ho with rfl | rfl | rfl
    · exact absurd hk (by decide)
    · exact absurd hk (by decide)
    · exact Int.le_refl _
  · have ho' := ho
    simp only [List.cons_append, List.nil_append, List.mem_cons, List.not_mem_nil, or_false] at ho
    rcases ho with rfl | rfl | rfl
    · decide
    · exact absurd hf (hb _ (by simp))
    · exact Int.le_refl _
  · simp only [List.mem_cons, List.not_mem_nil, or_false] at ho
    rcases ho with rfl | rfl
    · decide
    · exact absurd hf (hb _ (by simp))
  · simp only [List.nil_append, List.mem_cons, List.not_mem_nil, or_false] at ho
    rcases ho with rfl | rfl
    · exact Int.le_refl _
    · decide
  · simp only [List.nil_append, List.mem_cons, List.not_mem_nil, or_false] at ho
    rcases ho with rfl | rfl
    · exact Int.le_refl _
    · exact absurd hf (hb _ (by simp))
  · simp only [List.nil_append, List.mem_cons, List.not_mem_nil, or_false] at ho
    subst ho
    exact Int.le_refl _
  · simp only [List.nil_append, List.mem_cons, List.not_mem_nil, or_false] at ho
    subst ho
    exact Int.le_refl _
theorem map3 {xs : List Tm} {a b c : Tx} (h : xs.map (·.t) = [a, b, c]) : ∃ x y z, xs = [x, y, z] ∧ x.t = a ∧ y.t = b ∧ z.t = c := by
  cases xs with
  | nil => cases h
  | cons x xs =>
    cases xs with
    | nil => cases h
    | cons y xs =>
      cases xs with
      | nil => cases h
      | cons z xs =>
        cases xs with
        | nil =>
          simp only [List.map_cons, List.map_nil, List.cons.injEq, and_true] at h
          exact ⟨x, y, z, rfl, h.1, h.2.1, h.2.2⟩
        | cons u xs => simp at h
theorem must5 : (([e3, e1, e2].filter (upB (dueL [e1, e2, e3] 5 2))).map (·.t)).length = 0 := by rw [List.length_map]; decide
theorem must6 : (([e3, e1, e2].filter (upB (dueL [e1, e2, e3] 6 2))).map (·.t)).length = 3 := by rw [List.length_map]; decide
theorem bkey (k : UInt8) (w : World) : (Instr.build 32 #[(0, bv k)]).run Try.prog w = .ok (dv (keyD k)) w := by kernel_rfl
theorem bone (k : UInt8) (n f : Int) (w : World) : (Instr.build 35 #[(0, dv (keyD k)), (1, .int .i64 n), (2, .int .i64 f), (3, .int .i64 2)]).run Try.prog w = .ok (txv (oneM k n f)) w := by kernel_rfl
theorem bbnd (l : Int) (w : World) : (Instr.build 42 #[(1, .int .i64 l)]).run Try.prog w = .ok (.agg #[.int .i64 0, .int .i64 l, .int .i64 0]) w := by kernel_rfl
attribute [local irreducible] CG NG SG Vals Der Row Blk MapIs IterAt DerX DerR wrongT nameT
set_option maxHeartbeats 16000000 in
theorem one_spec (k : UInt8) (n f : Int) (w : World) : Ret Try.prog 19 #[bv k, .int .i64 n, .int .i64 f] w (txv (oneM k n f)) := by
  refine enter3 Try.func19 rfl Try.ntmps19 rfl ?_
  repeat (first|apply cA|apply cB)
  refine SG.alloc rfl rfl rfl (fun b2 w2 hk2 hb2 hB2 => ?_)
  have hB2 : Blk w2 b2 (.cells (txc ⟨⟨zd, 0, 0, 0, [], []⟩, none, 0, none, 0⟩).toArray 35) := hB2
  repeat (first|apply cA|apply cB|apply cD|apply cE|refine cV rfl rfl rfl rfl (by first|(apply qmv<;>(exact rfl))|fail) ?_)
  refine cV rfl rfl rfl rfl (vals_build rfl (bkey k)) ?_
  repeat (first|refine cV rfl rfl rfl rfl (by first|(apply qmv<;>(exact rfl))|fail) ?_)
  refine cV rfl rfl rfl rfl (vals_build rfl (bone k n f)) ?_
  refine SG.setAll (l := txc (oneM k n f)) rfl rfl (by exact rho_of rfl) (by exact rho_of rfl) hB2 (txc_length _) rfl (txc_one _) (fun w3 hk3 hB2 => ?_)
  have hr : Row w3 b2 0 (txc (oneM k n f)) := Row.all hB2 rfl
  repeat (first|apply cD|apply cE|apply cH)
  refine ret1 (Or.inl rfl) Try.results19 (ResV.agg rfl rfl hr (txc_length _)) ?_
  exact ⟨rfl, hk2.trans_new hk3 (new1 (by omega))⟩
set_option maxHeartbeats 32000000 in
theorem known_spec (w : World) : Ret Try.prog 12 #[] w (.bool true) := by
  refine enter0 Try.func12 rfl Try.ntmps12 ?_
  have h00 : (0 : Int) = 0 := rfl
  have hnn : ∀ (b : Nat), True := fun _ => trivial
  have a1 := addE_new (room := 4) (h := 3) (l := []) (t := oneT 1 0 1) (by decide) (wrong_one (by decide) (by decide) (by decide) (by decide)) rfl (by decide)
  have a2 := addE_new (room := 4) (h := 3) (l := [e1]) (t := oneT 1 1 9) (by decide) (wrong_one (by decide) (by decide) (by decide) (by decide)) rfl (by decide)
  have a3 := addE_new (room := 4) (h := 3) (l := [e1, e2]) (t := oneT 2 0 5) (by decide) (wrong_one (by decide) (by decide) (by decide) (by decide)) rfl (by decide)
  have i0 : PInv 4 [] := inv_nil (by decide)
  have i1 : PInv 4 [e1] := by
    have := addE_inv (h := 3) (t := oneT 1 0 1) i0
    rw [a1.2] at this
    exact this
  have i2 : PInv 4 [e1, e2] := by
    have := addE_inv (h := 3) (t := oneT 1 1 9) i1
    rw [a2.2] at this
    exact this
  have i3 : PInv 4 [e1, e2, e3] := by
    have := addE_inv (h := 3) (t := oneT 2 0 5) i2
    rw [a3.2] at this
    exact this
  repeat (first|apply cA|apply cB|apply cD|apply cE|refine cV rfl rfl rfl rfl (by first|(apply qas<;>(exact rfl))|fail) ?_)
  refine SG.call rfl rfl rfl (vs := [.int .i64 4]) (by repeat' (first | exact True.intro | exact rho_of rfl | refine And.intro ?_ ?_)) ((new_spec (w := w) (room := 4) (by omega) (by omega)).mono (fun e w1 hh => ?_))
  obtain ⟨p, he, hp, hk1, hP⟩ := hh
  refine ⟨_, he, ?_⟩
  clear he
  have hP := hP w.heap.size (Nat.le_refl _)
  repeat (first|apply cA|apply cB|apply cD|apply cE|refine cV rfl rfl rfl rfl (by first|((first|apply qep|apply qmv|apply qas|apply qpk|apply qni|apply qxt|apply qep)<;>(first|exact rfl|exact dct (by first|assumption|omega)|fail))|fail) ?_)
  refine SG.ret rfl rfl rfl (vs := [bv 1, .int .i64 0, .int .i64 1]) (by repeat' (first | exact True.intro | exact rho_of rfl | refine And.intro ?_ ?_)) (one_spec 1 0 1 w1) (fun w2 hk2 => ?_)
  have hP2 := hP.kp0 hk2
  refine SG.call rfl rfl rfl (vs := [.pointer (some ⟨p, 0, none⟩), .int .i64 3, txv (oneM 1 0 1)]) (by repeat' (first | exact True.intro | exact rho_of rfl | refine And.intro ?_ ?_)) ((add_spec (h := 3) hP2 (oneM_in 1 0 1 _ _) i0 (by omega)).mono (fun e w3 hh => ?_))
  obtain ⟨he, v3, ms3, hP3, hm3, hk3, hv3⟩ := hh
  rw [show addZ 4 (List.map Em.en []) 3 (oneM 1 0 1).t = 0 from a1.1] at he
  rw [show addE 4 (List.map Em.en []) 3 (oneM 1 0 1).t = [e1] from a1.2] at hm3
  refine ⟨_, he, ?_⟩
  clear he
  have k3 : Kp [] w w3 := (hk1.trans hk2).trans_new hk3 (fun z hz => by
    rcases List.mem_cons.1 hz with rfl | hz
    · exact Or.inr hp
    · exact absurd (ownB_mem hz) (fun h => by cases h))
  have g3 : ∀ g, v3.ownBlock = some g → w.heap.size ≤ g := fun g hg => own_geB hP3.own g hg
  repeat (first|refine cV rfl rfl rfl rfl (by first|((first|apply qmv|apply qpk|apply qni)<;>(first|exact rfl|exact dct (by first|assumption|omega)|fail))|fail) ?_)
  refine SG.ret rfl rfl rfl (vs := [bv 1, .int .i64 1, .int .i64 9]) (by repeat' (first | exact True.intro | exact rho_of rfl | refine And.intro ?_ ?_)) (one_spec 1 1 9 w3) (fun w4 hk4 => ?_)
  have hP4 := hP3.kp0 hk4
  refine SG.call rfl rfl rfl (vs := [.pointer (some ⟨p, 0, none⟩), .int .i64 3, txv (oneM 1 1 9)]) (by repeat' (first | exact True.intro | exact rho_of rfl | refine And.intro ?_ ?_)) ((add_spec (h := 3) hP4 (oneM_in 1 1 9 _ _) (by rw [hm3]; exact i1) (by omega)).mono (fun e w5 hh => ?_))
  obtain ⟨he, v5, ms5, hP5, hm5, hk5, hv5⟩ := hh
  rw [hm3, show addZ 4 [e1] 3 (oneM 1 1 9).t = 0 from a2.1] at he
  rw [hm3, show addE 4 [e1] 3 (oneM 1 1 9).t = [e1, e2] from a2.2] at hm5
  refine ⟨_, he, ?_⟩
  clear he
  have k5 : Kp [] w w5 := (k3.trans hk4).trans_new hk5 (fun z hz => by
    rcases List.mem_cons.1 hz with rfl | hz
    · exact Or.inr hp
    · exact Or.inr (g3 z (ownB_mem hz)))
  have g5 : ∀ g, v5.ownBlock = some g → w.heap.size ≤ g := fun g hg => own_geB hP5.own g hg
  repeat (first|refine cV rfl rfl rfl rfl (by first|((first|apply qmv|apply qpk|apply qni)<;>(first|exact rfl|exact dct (by first|assumption|omega)|fail))|fail) ?_)
  refine SG.ret rfl rfl rfl (vs := [bv 2, .int .i64 0, .int .i64 5]) (by repeat' (first | exact True.intro | exact rho_of rfl | refine And.intro ?_ ?_)) (one_spec 2 0 5 w5) (fun w6 hk6 => ?_)
  have hP6 := hP5.kp0 hk6
  refine SG.call rfl rfl rfl (vs := [.pointer (some ⟨p, 0, none⟩), .int .i64 3, txv (oneM 2 0 5)]) (by repeat' (first | exact True.intro | exact rho_of rfl | refine And.intro ?_ ?_)) ((add_spec (h := 3) hP6 (oneM_in 2 0 5 _ _) (by rw [hm5]; exact i2) (by omega)).mono (fun e w7 hh => ?_))
  obtain ⟨he, v7, ms7, hP7, hm7, hk7, hv7⟩ := hh
  rw [hm5, show addZ 4 [e1, e2] 3 (oneM 2 0 5).t = 0 from a3.1] at he
  rw [hm5, show addE 4 [e1, e2] 3 (oneM 2 0 5).t = [e1, e2, e3] from a3.2] at hm7
  refine ⟨_, he, ?_⟩
  clear he
  have k7 : Kp [] w w7 := (k5.trans hk6).trans_new hk7 (fun z hz => by
    rcases List.mem_cons.1 hz with rfl | hz
    · exact Or.inr hp
    · exact Or.inr (g5 z (ownB_mem hz)))
  have i7 : PInv 4 (ms7.map Em.en) := by rw [hm7]; exact i3
  repeat (first|apply cD|apply cE|refine cV rfl rfl rfl rfl (by first|((first|apply qpk|apply qni)<;>(first|exact rfl|exact dct (by first|assumption|omega)|fail))|fail) ?_)
  refine dA rfl (by exact rho_of rfl) rfl ?_
  repeat (first|apply cA|apply cB|apply cE|apply cF|refine cV rfl rfl rfl rfl (by first|(apply qmv<;>(exact rfl))|fail) ?_)
  refine SG.call rfl rfl rfl (vs := [.pointer (some ⟨p, 0, none⟩)]) (by repeat' (first | exact True.intro | exact rho_of rfl | refine And.intro ?_ ?_)) ((all_spec hP7 i7 (by omega)).mono (fun e w8 hh => ?_))
  obtain ⟨v8, xs, he, hk8, hX, hxs⟩ := hh
  refine ⟨_, he, ?_⟩
  clear he
  rw [hm7, ord_known] at hxs
  obtain ⟨x1, x2, x3, rfl, t1, t2, t3⟩ := map3 hxs
  have t1 : x1.t = (oneM 2 0 5).t := t1
  have t2 : x2.t = (oneM 1 0 1).t := t2
  have t3 : x3.t = (oneM 1 1 9).t := t3
  obtain ⟨a, c, rfl, hc, hS⟩ := hX.sl
  have in1 := hX.ins x1 (by simp)
  have in2 := hX.ins x2 (by simp)
  have in3 := hX.ins x3 (by simp)
  obtain ⟨b, o, rfl, r1⟩ := hS.at (i := 0) (by simp)
  have r2 : Row w8 b (o + 1 * 13) (txc x2) := hS.row (i := 1) rfl
  have r3 : Row w8 b (o + 2 * 13) (txc x3) := hS.row (i := 2) rfl
  have r1 : Row w8 b (o + 0 * 13) (txc x1) := r1
  have gl : (([x1, x2, x3] : List Tm).length : Int) = 3 := rfl
  have hP8 := hP7.kp0 hk8
  repeat (first|apply cA|apply cD|apply cE|refine cV rfl rfl rfl rfl (by first|(apply qas<;>(exact rfl))|fail) ?_)
  refine CG.tailg mixed 34 [0, 1, 2, 3, 4, 5, 6, 7, 8, 9, 10, 11, 12, 13, 14, 15, 16, 17, 18, 19, 20, 21, 22, 23, 24, 25, 26, 27, 28, 29, 30, 31, 32, 33] [27] [] (fun _ => True) (by kernel_rfl) trivial (fun _ _ _ _ => trivial) ?_
  repeat (refine cY rfl rfl rfl (by first|((first|apply qmv|apply qla|apply qic|apply qei|apply qln)<;>(first|exact rfl|exact Ar.mk (by omega)|assumption|exact dct (by first|assumption|omega)|exact List.not_mem_nil|apply txc_length|fail))|fail) ?_)
  refine Der.call rfl rfl rfl (vs := [bv 2, .int .i64 0, .int .i64 5]) (by repeat' (first | exact True.intro | exact rho_of rfl | refine And.intro ?_ ?_)) (fun W hk _ => one_spec 2 0 5 W) ?_
  refine Der.call rfl rfl rfl (vs := [txv x1, txv (oneM 2 0 5)]) (v := .bool true) (by repeat' (first | exact True.intro | exact rho_of rfl | refine And.intro ?_ ?_)) (fun W hk _ => by have := tsame_spec (in1.kp0 hk) (oneM_in 2 0 5 0 W); rw [txEq_t t1] at this; exact this) ?_
  repeat (refine cY rfl rfl rfl (by first|((first|apply qmv|apply qla|apply qic|apply qpk)<;>(first|exact rfl|exact Ar.mk (by omega)|assumption|exact List.not_mem_nil|apply txc_length|fail))|fail) ?_)
  refine Der.call rfl rfl rfl (vs := [bv 1, .int .i64 0, .int .i64 1]) (by repeat' (first | exact True.intro | exact rho_of rfl | refine And.intro ?_ ?_)) (fun W hk _ => one_spec 1 0 1 W) ?_
  refine Der.call rfl rfl rfl (vs := [txv x2, txv (oneM 1 0 1)]) (v := .bool true) (by repeat' (first | exact True.intro | exact rho_of rfl | refine And.intro ?_ ?_)) (fun W hk _ => by have := tsame_spec (in2.kp0 hk) (oneM_in 1 0 1 0 W); rw [txEq_t t2] at this; exact this) ?_
  repeat (refine cY rfl rfl rfl (by first|((first|apply qmv|apply qla|apply qic|apply qpk)<;>(first|exact rfl|exact Ar.mk (by omega)|assumption|exact List.not_mem_nil|apply txc_length|fail))|fail) ?_)
  refine Der.call rfl rfl rfl (vs := [bv 1, .int .i64 1, .int .i64 9]) (by repeat' (first | exact True.intro | exact rho_of rfl | refine And.intro ?_ ?_)) (fun W hk _ => one_spec 1 1 9 W) ?_
  refine Der.call rfl rfl rfl (vs := [txv x3, txv (oneM 1 1 9)]) (v := .bool true) (by repeat' (first | exact True.intro | exact rho_of rfl | refine And.intro ?_ ?_)) (fun W hk _ => by have := tsame_spec (in3.kp0 hk) (oneM_in 1 1 9 0 W); rw [txEq_t t3] at this; exact this) ?_
  repeat (refine cY rfl rfl rfl (by first|((first|apply qmv|apply qpk)<;>(exact rfl))|fail) ?_)
  refine cY rfl rfl rfl (vals_build rfl (bbnd 2)) ?_
  refine Der.callG (X := Option Addr × Nat) (vs := [.pointer (some ⟨p, 0, none⟩), .int .i64 5, .agg #[.int .i64 0, .int .i64 2, .int .i64 0]]) (fun q => .slice q.1 0 q.2) (fun _ _ => True) rfl rfl rfl rfl (by repeat' (first | exact True.intro | exact rho_of rfl | refine And.intro ?_ ?_)) (fun _ _ _ _ _ => trivial) (fun _ _ _ _ => trivial) (fun W hk _ => (must_spec (h := 5) (f := 0) (l := 2) (s := 0) (hP8.kp0 hk) i7 (by omega) ⟨by decide, by decide⟩ ⟨by decide, by decide⟩).mono (fun e W' hh => ?_)) (fun q => ?_)
  · obtain ⟨v', ys, he, hk', hY, hys⟩ := hh
    have hyl : ys.length = 0 := by
      have := congrArg List.length hys
      rw [hm7, ord_known, must5, List.length_map] at this
      exact this
    obtain ⟨a', c', rfl, -, -⟩ := hY.sl
    rw [hyl] at he
    exact ⟨(a', c'), he, trivial, hk'⟩
  repeat (refine cY rfl rfl rfl (by first|((first|apply qmv|apply qpk|apply qei|apply qln)<;>(first|exact rfl|exact dct (by first|assumption|omega)|fail))|fail) ?_)
  refine cY rfl rfl rfl (vals_build rfl (bbnd 2)) ?_
  refine Der.tl (fun w9 hk9 _ _ => ?_)
  refine SG.call rfl rfl rfl (vs := [.pointer (some ⟨p, 0, none⟩), .int .i64 6, .agg #[.int .i64 0, .int .i64 2, .int .i64 0]]) (by repeat' (first | exact True.intro | exact rho_of rfl | refine And.intro ?_ ?_)) ((must_spec (h := 6) (f := 0) (l := 2) (s := 0) (hP8.kp0 hk9) i7 (by omega) ⟨by decide, by decide⟩ ⟨by decide, by decide⟩).mono (fun e w10 hh => ?_))
  obtain ⟨v', ys, he, hk', hY, hys⟩ := hh
  have hyl : ys.length = 3 := by
    have := congrArg List.length hys
    rw [hm7, ord_known, must6, List.length_map] at this
    exact this
  obtain ⟨a', c', rfl, -, -⟩ := hY.sl
  rw [hyl] at he
  refine ⟨_, he, ?_⟩
  repeat (first|apply cD|apply cE|apply cH|refine cV rfl rfl rfl rfl (by first|((first|apply qas|apply qpk|apply qei|apply qln)<;>(first|exact rfl|exact dct (by first|assumption|omega)|fail))|fail) ?_)
  refine ret1 (Or.inl rfl) Try.results12 (by first | exact ResV.tmp rfl | exact ResV.agg rfl rfl (by assumption) (by first | exact dc_length _ | exact nc_length _ | exact rc_length _ _ _ | exact ec_length _ | exact dl_length _ _ _ _ | rfl) | exact ResV.cell rfl rfl (by assumption)) ?_
  exact ⟨rfl, ((k7.trans hk8).trans hk9).trans hk'⟩
end Go.Proofs.Ytgbgnlboogalgaa
namespace Go.Proofs.Ytgbgnlboogalgaa
open Go.Proofs
set_option linter.unusedVariables false
theorem map_at {xs : List Tm} {l : List En} (h : xs.map (·.t) = l.map (·.t)) {i : Nat} (hi : i < xs.length) : ∃ h2 : i < l.length, xs[i].t = l[i].t := by
  have hl := congrArg List.length h
  simp only [List.length_map] at hl
  refine ⟨by omega, ?_⟩
  have := congrArg (fun x => x[i]?) h
  simp only [List.getElem?_map, List.getElem?_eq_getElem hi, List.getElem?_eq_getElem (show i < l.length by omega), Option.map_some, Option.some.injEq] at this
  exact this
attribute [local irreducible] CG NG SG Vals Der Row Blk MapIs IterAt DerX DerR wrongT nameT
end Go.Proofs.Ytgbgnlboogalgaa
namespace Go.Proofs.Ytgbgnlboogalgaa
set_option linter.unusedVariables false
def isT (k : Dg) (n : Int) (t : Tx) : Bool := decide (t.frm = k ∧ t.non = n)
noncomputable def ordT (ts : List Tx) : List Tx := ordL Tx.frm Tx.non Tx.fee ts
open Classical in
noncomputable def goodT (room : Int) (L : List Tx) (t : Tx) : Prop := wrongT t = 0 ∧ match L.find? (isT t.frm t.non) with
  | some o => ¬ o = t ∧ ¬ t.fee ≤ o.fee
  | none => ¬ room ≤ L.length
open Classical in
noncomputable def addT (room : Int) (L : List Tx) (t : Tx) : List Tx := if goodT room L t then L.filter (fun x => !isT t.frm t.non x) ++ [t] else L
noncomputable def fillT (ts : List Tx) : List Tx := ts.foldl (addT 30) []
def nk (k : Dg) (t : Tx) : Bool := decide (t.frm ≠ k)
theorem pairT_E (x : List En) : (x.map (·.t)).map pairT = x.map pairE := by
  rw [List.map_map]
  rfl
theorem up_stays (x : List En) (e : En) : (!upB (x.map pairE) e) = stays En.key En.non x e := by
  unfold upB stays
  rw [List.any_map]
  rfl
theorem done_take {l : List En} (hd : Dst En.key En.non l) (n : Nat) : ordE (doneL l (((ordE l).take n).map (·.t))) = (ordE l).drop n := by
  unfold doneL
  rw [pairT_E]
  have h := (ordE_spec l).behind hd n
  have e : l.filter (fun e => !upB (((ordE l).take n).map pairE) e) = l.filter (stays En.key En.non ((ordE l).take n)) := List.filter_congr (fun x _ => up_stays _ x)
  rw [e]
  exact h.eq
theorem done_len {l : List En} (hd : Dst En.key En.non l) (n : Nat) : (doneL l (((ordE l).take n).map (·.t))).length = l.length - n := by
  have h := congrArg List.length (done_take hd n)
  rw [ordE_length, List.length_drop, ordE_length] at h
  exact h
/-- They come back. -/
theorem back_new {room h : Int} (hh : ¬ (h < 0 ∨ 1099511627776 < h)) : ∀ (x : List Tx) (s : List En × Int), (∀ t ∈ x, wrongT t = 0) → (s.1.length + x.length : Int) ≤ room → (∀ t ∈ x, ∀ e ∈ s.1, ¬ (e.t.frm = t.frm ∧ e.t.non = t.non)) → x.Pairwise (fun a b => ¬ (a.frm = b.frm ∧ a.non = b.non)) →
    x.foldl (backS room h) s = (s.1 ++ x.map (fun t => ⟨t, h⟩), s.2 + x.length)
  | [], s, _, _, _, _ => by simp
  | t :: x, s, hw, hl, hn, hp => by
    have hnone : s.1.find? (isK t.frm t.non) = none := List.find?_eq_none.2 (fun e he hk => hn t List.mem_cons_self e he (isK_iff.1 hk))
    obtain ⟨hz, ha⟩ := addE_new (room := room) (h := h) (l := s.1) hh (hw t List.mem_cons_self) hnone (by simp only [List.length_cons] at hl; omega)
    have hs : backS room h s t = (s.1 ++ [⟨t, h⟩], s.2 + 1) := by
      unfold backS
      rw [hnone, if_neg (by simp), ha, if_pos hz]
    simp only [List.foldl_cons]
    rw [hs, back_new hh x _ (fun t ht => hw t (List.mem_cons_of_mem _ ht)) (by simp only [List.length_append, List.length_cons, List.length_nil] at hl ⊢; omega) (fun u hu e he => ?_) (List.pairwise_cons.1 hp).2]
    · simp only [List.append_assoc, List.cons_append, List.nil_append, List.map_cons, List.length_cons]
      congr 1
      omega
    · rcases List.mem_append.1 he with he | he
      · exact hn u (List.mem_cons_of_mem _ hu) e he
      · rw [List.mem_singleton] at he
        subst he
        exact (List.pairwise_cons.1 hp).1 u hu
/-- .. where all are there, nothing comes. -/
theorem back_old {room h : Int} : ∀ (x : List Tx) (s : List En × Int), (∀ t ∈ x, ∃ e ∈ s.1, e.t.frm = t.frm ∧ e.t.non = t.non) → x.foldl (backS room h) s = s
  | [], s, _ => rfl
  | t :: x, s, hn => by
    obtain ⟨e, he, h1⟩ := hn t List.mem_cons_self
    have hs : backS room h s t = s := by
      unfold backS
      rw [if_pos (List.find?_isSome.2 ⟨e, he, isK_iff.2 h1⟩)]
    simp only [List.foldl_cons]
    rw [hs]
    exact back_old x s (fun t ht => hn t (List.mem_cons_of_mem _ ht))
end Go.Proofs.Ytgbgnlboogalgaa
namespace Go.Proofs.Ytgbgnlboogalgaa
set_option linter.unusedVariables false
section
variable {l : List En} {m : Nat}
noncomputable def firstX (l : List En) (m : Nat) : List Tx := ((ordE l).take m).map (·.t)
theorem firstX_len : (firstX l m).length = min m l.length := by
  unfold firstX
  rw [List.length_map, List.length_take, ordE_length]
theorem firstX_mem {t : Tx} (h : t ∈ firstX l m) : ∃ e ∈ l, e.t = t := by
  unfold firstX at h
  obtain ⟨e, he, rfl⟩ := List.mem_map.1 h
  exact ⟨e, (ordE_perm l).mem_iff.1 (List.mem_of_mem_take he), rfl⟩
noncomputable def backX (l : List En) (m : Nat) : List En := doneL l (firstX l m) ++ (firstX l m).map (fun t => ⟨t, 5⟩)
theorem done_firstX_len (hd : Dst En.key En.non l) : (doneL l (firstX l m)).length = l.length - m := done_len hd m
theorem backX_eq (hi : PInv 30 l) : backL 30 (doneL l (firstX l m)) 5 (firstX l m) = (backX l m, ((firstX l m).length : Int)) := by
  have q1 : ∀ t ∈ firstX l m, wrongT t = 0 := fun t ht => by
    obtain ⟨e, he, rfl⟩ := firstX_mem ht
    exact hi.ok e he
  have q2 : ((doneL l (firstX l m)).length + (firstX l m).length : Int) ≤ 30 := by
    have h1 := done_firstX_len (m := m) hi.dst
    have h2 := firstX_len (l := l) (m := m)
    have h3 := hi.len
    omega
  have q3 : ∀ t ∈ firstX l m, ∀ e ∈ doneL l (firstX l m), ¬ (e.t.frm = t.frm ∧ e.t.non = t.non) := fun t ht e he hh => by
    have h1 := (List.mem_filter.1 he).2
    have h2 : upB ((firstX l m).map pairT) e = true := by
      unfold upB
      rw [List.any_eq_true]
      exact ⟨pairT t, List.mem_map.2 ⟨t, ht, rfl⟩, decide_eq_true ⟨hh.1.symm, Int.le_of_eq hh.2⟩⟩
    rw [h2] at h1
    cases h1
  have q4 : (firstX l m).Pairwise (fun a b => ¬ (a.frm = b.frm ∧ a.non = b.non)) := by
    unfold firstX
    rw [List.pairwise_map]
    refine ((ordE_rise hi.dst).sublist (List.take_sublist _ _)).imp (fun {a b} h hh => ?_)
    have := h hh.1
    have h2 : a.t.non = b.t.non := hh.2
    have h3 : a.t.non < b.t.non := this
    omega
  unfold backL backX
  rw [back_new (by omega) (firstX l m) (doneL l (firstX l m), 0) q1 q2 q3 q4]
  simp only [Int.zero_add]
theorem backX_len (hi : PInv 30 l) : (backX l m).length = l.length := by
  unfold backX
  rw [List.length_append, List.length_map, done_firstX_len hi.dst, firstX_len]
  omega
theorem backX_inv (hi : PInv 30 l) : PInv 30 (backX l m) := by
  have := backL_inv (h := 5) (ts := firstX l m) (doneL_inv (ts := firstX l m) hi)
  rw [backX_eq hi] at this
  exact this
theorem backX_again : backL 30 (backX l m) 5 (firstX l m) = (backX l m, 0) := by
  unfold backL
  exact back_old _ _ (fun t ht => ⟨⟨t, 5⟩, List.mem_append_right _ (List.mem_map.2 ⟨t, ht, rfl⟩), rfl, rfl⟩)
theorem backX_done : doneL (backX l m) ((ordE l).map (·.t)) = [] := by
  have key : ∀ t, (∃ e ∈ l, e.t = t) → ∀ s, upB (((ordE l).map (·.t)).map pairT) ⟨t, s⟩ = true := fun t ⟨e, he, ht⟩ s => by
    unfold upB
    rw [List.any_eq_true]
    exact ⟨pairT t, List.mem_map.2 ⟨t, List.mem_map.2 ⟨e, (ordE_perm l).mem_iff.2 he, ht⟩, rfl⟩, decide_eq_true ⟨rfl, Int.le_refl _⟩⟩
  unfold doneL
  rw [List.filter_eq_nil_iff]
  intro e he
  have : upB (((ordE l).map (·.t)).map pairT) e = true := by
    unfold backX at he
    rcases List.mem_append.1 he with he | he
    · exact key e.t ⟨e, (List.mem_filter.1 he).1, rfl⟩ e.since
    · obtain ⟨t, ht, rfl⟩ := List.mem_map.1 he
      exact key t (firstX_mem ht) 5
  rw [this]
  decide
theorem left_at (hd : Dst En.key En.non l) {zs left : List Tm} (hz : zs.map (·.t) = (ordE l).map (·.t)) (hl : left.map (·.t) = (ordE (doneL l (firstX l m))).map (·.t)) {i : Nat} (hi : i < left.length) : ∃ h : (firstX l m).length + i < zs.length, left[i].t = zs[(firstX l m).length + i].t := by
  have h0 : ordE (doneL l (firstX l m)) = (ordE l).drop m := done_take hd m
  rw [h0] at hl
  obtain ⟨h1, e1⟩ := map_at hl hi
  rw [List.length_drop, ordE_length] at h1
  have hzl := congrArg List.length hz
  rw [List.length_map, List.length_map, ordE_length] at hzl
  have hm : (firstX l m).length = m := by rw [firstX_len]; omega
  have h3 : (firstX l m).length + i < zs.length := by omega
  refine ⟨h3, ?_⟩
  obtain ⟨h2, e2⟩ := map_at hz h3
  rw [e1, e2, List.getElem_drop]
  congr 1
  simp only [hm]
end
theorem out_nil (l : List En) : (ordE l).filter (fun e => !exB (outL l []) e) = ordE l := by
  rw [List.filter_eq_self]
  intro e _
  have : outL l [] = [] := by
    unfold outL
    rw [List.map_eq_nil_iff, List.filter_eq_nil_iff]
    intro x _
    simp
  rw [this]
  rfl
theorem mod_n (z : Int) (n : Nat) (hn : 0 < n) (hn2 : n ≤ 1000000) : ∃ m : Nat, IntKind.wrap .i64 (IntKind.wrap .u64 z % (n : Int)) = (m : Int) ∧ m < n := by
  have h1 := wrap64_bd z
  generalize IntKind.wrap .u64 z = y at h1
  have h2 : 0 ≤ y % (n : Int) := Int.emod_nonneg _ (by omega)
  have h3 : y % (n : Int) < (n : Int) := Int.emod_lt_of_pos _ (by omega)
  generalize y % (n : Int) = x at h2 h3
  refine ⟨x.toNat, ?_, by omega⟩
  simp only [IntKind.wrap, IntKind.signed, IntKind.bits]
  simp
  omega
end Go.Proofs.Ytgbgnlboogalgaa
namespace Go.Proofs.Ytgbgnlboogalgaa
open Go.Proofs
set_option linter.unusedVariables false
theorem Oth.mono {n m : Nat} {w : World} {S : List Nat} (h : Oth n w S) (hm : m ≤ n) : Oth m w S := fun b hb => ⟨Nat.le_trans hm (h b hb).1, (h b hb).2⟩
/-- What is answered stays, whatever becomes of the pool. -/
theorem TxsO.kpP {w w' : World} {base p n : Nat} {v vr : Value} {room : Int} {ms : List Em} {xs : List Tm} (h : TxsO w n vr xs) (hP : Pl w base p v room ms) (hk : Kp (p :: ownB v) w w') : TxsO w' n vr xs :=
  h.kp hk (fun b hb hm => by
    rcases List.mem_cons.1 hm with rfl | hm
    · exact own_neb h.own (by decide) hP.blk b hb List.mem_cons_self
    · exact own_apT h.own hP.own (by decide) b hb hm) (hP.oth.mono (Nat.zero_le _))
attribute [local irreducible] CG NG SG Vals Der Row Blk MapIs IterAt DerX DerR wrongT nameT
set_option maxHeartbeats 64000000 in
theorem done_walk (w : World) (a : Option Addr) (c : Nat) (xs : List Tm) (hX : TxsR w w.heap.size a xs) (most : Int) : Ret Try.prog 7 #[.slice a xs.length c, .int .i64 most] w (.bool true) := by
  refine enter2 Try.func7 rfl Try.ntmps7 rfl ?_
  have h00 : (0 : Int) = 0 := rfl
  repeat (first|apply cA|apply cB|apply cD|apply cE|refine cV rfl rfl rfl rfl (by first|((first|apply qmv|apply qas)<;>(exact rfl))|fail) ?_)
  refine SG.call rfl rfl rfl (vs := [.slice a xs.length c, .int .i64 ((20 : Nat) : Int)]) (by repeat' (first | exact True.intro | exact rho_of rfl | refine And.intro ?_ ?_)) ((cuts_spec (c := c) hX (most := 20) (by omega) (Nat.le_refl _)).mono (fun e w1 hh => ?_))
  obtain ⟨v1, he, hk1, hN⟩ := hh
  refine ⟨_, he, ?_⟩
  clear he
  obtain ⟨a1, c1, rfl, hc1, hXI⟩ := hN.toI
  generalize hys : (xs.take 20).map cutM = ys at hXI hc1
  have hyl : ys.length ≤ 20 := by rw [← hys, List.length_map, List.length_take]; omega
  clear hN hys
  refine SG.call rfl rfl rfl (vs := [.slice a1 ys.length c1]) (by repeat' (first | exact True.intro | exact rho_of rfl | refine And.intro ?_ ?_)) ((filled_spec hXI (by omega) hk1.size).mono (fun e w2 hh => ?_))
  obtain ⟨p, v, ms, a', c', ws, he, hk2, hP, hp, hv, -, hms, -⟩ := hh
  refine ⟨_, he, ?_⟩
  clear he
  have k2 := hk1.trans hk2
  have s1 := hk1.size
  have hI : PInv 30 (ms.map Em.en) := by rw [hms]; exact fillL_inv _ _
  generalize hl : ms.map Em.en = l at hI
  have hlen := hI.len
  have hml : ms.length = l.length := by rw [← hl, List.length_map]
  repeat (first|refine cV rfl rfl rfl rfl (by first|((first|apply qmv|apply qxt)<;>(exact rfl))|fail) ?_)
  refine SG.alloc rfl rfl rfl (fun b4 w3 hk3 hb4 hB4 => ?_)
  have hB4 : Blk w3 b4 (.cells (pdc 0 none 0 0).toArray 26) := hB4
  repeat (first|refine cV rfl rfl rfl rfl (by first|(apply qas<;>(exact rfl))|fail) ?_)
  refine SG.setAll (l := pdc 30 a' ws.length c') rfl rfl (by exact rho_of rfl) (by exact rho_of rfl) hB4 rfl rfl rfl (fun w4 hk4 hB4 => ?_)
  have k24 : Kp [] w2 w4 := hk3.trans_new hk4 (new1 (by omega))
  have k4 := k2.trans k24
  have hP4 := hP.kp0 k24
  repeat (first|apply cA|apply cB|apply cD|apply cE|refine cV rfl rfl rfl rfl (by first|((first|apply qep|apply qmv|apply qep)<;>(exact rfl))|fail) ?_)
  refine dA rfl (by exact rho_of rfl) rfl ?_
  obtain ⟨m, hm, hm20⟩ := mod_n most 20 (by omega) (by omega)
  have hm : IntKind.wrap .i64 (IntKind.wrap .u64 most % 20) = (m : Int) := hm
  have hw0 : 0 ≤ IntKind.wrap .u64 most := (wrap64_bd most).1
  repeat (first|apply cA|apply cB|apply cD|apply cE|apply cF|refine cV rfl rfl rfl rfl (by first|((first|apply qru|apply qmv|apply qas|apply qcv)<;>(first|exact rfl|exact Ar.mk (by omega)|fail))|fail) ?_)
  rw [hm]
  refine SG.call rfl rfl rfl (vs := [.pointer (some ⟨p, 0, none⟩)]) (by repeat' (first | exact True.intro | exact rho_of rfl | refine And.intro ?_ ?_)) ((all_spec hP4 (by rw [hl]; exact hI) (by omega)).mono (fun e w5 hh => ?_))
  obtain ⟨v5, zs, he, hk5, hZ, hzs⟩ := hh
  refine ⟨_, he, ?_⟩
  clear he
  rw [hl] at hzs
  have k5 := k4.trans hk5
  have hP5 := hP4.kp0 hk5
  repeat (first|apply cA|apply cB|apply cD|apply cE|refine cV rfl rfl rfl rfl (by first|((first|apply qmv|apply qas)<;>(exact rfl))|fail) ?_)
  refine SG.call rfl rfl rfl (vs := [.pointer (some ⟨p, 0, none⟩), .int .i64 (m : Int), .slice none ([] : List Dg).length 0]) (by repeat' (first | exact True.intro | exact rho_of rfl | refine And.intro ?_ ?_)) ((ptake_spec (c0 := 0) hP5 (by rw [hl]; exact hI) (by omega) (most := (m : Int)) ⟨by omega, by omega⟩ (ns := []) Sl.nil (by simp)).mono (fun e w6 hh => ?_))
  obtain ⟨v6, us, he, hk6, hU, hus⟩ := hh
  refine ⟨_, he, ?_⟩
  clear he
  rw [hl, out_nil, Int.toNat_natCast] at hus
  have hus : us.map (·.t) = firstX l m := hus
  have k6 := k5.trans hk6
  have hP6 := hP5.kp0 hk6
  have hZ6 := hZ.kp0 hk6
  have hzl : zs.length = l.length := by
    have := congrArg List.length hzs
    rw [List.length_map, List.length_map, ordE_length] at this
    exact this
  have hul : us.length = min m l.length := by
    have := congrArg List.length hus
    rw [List.length_map, firstX_len] at this
    exact this
  have hfl : (firstX l m).length = us.length := by rw [← hus, List.length_map]
  obtain ⟨au, cu, rfl, hcu, hUI⟩ := hU.toI (n := w.heap.size)
  obtain ⟨az, cz, rfl, hcz, hSz⟩ := hZ6.sl
  have hdl := done_firstX_len (m := m) hI.dst
  have g1 : ¬ (zs.length : Int) < (us.length : Int) := by omega
  repeat (first|apply cA|apply cB|apply cD|apply cE|refine cV rfl rfl rfl rfl (by first|((first|apply qmv|apply qas|apply qln|apply qgt)<;>(first|exact rfl|exact dcf (by first|assumption|omega)|fail))|fail) ?_)
  refine SG.call rfl rfl rfl (vs := [.pointer (some ⟨p, 0, none⟩), .slice au us.length cu]) (by repeat' (first | exact True.intro | exact rho_of rfl | refine And.intro ?_ ?_)) ((done_spec (c := cu) hP6 (by rw [hl]; exact hI) (by omega) hUI.sl (by omega)).mono (fun e w7 hh => ?_))
  obtain ⟨he, v7, ms7, hP7, hm7, hk7, hv7⟩ := hh
  rw [hl, hus] at he hm7
  have g2 : (ms.length : Int) - ((doneL l (firstX l m)).length : Int) = (us.length : Int) := by omega
  rw [g2] at he
  refine ⟨_, he, ?_⟩
  clear he
  have hI7 : PInv 30 (ms7.map Em.en) := by rw [hm7]; exact doneL_inv hI
  have hU7 := hU.kpP hP6 hk7
  have hUI7 := hUI.kpP hP6 hk7
  have hZ7 := hZ6.kpP hP6 hk7
  have k7 : Kp [] w w7 := k6.trans_new hk7 (fun z hz => by
    rcases List.mem_cons.1 hz with rfl | hz
    · exact Or.inr (by omega)
    · exact Or.inr (by have := hv z (ownB_mem hz); omega))
  have hv7' : ∀ b, v7.ownBlock = some b → w.heap.size ≤ b := fun b hb => by have := hv b (hv7 b hb); omega
  have g3 : (us.length : Int) = (us.length : Int) := rfl
  repeat (first|apply cD|apply cE|refine cV rfl rfl rfl rfl (by first|((first|apply qmv|apply qpk|apply qni|apply qln)<;>(first|exact rfl|exact dct (by first|assumption|omega)|fail))|fail) ?_)
  refine dA rfl (by exact rho_of rfl) rfl ?_
  repeat (first|apply cA|apply cB|apply cE|apply cF|refine cV rfl rfl rfl rfl (by first|(apply qmv<;>(exact rfl))|fail) ?_)
  refine SG.call rfl rfl rfl (vs := [.pointer (some ⟨p, 0, none⟩)]) (by repeat' (first | exact True.intro | exact rho_of rfl | refine And.intro ?_ ?_)) ((all_spec hP7 hI7 (by omega)).mono (fun e w8 hh => ?_))
  obtain ⟨v8, ls, he, hk8, hL, hls⟩ := hh
  refine ⟨_, he, ?_⟩
  clear he
  rw [hm7] at hls
  have hll : ls.length = l.length - m := by
    have := congrArg List.length hls
    rw [List.length_map, List.length_map, ordE_length, hdl] at this
    exact this
  obtain ⟨al, cl, rfl, hcl, hSl⟩ := hL.sl
  have k8 := k7.trans hk8
  have g4 : (ls.length : Int) = (zs.length : Int) - (us.length : Int) := by omega
  repeat (first|apply cA|apply cB|apply cD|apply cE|refine cV rfl rfl rfl rfl (by first|((first|apply qmv|apply qas|apply qni|apply qln|apply qsb)<;>(first|exact rfl|exact Ar.mk (by omega)|exact dct (by first|assumption|omega)|fail))|fail) ?_)
  refine dA rfl (by exact rho_of rfl) rfl ?_
  repeat (first|apply cA|apply cB|apply cD|apply cE|apply cF|apply cG|refine cV rfl rfl rfl rfl (by first|(apply qas<;>(exact rfl))|fail) ?_)
  have hSz8 := (hZ7.kp0 hk8).sl
  obtain ⟨az2, cz2, ez, -, hSz8⟩ := hSz8
  cases ez
  refine CG.loop (X := Nat) (fun i => [(5, .pointer (some ⟨p, 0, none⟩)), (7, .slice az zs.length cz), (8, .slice au us.length cu), (9, .slice al ls.length cl), (10, .int .i64 (i : Int))]) (fun i w' => i ≤ ls.length ∧ Kp [] w8 w') (fun i => ls.length - i) 0 ⟨Nat.zero_le _, Kp.refl _ _⟩ (by (repeat' (first | exact True.intro | exact rfl | refine And.intro ?_ ?_))) ?_
  rintro i w9 ⟨hi, hk9⟩
  refine CG.to [(5, .pointer (some ⟨p, 0, none⟩)), (7, .slice az zs.length cz), (8, .slice au us.length cu), (9, .slice al ls.length cl), (10, .int .i64 (i : Int))] (by (repeat' (first | exact True.intro | exact rfl | refine And.intro ?_ ?_))) ?_
  by_cases hlt : i < ls.length
  · have g5 : (i : Int) < (ls.length : Int) := by omega
    obtain ⟨hj, hsame⟩ := left_at hI.dst hzs hls hlt
    rw [hfl] at hj
    have hsame : ls[i].t = zs[us.length + i].t := by rw [hsame]; congr 1; simp only [hfl]
    obtain ⟨bl, ol, rfl, rl⟩ := (hSl.kp0 hk9).at hlt
    obtain ⟨bz, oz, rfl, rz⟩ := (hSz8.kp0 hk9).at hj
    repeat (first|apply cA|apply cB|apply cD|apply cE|refine cV rfl rfl rfl rfl (by first|((first|apply qmv|apply qls|apply qln)<;>(first|exact rfl|exact dct (by first|assumption|omega)|fail))|fail) ?_)
    refine cZ rfl (by exact rho_of rfl) rfl ?_
    repeat (first|apply cA|apply cE|apply cF|apply cG)
    refine CG.tail mixed 11 [0, 1, 2, 3, 4, 5, 6, 7, 8, 9, 10] (by kernel_rfl) ?_
    repeat (refine cY rfl rfl rfl (by first|((first|apply qmv|apply qla|apply qix|apply qad|apply qln)<;>(first|exact rfl|exact Ar.mk (by omega)|assumption|exact List.not_mem_nil|apply txc_length|fail))|fail) ?_)
    refine Der.tl (fun w10 hk10 _ _ => ?_)
    have ts := tsame_spec (((hL.ins _ (List.getElem_mem hlt)).kp0 hk9).kp0 hk10) ((((hZ7.ins _ (List.getElem_mem hj)).kp0 hk8).kp0 hk9).kp0 hk10)
    rw [txEq_t hsame] at ts
    refine SG.ret rfl rfl rfl (vs := [txv ls[i], txv zs[us.length + i]]) (by repeat' (first | exact True.intro | exact rho_of rfl | refine And.intro ?_ ?_)) ts (fun w11 hk11 => ?_)
    repeat (first|apply cD|apply cE|refine cV rfl rfl rfl rfl (by first|(apply qnt<;>(exact rfl))|fail) ?_)
    refine dA rfl (by exact rho_of rfl) rfl ?_
    repeat (first|apply cB|apply cD|apply cE|apply cF|apply cU|refine cV rfl rfl rfl rfl (by first|((first|apply qmv|apply qas|apply qad)<;>(first|exact rfl|exact Ar.mk (by omega)|fail))|fail) ?_)
    refine NG.round (i + 1) (by (repeat' (first | exact True.intro | exact rfl | refine And.intro ?_ ?_))) ⟨by omega, (hk9.trans hk10).trans hk11⟩ (by omega)
  have g5 : ¬ (i : Int) < (ls.length : Int) := by omega
  have k9 := k8.trans hk9
  have hP9 := (hP7.kp0 hk8).kp0 hk9
  have hU9 := (hUI7.kp0 hk8).kp0 hk9
  have s9 := k9.size
  repeat (first|apply cA|apply cB|apply cD|apply cE|refine cV rfl rfl rfl rfl (by first|((first|apply qmv|apply qls|apply qln)<;>(first|exact rfl|exact dcf (by first|assumption|omega)|fail))|fail) ?_)
  refine dA rfl (by exact rho_of rfl) rfl ?_
  repeat (first|apply cA|apply cB|apply cE|apply cJ|apply cM|refine cQ rfl ?_|refine cV rfl rfl rfl rfl (by first|(apply qmv<;>(exact rfl))|fail) ?_)
  refine SG.call rfl rfl rfl (vs := [.pointer (some ⟨p, 0, none⟩), .int .i64 5, .slice au us.length cu]) (by repeat' (first | exact True.intro | exact rho_of rfl | refine And.intro ?_ ?_)) ((back_spec (h := 5) (c := cu) hP9 hI7 (by omega) hU9 (by omega)).mono (fun e w10 hh => ?_))
  obtain ⟨he, v10, ms10, hP10, hm10, hk10, hv10⟩ := hh
  rw [hm7, hus, backX_eq hI] at he hm10
  refine ⟨_, he, ?_⟩
  clear he
  have hm10 : ms10.map Em.en = backX l m := hm10
  have hI10 : PInv 30 (ms10.map Em.en) := by rw [hm10]; exact backX_inv hI
  have hml10 : ms10.length = l.length := by
    have := congrArg List.length hm10
    rw [List.length_map, backX_len hI] at this
    exact this
  have hU10 := hU9.kpP hP9 hk10
  have k10 : Kp [] w w10 := k9.trans_new hk10 (fun z hz => by
    rcases List.mem_cons.1 hz with rfl | hz
    · exact Or.inr (by omega)
    · exact Or.inr (by have := hv7' z (ownB_mem hz); omega))
  have hv10' : ∀ b, v10.ownBlock = some b → w.heap.size ≤ b := fun b hb => by
    rcases hv10 b hb with h | h
    · exact hv7' b h
    · omega
  have hZ9 : TxsO w10 w4.heap.size (.slice az zs.length cz) zs := ((hZ7.kp0 hk8).kp0 hk9).kpP hP9 hk10
  repeat (first|apply cA|apply cB|apply cD|apply cE|refine cV rfl rfl rfl rfl (by first|(apply qas<;>(exact rfl))|fail) ?_)
  refine SG.ret rfl rfl rfl (vs := []) (by repeat' (first | exact True.intro | exact rho_of rfl | refine And.intro ?_ ?_)) (known_spec w10) (fun w11 hk11 => ?_)
  have g6 : ((firstX l m).length : Int) = (us.length : Int) := by omega
  have hP11 := hP10.kp0 hk11
  have hlen11 := len_spec hP11
  rw [hml10] at hlen11
  repeat (first|refine cV rfl rfl rfl rfl (by first|((first|apply qmv|apply qpk|apply qei|apply qln)<;>(first|exact rfl|exact dct (by first|assumption|omega)|fail))|fail) ?_)
  refine SG.ret rfl rfl rfl (vs := [.pointer (some ⟨p, 0, none⟩)]) (by repeat' (first | exact True.intro | exact rho_of rfl | refine And.intro ?_ ?_)) hlen11 (fun w12 hk12 => ?_)
  have g7 : (l.length : Int) = (zs.length : Int) := by omega
  have k1012 := hk11.trans hk12
  have hP12 := hP11.kp0 hk12
  have hU12 := hU10.kp0 k1012
  have k12 := k10.trans k1012
  repeat (first|refine cV rfl rfl rfl rfl (by first|((first|apply qmv|apply qpk|apply qei|apply qln)<;>(first|exact rfl|exact dct (by first|assumption|omega)|fail))|fail) ?_)
  refine SG.call rfl rfl rfl (vs := [.pointer (some ⟨p, 0, none⟩), .int .i64 5, .slice au us.length cu]) (by repeat' (first | exact True.intro | exact rho_of rfl | refine And.intro ?_ ?_)) ((back_spec (h := 5) (c := cu) hP12 hI10 (by omega) hU12 (by omega)).mono (fun e w13 hh => ?_))
  obtain ⟨he, v13, ms13, hP13, hm13, hk13, hv13⟩ := hh
  rw [hm10, hus, backX_again] at he hm13
  have he : e = Ending.returned (.int .i64 0) := he
  have hm13 : ms13.map Em.en = backX l m := hm13
  refine ⟨_, he, ?_⟩
  clear he
  have hI13 : PInv 30 (ms13.map Em.en) := by rw [hm13]; exact backX_inv hI
  have hml13 : ms13.length = l.length := by
    have := congrArg List.length hm13
    rw [List.length_map, backX_len hI] at this
    exact this
  have s12 := k12.size
  have k13 : Kp [] w w13 := k12.trans_new hk13 (fun z hz => by
    rcases List.mem_cons.1 hz with rfl | hz
    · exact Or.inr (by omega)
    · exact Or.inr (by have := hv10' z (ownB_mem hz); omega))
  have hv13' : ∀ b, v13.ownBlock = some b → w.heap.size ≤ b := fun b hb => by
    rcases hv13 b hb with h | h
    · exact hv10' b h
    · omega
  have hZ13 := (hZ9.kp0 k1012).kpP hP12 hk13
  obtain ⟨az3, cz3, ez3, -, hS13⟩ := hZ13.sl
  cases ez3
  repeat (first|refine cV rfl rfl rfl rfl (by first|((first|apply qmv|apply qpk|apply qei)<;>(first|exact rfl|exact dct (by first|assumption|omega)|fail))|fail) ?_)
  refine SG.call rfl rfl rfl (vs := [.pointer (some ⟨p, 0, none⟩), .slice az zs.length cz]) (by repeat' (first | exact True.intro | exact rho_of rfl | refine And.intro ?_ ?_)) ((done_spec (c := cz) hP13 hI13 (by omega) hS13 (by omega)).mono (fun e w14 hh => ?_))
  obtain ⟨he, v14, ms14, hP14, hm14, hk14, hv14⟩ := hh
  rw [hm13, hzs, backX_done] at he hm14
  have g8 : (ms13.length : Int) - (([] : List En).length : Int) = (zs.length : Int) := by simp only [List.length_nil]; omega
  rw [g8] at he
  refine ⟨_, he, ?_⟩
  clear he
  have g9 : (zs.length : Int) = (zs.length : Int) := rfl
  have hml14 : ms14.length = 0 := by
    have := congrArg List.length hm14
    rw [List.length_map] at this
    exact this
  have hlen14 := len_spec hP14
  rw [hml14] at hlen14
  have hlen14 : Ret Try.prog 17 #[.pointer (some ⟨p, 0, none⟩)] w14 (.int .i64 0) := hlen14
  repeat (first|refine cV rfl rfl rfl rfl (by first|((first|apply qmv|apply qpk|apply qei|apply qln)<;>(first|exact rfl|exact dct (by first|assumption|omega)|fail))|fail) ?_)
  refine SG.ret rfl rfl rfl (vs := [.pointer (some ⟨p, 0, none⟩)]) (by repeat' (first | exact True.intro | exact rho_of rfl | refine And.intro ?_ ?_)) hlen14 (fun w15 hk15 => ?_)
  repeat (first|apply cD|apply cE|apply cH|refine cV rfl rfl rfl rfl (by first|((first|apply qas|apply qpk|apply qei)<;>(first|exact rfl|exact dct (by first|assumption|omega)|fail))|fail) ?_)
  refine ret1 (Or.inl rfl) Try.results7 (by first | exact ResV.tmp rfl | exact ResV.agg rfl rfl (by assumption) (by first | exact dc_length _ | exact nc_length _ | exact rc_length _ _ _ | exact ec_length _ | exact dl_length _ _ _ _ | rfl) | exact ResV.cell rfl rfl (by assumption)) ?_
  exact ⟨rfl, (k13.trans_new hk14 (fun z hz => by
    rcases List.mem_cons.1 hz with rfl | hz
    · exact Or.inr (by omega)
    · exact Or.inr (by have := hv13' z (ownB_mem hz); omega))).trans hk15⟩
end Go.Proofs.Ytgbgnlboogalgaa

namespace Go.Proofs.Ytgbgnlboogalgaa
open Go.ChangeShapes Go.WideShapes Go.ChangeAt Go.RowKit
set_option linter.unusedVariables false
set_option maxRecDepth 100000 in
theorem poolDone_lifted (os : Os) (started : os.Started) (H : Type) (enc : TypeId × Value → H) :
    ReturnsInHanded {} Try.checked os 7 .any (Rows.poolDoneSpec.pre6 enc Try.prog Try.f7 Rows.poolDoneRow.domain false) (Rows.poolDoneSpec.post enc Try.prog Try.f7 false true false false) := by
  refine returnsInHanded_of_change (C := Try.checked) own started (by kernel_rfl) Try.func7
    (ChangeSpec.witness6 (enc := enc) (C := Try.checked) false ⟨#[], #[.slice none 0 0, .int .i64 0], []⟩ 8 (by kernel_rfl) (by kernel_rfl) (by kernel_rfl) (by kernel_rfl)) ?_
  intro W base args ds gs before hval0 hW hcnd _
  have hval : ∀ (j : Nat) t v, Try.f7.params[j]? = some t → args[j]? = some v → Value.okWide Try.prog W .any base t v := hval0
  have hW' : DataW.Whole enc Try.prog Try.f7.params.toList Rows.poolDoneSpec.vars false W args.toList ds gs before := hW
  obtain ⟨p, q, hA0, hV, rfl, hfz, hnd⟩ := hW
  have hA : DataW.TrodAll enc Try.prog W 0 (fun _ => true) true Try.f7.params.toList args.toList ds p := hA0
  rw [Try.params7] at hA hval
  obtain ⟨v0, v1, d0, d1, p0, p1, rfl, rfl, rfl, h0, h1⟩ := trodAll_two hA
  obtain ⟨a0, n0, c0, rfl, hn0, hc0, hs0⟩ := open_sl Try.underlying22 (by rw [cellsT]; omega) (hval 0 22 v0 rfl rfl) h0
  obtain ⟨l0, rfl, hX0⟩ := txs_of hs0
  obtain ⟨x1, rfl, hd1, _, wf1⟩ := open_int Try.underlying3 (hval 1 3 v1 rfl rfl) h1
  refine (done_walk W a0 c0 l0 hX0 x1).mono fun e W' ⟨he, hk⟩ => ⟨_, he, ?_⟩
  exact law_post laidOut (by rw [Try.params7]; exact of_decide_eq_true (by kernel_rfl)) rfl hW' rfl (by kernel_rfl) Try.underlying4 hk
theorem poolDone_holds : Rows.PoolDoneSaid :=
  OpenClaim.holds_of_wide 7 Try.f7 rfl rfl rfl rfl rfl rfl rfl ⟨rfl, rfl, rfl, rfl, rfl⟩ rfl rfl rfl rfl rfl (by kernel_rfl) Try.func7 (by kernel_rfl)
    (of_decide_eq_true (by kernel_rfl)) (by unfold Func.isWrapper; first | (rw [if_pos (by decide +kernel)]; kernel_rfl) | (rw [if_neg (by decide +kernel)]; exact ⟨rfl, rfl⟩))
    (fun os started H enc _ => poolDone_lifted os started H enc)
end Go.Proofs.Ytgbgnlboogalgaa
