/-
  HubHops answers true for every input, and leaves its arguments as they were. No conditions.
-/
import Derived.Test.YtajllbdeoopimaaQb3
namespace Go.Proofs.Ytajllbdeoopimaa
set_option linter.unusedVariables false
theorem Blk.walks {w w' : World} {b : Nat} {o : Obj} (h : Blk w b o) (hk : KeepsWalks w w') (ho : o.isWalk = true) : Blk w' b o := hk.same b o h ho
theorem IterAt.walks {κ ν : Type} {w w' : World} {r b : Nat} {enc : κ → Value} {V : ν → Value} {m left : List (κ × ν)} {cur : Option (κ × ν)} (h : IterAt w r b enc V m left cur) (hk : KeepsWalks w w') : IterAt w' r b enc V m left cur := by
  obtain ⟨es, c, seen, h1, h2, h3, h4, h5, h6⟩ := h
  exact ⟨es, c, seen, h1.walks hk rfl, h2, h3, h4.walks hk rfl, h5, h6⟩
theorem IterAt.isw {κ ν : Type} {w : World} {r b : Nat} {enc : κ → Value} {V : ν → Value} {m left : List (κ × ν)} {cur : Option (κ × ν)} (h : IterAt w r b enc V m left cur) : ∃ o, Blk w r o ∧ o.isWalk = true := by
  obtain ⟨es, c, seen, h1, h2, h3, h4, h5, h6⟩ := h
  exact ⟨_, h4, rfl⟩
/-- What an iterator keeps of its caller's. -/
structure Jk (n0 : Nat) (J : List Dg → World → Prop) : Prop where
  new : ∀ pre W W', J pre W → Kp [] W W' → J pre W'
  it : ∀ pre r W W', J pre W → n0 ≤ r → (∃ o, Blk W r o ∧ o.isWalk = true) → Kp [r] W W' → J pre W'
/-- A round. -/
def Rd (l N : Nat) (J : List Dg → World → Prop) : Prop := ∀ pre (x : Dg) W, J pre W → pre.length < N → YieldAt Fence.wide 0 Try.prog l #[dv x] W (fun e W' => e = .returned (.bool true) ∧ J (pre ++ [x]) W' ∧ KeepsWalks W W')
attribute [local irreducible] CG NG SG SY Vals Der Row Blk MapIs IterAt chkL DerR DerX
set_option maxHeartbeats 32000000 in
theorem keysP1_spec {w : World} {bm b l : Nat} {m : List (Dg × Pr)} (hc : Row w bm 0 [.map (some b)]) (hm : MapIs w b (dv (n := 8)) prv m) (J : List Dg → World → Prop) (hJ : Jk w.heap.size J) (hY : Rd l m.length J) (h0 : J [] w) :
    Calls Try.prog 76 #[.func (.yield l) #[] #[], .pointer (some ⟨bm, 0, none⟩)] w (fun e w' => (∃ v, e = .returned v) ∧ ∃ xs : List Dg, xs.Perm (m.map (·.1)) ∧ J xs w') := by
  refine enter2 Try.func76 rfl Try.ntmps76 rfl ?_
  repeat (first|apply cA|apply cB|apply cD|apply cE|apply cF|apply cG|apply cH|apply cJ|apply cN|refine cQ rfl ?_|apply cU|refine cV rfl rfl rfl rfl (by first|((first|apply qmf|apply qen|apply qmv|apply qas|apply qlc|apply qla|apply qxt|apply qnt|apply qen)<;>(first|exact rfl|assumption|exact List.not_mem_nil|apply dc_length|fail))|fail) ?_)
  refine SG.range rfl rfl rfl (by exact rho_of rfl) hm (fun r w2 hk2 hr2 hI => ?_)
  repeat (first|apply cA|apply cB|apply cD|apply cE|apply cF|apply cG|apply cH|apply cJ|apply cN|refine cQ rfl ?_|apply cU|refine cV rfl rfl rfl rfl (by first|((first|apply qmf|apply qen|apply qmv|apply qas|apply qlc|apply qla|apply qxt|apply qnt|apply qen)<;>(first|exact rfl|assumption|exact List.not_mem_nil|apply dc_length|fail))|fail) ?_)
  refine CG.loop (X := List (Dg × Pr) × List (Dg × Pr) × Option (Dg × Pr)) (fun x => [(0, .func (.yield l) #[] #[]), (5, .pointer (some ⟨r, 0, none⟩))])
    (fun x w' => IterAt w' r b (dv (n := 8)) prv m x.2.1 x.2.2 ∧ (x.1 ++ x.2.1).Perm m ∧ J (x.1.map (·.1)) w') (fun x => x.2.1.length) ([], m, none) ⟨hI, by simp, hJ.new _ _ _ h0 hk2⟩ (by (repeat' (first | exact True.intro | exact rfl | refine And.intro ?_ ?_))) ?_
  rintro ⟨done, left, cur⟩ w3 ⟨hI, hp, hj⟩
  simp only at hI hp hj
  repeat (first|apply cA|apply cB|apply cD|apply cE|apply cF|apply cG|apply cH|apply cJ|apply cN|refine cQ rfl ?_|apply cU|refine cV rfl rfl rfl rfl (by first|((first|apply qmf|apply qen|apply qmv|apply qas|apply qlc|apply qla|apply qxt|apply qnt|apply qen)<;>(first|exact rfl|assumption|exact List.not_mem_nil|apply dc_length|fail))|fail) ?_)
  refine SG.next rfl rfl rfl (by exact rho_of rfl) hI (fun h0 => ?_) (fun pre x post w4 hl4 hk4 hI4 => ?_)
  · subst h0
    rw [List.append_nil] at hp
    repeat (first|apply cA|apply cB|apply cD|apply cE|apply cF|apply cG|apply cH|apply cJ|apply cN|refine cQ rfl ?_|apply cU|refine cV rfl rfl rfl rfl (by first|((first|apply qmf|apply qen|apply qmv|apply qas|apply qlc|apply qla|apply qxt|apply qnt|apply qen)<;>(first|exact rfl|assumption|exact List.not_mem_nil|apply dc_length|fail))|fail) ?_)
    refine dA rfl (by exact rho_of rfl) rfl ?_
    repeat (first|apply cA|apply cB|apply cD|apply cE|apply cF|apply cG|apply cH|apply cJ|apply cN|refine cQ rfl ?_|apply cU|refine cV rfl rfl rfl rfl (by first|((first|apply qmf|apply qen|apply qmv|apply qas|apply qlc|apply qla|apply qxt|apply qnt|apply qen)<;>(first|exact rfl|assumption|exact List.not_mem_nil|apply dc_length|fail))|fail) ?_)
    refine ret0 (Or.inr rfl) Try.results76 ?_
    exact ⟨⟨_, rfl⟩, _, hp.map _, hj⟩
  · have hj4 : J (done.map (·.1)) w4 := hJ.it _ _ _ _ hj hr2 hI.isw hk4
    have hlen : (done.map (·.1)).length < m.length := by
      have := hp.length_eq
      rw [hl4] at this
      simp at this ⊢
      omega
    repeat (first|apply cA|apply cB|apply cD|apply cE|apply cF|apply cG|apply cH|apply cJ|apply cN|refine cQ rfl ?_|apply cU|refine cV rfl rfl rfl rfl (by first|((first|apply qmf|apply qen|apply qmv|apply qas|apply qlc|apply qla|apply qxt|apply qnt|apply qen)<;>(first|exact rfl|assumption|exact List.not_mem_nil|apply dc_length|fail))|fail) ?_)
    refine cZ rfl (by exact rho_of rfl) rfl ?_
    repeat (first|apply cA|apply cB|apply cD|apply cE|apply cF|apply cG|apply cH|apply cJ|apply cN|refine cQ rfl ?_|apply cU|refine cV rfl rfl rfl rfl (by first|((first|apply qmf|apply qen|apply qmv|apply qas|apply qlc|apply qla|apply qxt|apply qnt|apply qen)<;>(first|exact rfl|assumption|exact List.not_mem_nil|apply dc_length|fail))|fail) ?_)
    refine SG.alloc rfl rfl rfl (fun b3 w5 hk5 hb3 hB3 => ?_)
    refine SG.setAll (l := dc x.1) rfl rfl (by exact rho_of rfl) (by exact rho_of rfl) hB3 (dc_length _) rfl (dc_one _) (fun w6 hk6 hB3 => ?_)
    have k46 : Kp [] w4 w6 := hk5.trans_new hk6 (new1 (by omega))
    have hB3 : Blk w6 b3 (.cells (dc x.1).toArray 25) := hB3
    have hR3 : Row w6 b3 0 (dc x.1) := Row.all hB3 rfl
    have hI6 := hI4.kp0 k46
    refine cD ?_
    refine cE ?_
    repeat (first | refine CG.scope ?_ | refine cA ?_)
    refine CG.regionY ?_
    repeat (refine SY.val rfl rfl rfl rfl rfl (by first|((first|apply qmf|apply qen|apply qmv|apply qas|apply qlc|apply qla|apply qxt|apply qnt|apply qen)<;>(first|exact rfl|assumption|exact List.not_mem_nil|apply dc_length|fail))|fail) ?_)
    refine SY.yield rfl rfl rfl (by exact rho_of rfl) (by exact rho_of rfl) (hY _ x.1 w6 (hJ.new _ _ _ hj4 k46) hlen) (fun e w7 hh => ?_)
    obtain ⟨rfl, hj7, hk7⟩ := hh
    refine ⟨_, rfl, ?_⟩
    have hI7 := hI6.walks hk7
    clear hR3
    repeat (refine SY.val rfl rfl rfl rfl rfl (by first|((first|apply qmf|apply qen|apply qmv|apply qas|apply qlc|apply qla|apply qxt|apply qnt|apply qen)<;>(first|exact rfl|assumption|exact List.not_mem_nil|apply dc_length|fail))|fail) ?_)
    refine SY.nil ?_
    repeat (first|apply cA|apply cB|apply cD|apply cE|apply cF|apply cG|apply cH|apply cJ|apply cN|refine cQ rfl ?_|apply cU|refine cV rfl rfl rfl rfl (by first|((first|apply qmf|apply qen|apply qmv|apply qas|apply qlc|apply qla|apply qxt|apply qnt|apply qen)<;>(first|exact rfl|assumption|exact List.not_mem_nil|apply dc_length|fail))|fail) ?_)
    refine dA rfl (by exact rho_of rfl) rfl ?_
    repeat (first|apply cA|apply cB|apply cD|apply cE|apply cF|apply cG|apply cH|apply cJ|apply cN|refine cQ rfl ?_|apply cU|refine cV rfl rfl rfl rfl (by first|((first|apply qmf|apply qen|apply qmv|apply qas|apply qlc|apply qla|apply qxt|apply qnt|apply qen)<;>(first|exact rfl|assumption|exact List.not_mem_nil|apply dc_length|fail))|fail) ?_)
    refine NG.round (done ++ [x], pre ++ post, some x) (by (repeat' (first | exact True.intro | exact rfl | refine And.intro ?_ ?_))) ⟨hI7, ?_, ?_⟩ (by simp only; rw [hl4]; simp)
    · simp only
      rw [hl4] at hp
      refine List.Perm.trans ?_ hp
      rw [List.append_assoc, List.singleton_append]
      exact List.Perm.append_left _ List.perm_middle.symm
    · simp only [List.map_append, List.map_cons, List.map_nil]
      exact hj7
set_option maxHeartbeats 32000000 in
theorem keysP_spec {w : World} {b : Nat} {m : List (Dg × Pr)} (hm : MapIs w b (dv (n := 8)) prv m) : Calls Try.prog 60 #[.map (some b)] w (fun e w' => ∃ bm, e = .returned (fnv 76 [.pointer (some ⟨bm, 0, none⟩)]) ∧ Kp [] w w' ∧ w.heap.size ≤ bm ∧ Row w' bm 0 [.map (some b)]) := by
  refine enter1 Try.func60 rfl Try.ntmps60 rfl ?_
  repeat (first|apply cA|apply cB|apply cD|apply cE|apply cF|apply cG|apply cH|apply cJ|apply cN|refine cQ rfl ?_|apply cU|refine cV rfl rfl rfl rfl (by first|((first|apply qmf|apply qen|apply qmv|apply qas|apply qlc|apply qla|apply qxt|apply qnt|apply qen)<;>(first|exact rfl|assumption|exact List.not_mem_nil|apply dc_length|fail))|fail) ?_)
  refine SG.box rfl rfl rfl (by exact rho_of rfl) (fun b1 w1 hk1 hb1 hB1 => ?_)
  have hB1 : Blk w1 b1 (.cells #[.map (some b)] 85) := hB1
  repeat (first|apply cA|apply cB|apply cD|apply cE|apply cF|apply cG|apply cH|apply cJ|apply cN|refine cQ rfl ?_|apply cU|refine cV rfl rfl rfl rfl (by first|((first|apply qmf|apply qen|apply qmv|apply qas|apply qlc|apply qla|apply qxt|apply qnt|apply qen)<;>(first|exact rfl|assumption|exact List.not_mem_nil|apply dc_length|fail))|fail) ?_)
  refine cV rfl rfl rfl rfl (qmf (vs := [.pointer (some ⟨b1, 0, none⟩)]) rfl) ?_
  repeat (first|apply cA|apply cB|apply cD|apply cE|apply cF|apply cG|apply cH|apply cJ|apply cN|refine cQ rfl ?_|apply cU|refine cV rfl rfl rfl rfl (by first|((first|apply qmf|apply qen|apply qmv|apply qas|apply qlc|apply qla|apply qxt|apply qnt|apply qen)<;>(first|exact rfl|assumption|exact List.not_mem_nil|apply dc_length|fail))|fail) ?_)
  refine ret1 (Or.inl rfl) Try.results60 (by first | exact ResV.tmp rfl | exact ResV.agg rfl rfl (by assumption) (by first | exact dc_length _ | exact nc_length _ | exact rc_length _ _ _ | exact ec_length _ | exact dl_length _ _ _ _ | rfl) | exact ResV.cell rfl rfl (by assumption)) ?_
  exact ⟨b1, rfl, hk1, hb1, Row.of hB1 [] [] rfl rfl⟩
end Go.Proofs.Ytajllbdeoopimaa
open Go.RowKit
namespace Go.Proofs.Ytajllbdeoopimaa
set_option linter.unusedVariables false
section
variable {P : Program} {n : Nat} {Q : Exit → Act → World → Prop} {L : Env} {w : World}
theorem enterM {f : FuncId} {fn : Func} {c : Code} {args : List Value} {R : Ending → World → Prop} (hf : P.funcs[f]? = some fn) (hb : fn.body = some c) (hn : fn.ntmps = n) (hm : Nat.ble args.length n = true)
    (h : CG P n c (bodyPostM Fence.wide 0 P fn R) (argEnv 0 args) w) : Calls P f args.toArray w R := by
  refine callsIn_wide.1 (callsIn_of_wp_marks (n := 0) hf hb trivial (wpIn_wide.2 (h _ ⟨fun t v hv => ?_, ?_, rfl⟩)))
  · have := (look_argEnv args 0 t v hv).2
    have hlt : t < args.toArray.size := by
      have h2 := (List.getElem?_eq_some_iff.1 this).1
      simpa using h2
    simp only [Array.getElem?_append_left hlt]
    simpa using this
  · have := hm
    rw [Nat.ble_eq] at this
    simp [hn]
    omega
def lrec (a : Act) (fn : FuncId) (ps : Array Tmp) (assign body : Code) (D : Nat) (st : LoopState) (pe : Option Code) : Loop := { state := st, pending := pe, fn := fn, tmps := a.tmps, params := ps, assign := assign, body := body, defers := D }
theorem CG.rangeFunc {g : Operand} {ps : Array Tmp} {assign body : Code} {gf : FuncId} [F : Fnc P gf] {lb : Array Value} (hk : known L g = true) (hg : rho L g = .func (.func gf) #[] lb)
    (h : ∀ a, Fits n a L → ∀ (fn : FuncId) (rc : LoopState → Loop) (W1 : World), rc = (fun st => lrec a fn ps assign body w.heap.size st none) → Kp [] w W1 → W1.heap.size = w.heap.size + 2 → Blk W1 w.heap.size (.deferred (some [])) → Blk W1 (w.heap.size + 1) (.loop (rc .ready)) →
      Calls P gf (#[.func (.yield (w.heap.size + 1)) #[] #[]] ++ lb) W1 (fun e w3 => (∃ v, e = .returned v) ∧ Blk w3 (w.heap.size + 1) (.loop (rc .ready)) ∧
        Q .normal { a with defers := [{ target := .collected w.heap.size, args := #[] }] } (w3.putObj (w.heap.size + 1) (.loop (rc .exhausted))))) : CG P n (.rangeFunc g ps assign body) Q L w := by
  intro a ha
  refine (wpIn_wide (n := 0)).1 (wpIn_rangeFunc (fun fn hfn => ?_))
  have hev : a.eval g = .func (.func gf) #[] lb := by rw [ha.eval hk, hg]
  obtain ⟨W1, hW1⟩ : ∃ W1, (w.alloc (.deferred (some []))).alloc (.loop (lrec a fn ps assign body w.heap.size .ready none)) = W1 := ⟨_, rfl⟩
  have hk1 : Kp [] w W1 := by
    rw [← hW1]
    exact (Kp.push w (.deferred (some [])) rfl).trans (Kp.push (w.alloc (.deferred (some []))) (.loop (lrec a fn ps assign body w.heap.size .ready none)) rfl)
  have hs1 : W1.heap.size = w.heap.size + 2 := by rw [← hW1]; simp
  have hD1 : Blk W1 w.heap.size (.deferred (some [])) := by
    rw [← hW1]
    exact (Below.heap_alloc _ _ _ (by simp)).trans (World.alloc_heap_new w _)
  have hL1 : Blk W1 (w.heap.size + 1) (.loop (lrec a fn ps assign body w.heap.size .ready none)) := by
    rw [← hW1]
    have := World.alloc_heap_new (w.alloc (.deferred (some []))) (.loop (lrec a fn ps assign body w.heap.size .ready none))
    rwa [World.size_alloc] at this
  refine ⟨w.heap.size + 1, [{ target := .collected w.heap.size, args := #[] }], W1, { target := .fn (.func gf) lb, args := #[.func (.yield (w.heap.size + 1)) #[] #[]] }, W1, gf, #[.func (.yield (w.heap.size + 1)) #[] #[]] ++ lb, W1, ?_, ?_, fun f' hf' => trivial, ?_, fun hh => absurd hh Wf.wide.depth, ?_⟩
  · rw [← hW1]
    exact run_enterLoop_outer _ _ _ _ _
  · simp only [resolve, hev]
    simp [go_sem]
  · simp [invoke, go_sem, F.run]
  · have h0 : a.defers = [] := ha.defers
    rw [h0]
    refine callsIn_wide.2 ((h a ha fn _ W1 rfl hk1 hs1 hD1 hL1).mono (fun e w3 hh => ?_))
    obtain ⟨⟨v, rfl⟩, hL3, hQ⟩ := hh
    exact ⟨none, _, run_endLoop (P := P) hL3 (by simp [lrec]), hQ⟩
theorem NG.thenI {K : Act → World → Prop} (h : ∀ a, Fits n a L → K a w) : NG n .normal (Exit.then K Q) L w := fun a ha => h a ha
/-- A round, out of its two regions. -/
theorem round_of {l D id : Nat} {ops1 ops2 : List Oper} {i1 i2 : Nat} {fn : FuncId} {t : Nat} {a : Act} {v : Value} {R : Ending → World → Prop} {rc : LoopState → Loop} (hrc : rc = fun st => lrec a fn #[t] (.region i1 ops1.toArray false) (.block id (.region i2 ops2.toArray false)) D st none) (ha : Fits n a L) (ht : t < n) (hl : Blk w l (.loop (rc .ready)))
    (hd1 : ops1.all (fun o => !isDefer o.op) = true) (hd2 : ops2.all (fun o => !isDefer o.op) = true)
    (h : SG P n ops1 (Exit.then (fun a1 w1 => ∃ L1, Fits n a1 L1 ∧ Blk w1 l (.loop (rc .ready)) ∧ ∀ st, Kp [l] w1 st → Blk st l (.loop (rc .busy)) →
        SG P n ops2 (Exit.then (fun _ w2 => Blk w2 l (.loop (rc .busy)) ∧ ∀ w3, Kp [l] w2 w3 → Blk w3 l (.loop (rc .ready)) → R (.returned (.bool true)) w3) (fun _ _ _ => False)) ops2 L1 st) (fun _ _ _ => False)) ops1 ((t, v) :: L) w) :
    YieldAt Fence.wide 0 P l #[v] w R := by
  subst hrc
  refine ⟨fn, _, _, _, run_yield hl rfl, roundIn_of_wpIn trivial ?_⟩
  have hno : ∀ {K : Act → World → Prop}, ¬ LetsOut (Exit.then K (fun _ _ _ => False)) := fun h => by
    obtain ⟨a, w, h⟩ := h
    exact h
  have hfit : Fits n { tmps := a.tmps.setIfInBounds t v, defers := [] } ((t, v) :: L) := by
    have := ha.put t v ht
    refine ⟨fun u x hx => ?_, by simpa [Act.put] using this.size, rfl⟩
    have h1 := this.slot u x hx
    simpa [Act.put] using h1
  have hz : (Array.foldl (fun tmps x => match x with | (t, a) => Array.setIfInBounds tmps t a) a.tmps (#[t].zip #[v])) = a.tmps.setIfInBounds t v := by simp
  show (Code.region i1 ops1.toArray false).wpIn _ _ _ _ { tmps := Array.foldl (fun tmps x => match x with | (t, a) => Array.setIfInBounds tmps t a) a.tmps (#[t].zip #[v]), defers := [] } w
  rw [hz]
  refine wpIn_mono (wpIn_region_lit (wpList_in (Wf.round l) hno hd1 (h _ hfit))) (fun e a1 w1 hq => ?_)
  cases e <;> try exact False.elim hq
  obtain ⟨L1, hf, hl1, h2⟩ := hq
  refine ⟨_, run_beginRound hl1 rfl, wpIn_block (wpIn_mono (wpIn_region_lit (wpList_in (Wf.round l) hno hd2 (h2 _ (Kp.set w1 hl1 rfl rfl) (World.putObj_heap_same hl1.lt) a1 hf))) (fun e a2 w2 hq => ?_))⟩
  cases e <;> try exact False.elim hq
  obtain ⟨hl2, hR⟩ := hq
  exact ⟨_, _, run_endRound none hl2, hR _ (Kp.set w2 hl2 rfl rfl) (World.putObj_heap_same hl2.lt)⟩
structure FitsD (n : Nat) (ds : List Deferred) (a : Act) (L : Env) : Prop where
  fit : Fits n { a with defers := [] } L
  defers : a.defers = ds
theorem FitsD.mark {a : Act} {ds : List Deferred} (h : Fits n a L) : FitsD n ds { a with defers := ds } L := ⟨⟨h.slot, h.size, rfl⟩, rfl⟩
theorem FitsD.put {ds : List Deferred} {a : Act} (h : FitsD n ds a L) (d : Nat) (v : Value) (hd : d < n) : FitsD n ds (a.put (some d) v) ((d, v) :: L) := ⟨h.fit.put d v hd, h.defers⟩
def CD (P : Program) (n : Nat) (ds : List Deferred) (c : Code) (Q : Exit → Act → World → Prop) (L : Env) (w : World) : Prop := ∀ a, FitsD n ds a L → c.wp P Q a w
def SD (P : Program) (n : Nat) (ds : List Deferred) (ops : List Oper) (Q : Exit → Act → World → Prop) (rest : List Oper) (L : Env) (w : World) : Prop := ∀ a, FitsD n ds a L → wpList P ops.toArray Q rest a w
theorem CD.region {ds : List Deferred} {id : Nat} {ops : List Oper} {y : Code} (h : SD P n ds ops (Exit.then (y.wp P Q) Q) ops L w) : CD P n ds (.seq (.region id ops.toArray false) y) Q L w := fun a ha => wp_seq (wp_region_lit (h a ha))
theorem SD.nil {ds : List Deferred} {ops : List Oper} {y : Code} (h : CD P n ds y Q L w) : SD P n ds ops (Exit.then (y.wp P Q) Q) [] L w := fun a ha => wpList_nil (h a ha)
theorem SD.val {ds : List Deferred} {ops : List Oper} {rest : List Oper} {d : Nat} {op : Op} {ty : TypeId} {pos : String} {af : Array Edge} {g : Option (Nat × Bool)} {v : Value}
    (hd : Nat.blt d n = true) (hs : isSelect op = false) (hw : want ops L ⟨some d, op, ty, pos, af, g⟩ = some true) (hk : op.operands.toList.all (known L) = true) (hv : Vals P [] w (fun _ => True) L ⟨some d, op, ty, pos, af, g⟩ v)
    (hr : SD P n ds ops Q rest ((d, v) :: L) w) : SD P n ds ops Q (⟨some d, op, ty, pos, af, g⟩ :: rest) L w := by
  intro a ha
  have hlk : ∀ t ∈ lks ops ⟨some d, op, ty, pos, af, g⟩, ∀ v, look L t = some v → a.tmps[t]? = some v := fun t _ v hv => ha.fit.slot t v hv
  have hwn := wanted_of hlk hw
  refine wpList_step (fun K hK => ?_)
  rw [if_pos hwn]
  have hrun : OpRun P (rho L) ⟨some d, op, ty, pos, af, g⟩ w (fun v' w' => v' = v ∧ w' = w) := by
    unfold OpRun
    rw [hv w (Kp.refl _ _) trivial]
    exact ⟨rfl, rfl⟩
  refine (OpRun.congr hs (eval_of hlk hk) hrun).wp (fun v' w' h => ?_)
  obtain ⟨rfl, rfl⟩ := h
  exact hK _ _ (hr _ (ha.put d v' (by simpa [Nat.blt_eq] using hd)))
/-- The return past one mark. -/
theorem CD.ret1 {D : Nat} {fn : Func} {t : Nat} {v : Value} {R : Ending → World → Prop} (hrs : fn.results = #[.tmp t]) (hv : look L t = some v) (hD : Blk w D (.deferred (some []))) (hR : R (.returned v) (w.putObj D (.deferred none))) :
    CD P n [{ target := .collected D, args := #[] }] .ret (bodyPostM Fence.wide 0 P fn R) L w := by
  intro a ha
  refine wp_ret ?_
  show LeavesInM Fence.wide 0 P fn a.tmps R a.defers .returning w
  rw [ha.defers]
  refine ⟨by simp, .inl ⟨_, _, rfl, run_takeDeferred hD, ?_⟩⟩
  refine ⟨v, ?_, hR⟩
  rw [results_tmp hrs]
  have := ha.fit.slot t v hv
  simp only at this
  simp [Array.getD_eq_getD_getElem?, this]
end
end Go.Proofs.Ytajllbdeoopimaa
namespace Go.Proofs.Ytajllbdeoopimaa
set_option linter.unusedVariables false
/-- An iterator's value. -/
def Gv (g : FuncId) (lb : Array Value) (N : Nat) (S : List Dg → Prop) (w : World) : Prop := ∀ l J W, Kp [] w W → Jk W.heap.size J → Rd l N J → J [] W → Calls Try.prog g (#[.func (.yield l) #[] #[]] ++ lb) W (fun e w' => (∃ v, e = .returned v) ∧ ∃ xs, S xs ∧ J xs w')
theorem bsD' (w : World) (a0 a1 a2 a3 a4 a5 a6 a7 : UInt8) : (Instr.buildSlice 66 1 #[(0, .agg #[bv a0, bv a1, bv a2, bv a3, bv a4, bv a5, bv a6, bv a7])]).run Try.prog w = .ok (.slice (some ⟨w.heap.size, 0, none⟩) 1 1) { w with heap := w.heap.push (.cells #[bv a0, bv a1, bv a2, bv a3, bv a4, bv a5, bv a6, bv a7] 25) } := by kernel_rfl
theorem bsD (d : Dg) (w : World) : (Instr.buildSlice 66 1 #[(0, dv d)]).run Try.prog w = .ok (.slice (some ⟨w.heap.size, 0, none⟩) 1 1) { w with heap := w.heap.push (.cells (dc d).toArray 25) } := by
  obtain ⟨l, hl⟩ := d
  match l, hl with
  | [a0, a1, a2, a3, a4, a5, a6, a7], _ => exact bsD' w a0 a1 a2 a3 a4 a5 a6 a7
theorem own_cells {w : World} {base n sz z : Nat} {T : TypeId} {v : Value} {xs : List Value} (h : w.ownsRow base T sz v n xs) (hz : v.ownBlock = some z) : ∃ cs, Blk w z (.cells cs T) := by
  rcases h.2 with ⟨rfl, _⟩ | ⟨g, cap, cur, rfl, _, hgb, _⟩
  · cases hz
  · have : g = z := by simpa [Value.ownBlock] using hz
    subst this
    exact ⟨cur, hgb⟩
theorem kw_of {S : List Nat} {w w' : World} (hk : Kp S w w') (h : ∀ b ∈ S, ∃ o, Blk w b o ∧ o.isWalk = false) : KeepsWalks w w' := ⟨hk.size, fun b o hb ho => by
  refine (Blk.kp (o := o) hb hk (fun hm => ?_))
  obtain ⟨o', h1, h2⟩ := h b hm
  rw [h1.uniq hb, ho] at h2
  cases h2⟩
/-- What stands between two rounds. -/
structure Ap (w : World) (b2 D : Nat) (o : Obj) (xs : List Dg) (W : World) : Prop where
  box : ∃ v, Blk W b2 (.cells #[v] 66) ∧ W.ownsRow w.heap.size 25 8 v xs.length (flt dc xs)
  rc : Blk W (D + 1) o
  df : Blk W D (.deferred (some []))
  kp : Kp [] w W
theorem Ap.new {w : World} {b2 D : Nat} {o : Obj} {xs : List Dg} {W W' : World} (h : Ap w b2 D o xs W) (hk : Kp [] W W') : Ap w b2 D o xs W' := by
  obtain ⟨v, h1, h2⟩ := h.box
  exact ⟨⟨v, h1.kp0 hk, own_kp0 h2 hk⟩, h.rc.kp0 hk, h.df.kp0 hk, h.kp.trans hk⟩
theorem Ap.it {w : World} {b2 D n0 r : Nat} {o : Obj} {xs : List Dg} {W W' : World} (h : Ap w b2 D o xs W) (hn : w.heap.size ≤ n0) (hb : b2 < n0) (hD : D + 1 < n0) (hr : n0 ≤ r) (hw : ∃ o, Blk W r o ∧ o.isWalk = true) (hk : Kp [r] W W') : Ap w b2 D o xs W' := by
  obtain ⟨v, h1, h2⟩ := h.box
  refine ⟨⟨v, h1.kp hk (nm1 (by omega)), own_kp h2 hk (fun z hz hm => ?_)⟩, h.rc.kp hk (nm1 (by omega)), h.df.kp hk (nm1 (by omega)), h.kp.trans_new hk (new1 (by omega))⟩
  rw [List.mem_singleton] at hm
  subst hm
  obtain ⟨cs, hc⟩ := own_cells h2 hz
  obtain ⟨o', h3, h4⟩ := hw
  rw [h3.uniq hc] at h4
  cases h4
attribute [local irreducible] CG NG SG SY Vals Der Row Blk MapIs IterAt chkL DerR DerX
set_option maxHeartbeats 32000000 in
theorem appendSeq_spec {w : World} {g : FuncId} [F : Fnc Try.prog g] {lb : Array Value} {N : Nat} {S : List Dg → Prop} (hN : N ≤ 1000) (hG : Gv g lb N S w) :
    Calls Try.prog 90 #[.slice none 0 0, .func (.func g) #[] lb] w (fun e w' => ∃ v xs, e = .returned v ∧ S xs ∧ Kp [] w w' ∧ w'.ownsRow w.heap.size 25 8 v xs.length (flt dc xs)) := by
  refine enterM (args := [.slice none 0 0, .func (.func g) #[] lb]) Try.func90 rfl Try.ntmps90 rfl ?_
  repeat (first|apply cA|apply cB|apply cD|apply cE|apply cG|refine cV rfl rfl rfl rfl (by first|((first|apply qmv|apply qas|apply qlc|apply qla)<;>(first|exact rfl|assumption|exact List.not_mem_nil|apply dc_length|exact nm1 (by omega)|fail))|fail) ?_)
  refine SG.box rfl rfl rfl (by exact rho_of rfl) (fun b2 w1 hk1 hb2 hB2 => ?_)
  have hB2 : Blk w1 b2 (.cells #[.slice none 0 0] 66) := hB2
  repeat (first|apply cA|apply cB|apply cD|apply cE|apply cG|refine cV rfl rfl rfl rfl (by first|((first|apply qmv|apply qas|apply qlc|apply qla)<;>(first|exact rfl|assumption|exact List.not_mem_nil|apply dc_length|exact nm1 (by omega)|fail))|fail) ?_)
  refine CG.rangeFunc rfl (by exact rho_of rfl) (fun a ha fn rc W1 hrc hkW hsW hDW hLW => ?_)
  have hB2W := hB2.kp0 hkW
  have lb2 := hB2.lt
  have s1 := hk1.size
  refine (hG (w1.heap.size + 1) (Ap w b2 w1.heap.size (.loop (rc .ready))) W1 (hk1.trans hkW) ⟨fun _ _ _ h hk => h.new hk, fun _ _ _ _ h hr hw hk => h.it (n0 := W1.heap.size) (by omega) (by omega) (by omega) hr hw hk⟩ ?_ ⟨⟨_, hB2W, own_nil⟩, hLW, hDW, hk1.trans hkW⟩).mono (fun e w3 hh => ?_)
  · rintro pre x W hA hlen
    obtain ⟨v, h1, h2⟩ := hA.box
    refine round_of (t := 7) hrc ha (by decide) hA.rc rfl rfl ?_
    clear hrc
    refine SG.alloc rfl rfl rfl (fun b5 W2 hk2 hb5 hB5 => ?_)
    refine SG.setAll (l := dc x) rfl rfl (by exact rho_of rfl) (by exact rho_of rfl) hB5 (dc_length _) rfl (dc_one _) (fun W3 hk3 hB5 => ?_)
    have k3 : Kp [] W W3 := hk2.trans_new hk3 (new1 (by omega))
    have hA3 := hA.new k3
    refine cD (NG.thenI (fun a1 ha1 => ⟨_, ha1, hA3.rc, fun W4 hk4 hL4 => ?_⟩))
    clear ha1 a1
    obtain ⟨v, h1, h2⟩ := hA3.box
    have lW := hA.rc.lt
    have noL : ∀ {W : World} {n : Nat} {v : Value} {xs : List Value} {o : Loop}, Blk W (w1.heap.size + 1) (.loop o) → W.ownsRow w.heap.size 25 8 v n xs → ∀ z, v.ownBlock = some z → z ∉ [w1.heap.size + 1] := fun hb ho z hz hm => by
      rw [List.mem_singleton] at hm
      subst hm
      obtain ⟨cs, hc⟩ := own_cells ho hz
      cases hb.uniq hc
    have hB24 : Blk W4 b2 (.cells #[v] 66) := h1.kp hk4 (nm1 (by omega))
    have ho4 := own_kp h2 hk4 (noL hA3.rc h2)
    have hD4 := hA3.df.kp hk4 (nm1 (by omega))
    have hB54 := hB5.kp hk4 (nm1 (by omega))
    have hR2 : Row W4 b2 0 [v] := Row.of hB24 [] [] rfl rfl
    have hR5 : Row W4 b5 0 (dc x) := Row.all hB54 rfl
    have s4 := (hA3.kp.size)
    have s4' := hk4.size
    repeat (first|apply cA|apply cB|apply cD|apply cE|apply cG|refine cV rfl rfl rfl rfl (by first|((first|apply qmv|apply qas|apply qlc|apply qla)<;>(first|exact rfl|assumption|exact List.not_mem_nil|apply dc_length|exact nm1 (by omega)|fail))|fail) ?_)
    refine SG.buildSlice rfl rfl rfl rfl (bsD x) (fun b10 W5 hk5 hb10 hB10 => ?_)
    have s5 := hk5.size
    refine SG.appO (enc := dc (n := 8)) (base := w.heap.size) (xs := pre) (ys := [x]) rfl rfl rfl (by exact rho_of rfl) (by exact rho_of rfl) rfl rfl rfl rfl dc_length dc_one (own_kp0 ho4 hk5) (sl_one dc_length hB10) (by simp only [maxLen, List.length_cons, List.length_nil]; omega) (by show (pre.length + 1) * 8 ≤ _; omega) (by omega) (fun v' W6 hk6 ho6 hg6 => ?_)
    have hB25 := hB24.kp0 hk5
    have ho5 := own_kp0 ho4 hk5
    have hL5 := hL4.kp0 hk5
    have hD5 := hD4.kp0 hk5
    have nov : ∀ {z : Nat} {o : Obj}, Blk W5 z o → (∀ cs, o ≠ .cells cs 25) → z ∉ ownB v := fun hb hne hm => by
      obtain ⟨cs, hc⟩ := own_cells ho5 (ownB_mem hm)
      exact hne cs (hb.uniq hc)
    have hB26 := hB25.kp hk6 (nov hB25 (fun cs h => by cases h))
    have hL6 := hL5.kp hk6 (nov hL5 (fun cs h => by cases h))
    have hD6 := hD5.kp hk6 (nov hD5 (fun cs h => by cases h))
    obtain ⟨a', c', rfl, _, _⟩ := Sl.own dc_length ho6 rfl
    refine SG.setAll1 rfl rfl (by exact rho_of rfl) (by exact rho_of rfl) hB26 rfl rfl (fun W7 hk7 hB27 => ?_)
    have ho7 := own_kp ho6 hk7 (own_neb ho6 (by decide) hB26)
    have hL7 := hL6.kp hk7 (nm1 (by omega))
    have hD7 := hD6.kp hk7 (nm1 (by omega))
    refine cD (NG.thenI (fun a1 ha1 => ⟨hL7, fun W8 hk8 hL8 => ⟨rfl, ⟨⟨_, hB27.kp hk8 (nm1 (by omega)), own_kp ho7 hk8 (noL hL7 ho7)⟩, hL8, hD7.kp hk8 (nm1 (by omega)), ?_⟩, ?_⟩⟩))
    · have hov : ∀ z ∈ ownB v, w.heap.size ≤ z := fun z hz => own_geB ho5 z (ownB_mem hz)
      exact ((((hA3.kp.trans_new hk4 (new1 (by omega))).trans hk5).trans_new hk6 (fun z hz => Or.inr (hov z hz))).trans_new hk7 (new1 (by omega))).trans_new hk8 (new1 (by omega))
    · refine ((((kw_of k3 (by simp)).trans (kw_of hk4 (fun b hb => ?_))).trans (kw_of hk5 (by simp))).trans (kw_of hk6 (fun b hb => ?_))).trans ((kw_of hk7 (fun b hb => ?_)).trans (kw_of hk8 (fun b hb => ?_)))
      · rw [List.mem_singleton] at hb
        subst hb
        exact ⟨_, hA3.rc, rfl⟩
      · obtain ⟨cs, hc⟩ := own_cells ho5 (ownB_mem hb)
        exact ⟨_, hc, rfl⟩
      · rw [List.mem_singleton] at hb
        subst hb
        exact ⟨_, hB26, rfl⟩
      · rw [List.mem_singleton] at hb
        subst hb
        exact ⟨_, hL7, rfl⟩
  · obtain ⟨hv, xs, hS, hA⟩ := hh
    obtain ⟨v, h1, h2⟩ := hA.box
    refine ⟨hv, hA.rc, ?_⟩
    have noL : ∀ z, v.ownBlock = some z → z ∉ [w1.heap.size + 1] := fun z hz hm => by
      rw [List.mem_singleton] at hm
      subst hm
      obtain ⟨cs, hc⟩ := own_cells h2 hz
      cases hA.rc.uniq hc
    obtain ⟨w4, hw4⟩ : ∃ w4, w3.putObj (w1.heap.size + 1) (.loop (rc .exhausted)) = w4 := ⟨_, rfl⟩
    rw [hw4]
    have hk4 : Kp [w1.heap.size + 1] w3 w4 := by
      rw [← hw4]
      exact Kp.set w3 hA.rc rfl rfl
    have hB24 := h1.kp hk4 (nm1 (by omega))
    have ho4 := own_kp h2 hk4 noL
    have hD4 := hA.df.kp hk4 (nm1 (by omega))
    have k4 : Kp [] w w4 := hA.kp.trans_new hk4 (new1 (by omega))
    have hR2 : Row w4 b2 0 [v] := Row.of hB24 [] [] rfl rfl
    refine CD.region ?_ _ (FitsD.mark ha)
    refine SD.val rfl rfl rfl rfl (by first|((first|apply qmv|apply qas|apply qlc|apply qla)<;>(first|exact rfl|assumption|exact List.not_mem_nil|apply dc_length|exact nm1 (by omega)|fail))|fail) ?_
    refine SD.val rfl rfl rfl rfl (by first|((first|apply qmv|apply qas|apply qlc|apply qla)<;>(first|exact rfl|assumption|exact List.not_mem_nil|apply dc_length|exact nm1 (by omega)|fail))|fail) ?_
    refine SD.nil ?_
    refine CD.ret1 (v := v) rfl (by rfl) hD4 ?_
    have hk5 : Kp [w1.heap.size] w4 (w4.putObj w1.heap.size (.deferred none)) := Kp.set w4 hD4 rfl rfl
    refine ⟨v, xs, rfl, hS, k4.trans_new hk5 (new1 (by omega)), own_kp ho4 hk5 (fun z hz hm => ?_)⟩
    rw [List.mem_singleton] at hm
    subst hm
    obtain ⟨cs, hc⟩ := own_cells ho4 hz
    cases hD4.uniq hc
end Go.Proofs.Ytajllbdeoopimaa
namespace Go.Proofs.Ytajllbdeoopimaa
open Go.Proofs Go.Shelf
set_option linter.unusedVariables false
def sortRen : Go.Shelf.Ren := ⟨fun | 6 => 75 | 15 => 92 | 14 => 91 | 28 => 106 | 29 => 107 | 20 => 98 | 21 => 99 | 22 => 100 | 23 => 101 | 24 => 102 | 25 => 103 | 26 => 104 | 27 => 105 | 46 => 108 | 47 => 109 | 48 => 110 | 49 => 111 | 50 => 112 | 57 => 113 | n => n, fun | 22 => 66 | 24 => 25 | 25 => 129 | 3 => 3 | 39 => 154 | 0 => 0 | 53 => 166 | 55 => 80 | 4 => 4 | 46 => 159 | 45 => 158 | 50 => 163 | 5 => 5 | 9 => 9 | 66 => 168 | 70 => 172 | 76 => 174 | 77 => 40 | n => n, fun n => n⟩
theorem sortL : SlLaysF0.n6 Try.prog sortRen where
  mixed := by kernel_rfl
  f6 := ⟨"slices.SortFunc[[]baize/hash.Digest,baize/hash.Digest]", by decide, Try.func75.trans (congrArg some (by kernel_rfl))⟩
  f14 := ⟨"slices.pdqsortCmpFunc[baize/hash.Digest]", by decide, Try.func91.trans (congrArg some (by kernel_rfl))⟩
  f15 := Try.func92.trans (congrArg some (by kernel_rfl))
  f20 := ⟨"slices.insertionSortCmpFunc[baize/hash.Digest]", by decide, Try.func98.trans (congrArg some (by kernel_rfl))⟩
  f21 := ⟨"slices.heapSortCmpFunc[baize/hash.Digest]", by decide, Try.func99.trans (congrArg some (by kernel_rfl))⟩
  f22 := ⟨"slices.breakPatternsCmpFunc[baize/hash.Digest]", by decide, Try.func100.trans (congrArg some (by kernel_rfl))⟩
  f23 := ⟨"slices.choosePivotCmpFunc[baize/hash.Digest]", by decide, Try.func101.trans (congrArg some (by kernel_rfl))⟩
  f24 := ⟨"slices.reverseRangeCmpFunc[baize/hash.Digest]", by decide, Try.func102.trans (congrArg some (by kernel_rfl))⟩
  f25 := ⟨"slices.partialInsertionSortCmpFunc[baize/hash.Digest]", by decide, Try.func103.trans (congrArg some (by kernel_rfl))⟩
  f26 := ⟨"slices.partitionEqualCmpFunc[baize/hash.Digest]", by decide, Try.func104.trans (congrArg some (by kernel_rfl))⟩
  f27 := ⟨"slices.partitionCmpFunc[baize/hash.Digest]", by decide, Try.func105.trans (congrArg some (by kernel_rfl))⟩
  f28 := Try.func106.trans (congrArg some (by kernel_rfl))
  f29 := Try.func107.trans (congrArg some (by kernel_rfl))
  f46 := ⟨"slices.siftDownCmpFunc[baize/hash.Digest]", by decide, Try.func108.trans (congrArg some (by kernel_rfl))⟩
  f47 := Try.func109.trans (congrArg some (by kernel_rfl))
  f48 := Try.func110.trans (congrArg some (by kernel_rfl))
  f49 := ⟨"slices.medianAdjacentCmpFunc[baize/hash.Digest]", by decide, Try.func111.trans (congrArg some (by kernel_rfl))⟩
  f50 := ⟨"slices.medianCmpFunc[baize/hash.Digest]", by decide, Try.func112.trans (congrArg some (by kernel_rfl))⟩
  f57 := ⟨"slices.order2CmpFunc[baize/hash.Digest]", by decide, Try.func113.trans (congrArg some (by kernel_rfl))⟩
  t0 := Try.underlying0
  a0 := Try.isAgg0
  z0 := Try.sizeOf0
  v0 := Try.zeroValue0
  t3 := Try.underlying3
  a3 := Try.isAgg3
  z3 := Try.sizeOf3
  v3 := Try.zeroValue3
  t4 := Try.underlying4
  a4 := Try.isAgg4
  z4 := Try.sizeOf4
  v4 := Try.zeroValue4
  t5 := Try.underlying5
  a5 := Try.isAgg5
  z5 := Try.sizeOf5
  v5 := Try.zeroValue5
  t9 := Try.underlying9
  a9 := Try.isAgg9
  z9 := Try.sizeOf9
  v9 := Try.zeroValue9
  t22 := Try.underlying66
  a22 := Try.isAgg66
  z22 := Try.sizeOf66
  v22 := Try.zeroValue66
  t25 := Try.underlying129
  a25 := Try.isAgg129
  z25 := Try.sizeOf129
  v25 := Try.zeroValue129
  t39 := Try.underlying154
  a39 := Try.isAgg154
  z39 := Try.sizeOf154
  v39 := Try.zeroValue154
  t45 := Try.underlying158
  a45 := Try.isAgg158
  z45 := Try.sizeOf158
  v45 := Try.zeroValue158
  t46 := Try.underlying159
  a46 := Try.isAgg159
  z46 := Try.sizeOf159
  v46 := Try.zeroValue159
  t50 := Try.underlying163
  a50 := Try.isAgg163
  z50 := Try.sizeOf163
  v50 := Try.zeroValue163
  t53 := Try.underlying166
  a53 := Try.isAgg166
  z53 := Try.sizeOf166
  v53 := Try.zeroValue166
  t55 := Try.underlying80
  a55 := Try.isAgg80
  z55 := Try.sizeOf80
  v55 := Try.zeroValue80
  t66 := Try.underlying168
  a66 := Try.isAgg168
  z66 := Try.sizeOf168
  v66 := Try.zeroValue168
  t70 := Try.underlying172
  a70 := Try.isAgg172
  z70 := Try.sizeOf172
  v70 := Try.zeroValue172
  t76 := Try.underlying174
  a76 := Try.isAgg174
  z76 := Try.sizeOf174
  v76 := Try.zeroValue174
  t77 := Try.underlying40
  a77 := Try.isAgg40
  z77 := Try.sizeOf40
  v77 := Try.zeroValue40
end Go.Proofs.Ytajllbdeoopimaa
namespace Go.Proofs.Ytajllbdeoopimaa
open Go.Proofs Go.Shelf Go.Sort
set_option linter.unusedVariables false
theorem Kp.grown {w w' : World} (h : Kp [] w w') : ∃ q os', w' = grow (w.drewN q) os' := by
  refine ⟨w'.drawn - w.drawn, w'.heap.extract w.heap.size w'.heap.size, ?_⟩
  obtain ⟨h1, h2, h3, h4, h5, h6, h7⟩ := h
  obtain ⟨hp, tp, dr, os, out⟩ := w
  obtain ⟨hp', tp', dr', os', out'⟩ := w'
  simp only at h1 h2 h3 h4 h5 h7
  subst h3
  subst h4
  subst h5
  have e1 : hp' = hp ++ hp'.extract hp.size hp'.size := by
    apply Array.ext_getElem?
    intro i
    rw [Array.getElem?_append]
    by_cases hi : i < hp.size
    · rw [if_pos hi]
      exact h2 i hi (by simp)
    · rw [if_neg hi, Array.getElem?_extract]
      by_cases hi2 : i < hp'.size
      · rw [if_pos (by omega), show hp.size + (i - hp.size) = i by omega]
      · rw [if_neg (by omega), Array.getElem?_eq_none (by omega)]
  have e2 : dr' = dr + (dr' - dr) := by omega
  simp only [grow, World.drewN, World.mk.injEq, true_and, and_true]
  exact ⟨e1, e2⟩
theorem Kp.grow (w : World) (os : Array Obj) : Kp [] w (grow w os) := by
  refine ⟨by simp, fun b hb _ => ?_, rfl, rfl, rfl, fun a ha => ?_, Nat.le_refl _⟩
  · show (w.heap ++ os)[b]? = _
    rw [Array.getElem?_append, if_pos hb]
  · refine frozen_same ?_
    show (w.heap ++ os)[a.block]? = _
    rw [Array.getElem?_append, if_pos ha]
theorem Kp.ahead (w : World) (n : Nat) : Kp [] w (Go.Sort.ahead w n) := ⟨Nat.le_refl _, fun _ _ _ => rfl, rfl, rfl, rfl, fun _ _ => rfl, Nat.le_add_right _ _⟩
theorem mapBlock_set {w : World} {g : Nat} {cs : Array Value} {T : TypeId} {fz : Nat × Nat} (h : Blk w g (.cells cs T fz)) (f : Array Value → Array Value) : mapBlock w g f = { w with heap := w.heap.setIfInBounds g (.cells (f cs) T fz) } := by
  unfold mapBlock
  congr 1
  apply Array.ext_getElem?
  intro i
  rw [Array.getElem?_modify, Array.getElem?_setIfInBounds]
  by_cases e : g = i
  · subst e
    rw [if_pos rfl, if_pos rfl, if_pos h.lt]
    have h' : w.heap[g]? = some (.cells cs T fz) := h
    rw [h']
    rfl
  · rw [if_neg e, if_neg e]
section
variable {α : Type} [Inhabited α] {enc : α → List Value} {k : Nat}
theorem flt_get (hk0 : 0 < k) (hk : ∀ x, (enc x).length = k) : ∀ (l : List α) (t : Nat), t < l.length * k → (flt enc l)[t]? = some ((enc l.toArray[t / k]!)[t % k]!) := by
  intro l
  induction l with
  | nil => intro t h; simp at h
  | cons x l ih =>
    intro t h
    have e : flt enc (x :: l) = enc x ++ flt enc l := by simp [flt]
    rw [e]
    by_cases ht : t < k
    · rw [List.getElem?_append_left (by rw [hk]; exact ht), Nat.div_eq_of_lt ht, Nat.mod_eq_of_lt ht]
      have : t < (enc x).length := by rw [hk]; exact ht
      simp [this]
    · rw [List.getElem?_append_right (by rw [hk]; omega), hk]
      have h' : t - k < l.length * k := by
        simp only [List.length_cons, Nat.add_mul, Nat.one_mul] at h
        omega
      rw [ih (t - k) h']
      have d1 : t / k = (t - k) / k + 1 := by
        rw [Nat.div_eq_sub_div hk0 (by omega)]
      have d2 : t % k = (t - k) % k := by rw [Nat.mod_eq_sub_mod (by omega)]
      rw [d1, d2]
      simp
theorem flatK_toList (hk0 : 0 < k) (hk : ∀ x, (enc x).length = k) (l : List α) : (flatK enc k l.toArray).toList = flt enc l := by
  apply List.ext_getElem?
  intro t
  by_cases ht : t < l.length * k
  · rw [flt_get hk0 hk l t ht]
    have hs : t < (flatK enc k l.toArray).size := by simpa using ht
    have := get_flatK enc k l.toArray t (by simpa using ht)
    rw [getElem!_pos _ t hs] at this
    rw [Array.getElem?_toList, Array.getElem?_eq_getElem hs, this]
  · rw [List.getElem?_eq_none (by simpa using Nat.le_of_not_lt ht), List.getElem?_eq_none (by rw [flt_length hk]; omega)]
theorem sort_own {P : Program} {ρ : Ren} (L : SlLaysF0.n6 P ρ) (aE : ∀ w, (isAgg (ρ.t 24)).run P w = .ok true w) (zE : ∀ w, (Go.sizeOf (ρ.t 24)).run P w = .ok k w) (hk0 : 0 < k) (hk : ∀ x, (enc x).length = k) (hone : ∀ x, allOne (enc x) = true)
    (cf : α → α → Int) (hO : SWO (ltOf cf)) (g : Nat) (eg : ∀ args w, (callFunc g args).run P w = .ok (.enter g args) w)
    (hcmp : ∀ x y W, Calls P g #[.agg (enc x).toArray, .agg (enc y).toArray] W (fun e w' => e = .returned (.int .i64 (cf x y)) ∧ Kp [] W w'))
    {w : World} {base : Nat} {T : TypeId} {v : Value} {l : List α} (ho : w.ownsRow base T k v l.length (flt enc l)) (hsz : l.length < 4611686018427387904) :
    Calls P (ρ.f 6) #[v, .func (.func g) #[] #[]] w (fun e w' => e = .returned (.tuple #[]) ∧ Kp (ownB v) w w' ∧ ∃ l', l'.Perm l ∧ l'.Pairwise (fun x y => ltOf cf y x = false) ∧ w'.ownsRow base T k v l.length (flt enc l')) := by
  have h1 : ∀ x, ∀ v ∈ enc x, v.oneCell' = true := fun x u hu => by rw [one_iff]; exact List.all_eq_true.1 (hone x) u hu
  have ho' := ho
  obtain ⟨hlen, ⟨rfl, h0⟩ | ⟨b, cap, cur, rfl, hb, hh, hc1, hc2, hc3, hc4⟩⟩ := ho
  · have hl : l = [] := by cases l with
      | nil => rfl
      | cons x l => simp at h0
    subst hl
    exact (AnyF.slices_SortFunc_none L none 0 _ w).mono (fun e w' ⟨he, hw⟩ => ⟨he, by rw [hw]; exact Kp.refl _ _, [], List.Perm.refl _, List.Pairwise.nil, by rw [hw]; exact ho'⟩)
  have hB : Blk w b (.cells cur T (0, 0)) := hh
  have hcur : ∀ t, t < l.length * k → cur[t]? = some ((enc l.toArray[t / k]!)[t % k]!) := fun t ht => by
    rw [← flt_get hk0 hk l t ht, ← hc4, List.getElem?_take_of_lt ht, Array.getElem?_toList]
  have hcell : ∀ (d : Array α), True := fun _ => trivial
  have hH : HoldsK enc k w b 0 l.toArray := fun j hj => by
    have hj' : j < l.length * k := by simpa using hj
    refine ⟨?_, frozen_soft (o := .cells cur T (0, 0)) hh rfl⟩
    unfold World.cell?
    simp only [hh, Nat.zero_add]
    rw [get_flatK enc k l.toArray j (by simpa using hj')]
    simpa using hcur j hj'
  have hcl : CmpLays P g #[] enc k cf b 0 l.toArray.size w := fun m os dk hdk x y => (hcmp x y _).mono (fun e w' ⟨he, hw⟩ => ⟨he, hw.grown⟩)
  have hc := AnyQ.slices_SortFunc L k aE zE enc hk h1 cf hO g #[] b 0 cap l.toArray w eg hcl hH hB.lt (by simpa using hsz)
  refine (show Calls P (ρ.f 6) #[.slice (some ⟨b, 0, none⟩) l.length cap, .func (.func g) #[] #[]] w _ from hc).mono (fun e w' hh' => ?_)
  obtain ⟨he, d', n, os, ⟨hp1, hp2, hp3⟩, hs, rfl⟩ := hh'
  have hd' : d'.size = l.length := by simpa using hp1
  have hperm : d'.toList.Perm l := by
    have e1 : (d'.extract 0 l.toArray.size).toList = d'.toList := by
      have : l.toArray.size = d'.size := hp1.symm
      rw [this]
      simp
    have e2 : (l.toArray.extract 0 l.toArray.size).toList = l := by simp
    rw [e1, e2] at hp3
    exact hp3
  have hBa : Blk (Go.Sort.ahead w n) b (.cells cur T (0, 0)) := hh
  have hset : putRowK enc k (Go.Sort.ahead w n) b 0 d' = { Go.Sort.ahead w n with heap := (Go.Sort.ahead w n).heap.setIfInBounds b (.cells (putCells id 0 (flatK enc k d') cur) T (0, 0)) } := mapBlock_set hBa _
  have hk1 : Kp [b] (Go.Sort.ahead w n) (putRowK enc k (Go.Sort.ahead w n) b 0 d') := by
    rw [hset]
    exact Kp.set _ hBa rfl rfl
  refine ⟨he, ?_, d'.toList, hperm, ?_, ?_⟩
  · show Kp [b] w _
    exact ((Kp.ahead w n).any.trans hk1).trans (Kp.grow _ _).any
  · rw [List.pairwise_iff_getElem]
    intro i j hi hj hij
    have := hs i j (Nat.zero_le _) hij (by simp at hj ⊢; omega)
    rw [getElem!_pos d' i (by simpa using hi), getElem!_pos d' j (by simpa using hj)] at this
    simpa using this
  · have hlist : d'.toList.length = l.length := by simpa using hd'
    refine ⟨by rw [flt_length hk, hlist], Or.inr ⟨b, cap, putCells id 0 (flatK enc k d') cur, rfl, hb, ?_, hc1, hc2, by simp [putCells, hc3], ?_⟩⟩
    · have : Blk (putRowK enc k (Go.Sort.ahead w n) b 0 d') b (.cells (putCells id 0 (flatK enc k d') cur) T (0, 0)) := by
        rw [hset]
        show ((Go.Sort.ahead w n).heap.setIfInBounds b _)[b]? = _
        rw [Array.getElem?_setIfInBounds, if_pos rfl, if_pos hBa.lt]
      exact this.kp0 (Kp.grow _ _)
    · have hcs : l.length * k ≤ cur.size := by rw [hc3]; exact Nat.mul_le_mul_right k hc1
      rw [← flatK_toList hk0 hk d'.toList]
      apply List.ext_getElem?
      intro t
      by_cases ht : t < l.length * k
      · have htc : t < cur.size := by omega
        have htf : t < (flatK enc k d').size := by simp [hd']; exact ht
        rw [List.getElem?_take_of_lt ht, Array.getElem?_toList, Array.getElem?_toList]
        simp only [putCells, Array.getElem?_mapIdx, Array.getElem?_eq_getElem htc, Option.map_some, Nat.zero_le, true_and, Nat.zero_add, Nat.sub_zero, id_eq]
        rw [if_pos htf, getElem!_pos _ t htf, Array.toArray_toList, Array.getElem?_eq_getElem htf]
      · rw [List.getElem?_eq_none (by simp; omega), List.getElem?_eq_none (by simp [hd']; omega)]
end
end Go.Proofs.Ytajllbdeoopimaa
namespace Go.Proofs.Ytajllbdeoopimaa
open Go.Proofs Go.Shelf Go.Sort
set_option linter.unusedVariables false
section
variable {α : Type} [Inhabited α] {enc : α → List Value} {k : Nat}
end
end Go.Proofs.Ytajllbdeoopimaa
namespace Go.Proofs.Ytajllbdeoopimaa
open Go.Proofs Go.Shelf Go.Sort
set_option linter.unusedVariables false
/-- An order by a number. -/
theorem swo_key {α : Type} (cf : α → α → Int) (key : α → Nat) (h : ∀ x y, cf x y < 0 ↔ key x < key y) : SWO (ltOf cf) where
  irrefl x := decide_eq_false (by rw [h]; omega)
  trans x y z h1 h2 := by
    have h1 := of_decide_eq_true h1
    have h2 := of_decide_eq_true h2
    rw [h] at h1 h2
    exact decide_eq_true (by rw [h]; omega)
  ntrans x y z h1 h2 := by
    have h1 := of_decide_eq_false h1
    have h2 := of_decide_eq_false h2
    rw [h] at h1 h2
    exact decide_eq_false (by rw [h]; omega)
theorem ltOf_false {α : Type} {cf : α → α → Int} {key : α → Nat} (h : ∀ x y, cf x y < 0 ↔ key x < key y) {x y : α} : ltOf cf y x = false ↔ key x ≤ key y := by
  constructor
  · intro h1
    have h1 := of_decide_eq_false h1
    rw [h] at h1
    omega
  · intro h1
    exact decide_eq_false (by rw [h]; omega)
/-- Put where it belongs, behind its likes; all put so. -/
def insK {α : Type} (key : α → Nat) (x : α) : List α → List α
  | [] => [x]
  | y :: r => if key y ≤ key x then y :: insK key x r else x :: y :: r
def sortK {α : Type} (key : α → Nat) (l : List α) : List α := l.foldl (fun acc x => insK key x acc) []
theorem insK_perm {α : Type} (key : α → Nat) (x : α) : ∀ l : List α, (insK key x l).Perm (x :: l)
  | [] => List.Perm.refl _
  | y :: r => by
    unfold insK
    split
    · exact ((insK_perm key x r).cons y).trans (List.Perm.swap x y r)
    · exact List.Perm.refl _
theorem insK_sorted {α : Type} (key : α → Nat) (x : α) : ∀ l : List α, l.Pairwise (fun a b => key a ≤ key b) → (insK key x l).Pairwise (fun a b => key a ≤ key b)
  | [], _ => by simp [insK]
  | y :: r, h => by
    have h' := List.pairwise_cons.1 h
    unfold insK
    split
    · rename_i hle
      refine List.pairwise_cons.2 ⟨fun z hz => ?_, insK_sorted key x r h'.2⟩
      rcases List.mem_cons.1 ((insK_perm key x r).mem_iff.1 hz) with rfl | hz
      · exact hle
      · exact h'.1 z hz
    · rename_i hle
      refine List.pairwise_cons.2 ⟨fun z hz => ?_, h⟩
      rcases List.mem_cons.1 hz with rfl | hz
      · omega
      · have := h'.1 z hz
        omega
theorem sortK_go {α : Type} (key : α → Nat) : ∀ (l acc : List α), acc.Pairwise (fun a b => key a ≤ key b) → (l.foldl (fun acc x => insK key x acc) acc).Perm (l ++ acc) ∧ (l.foldl (fun acc x => insK key x acc) acc).Pairwise (fun a b => key a ≤ key b)
  | [], acc, h => ⟨List.Perm.refl _, h⟩
  | x :: l, acc, h => by
    obtain ⟨h1, h2⟩ := sortK_go key l (insK key x acc) (insK_sorted key x acc h)
    refine ⟨h1.trans ?_, h2⟩
    exact ((insK_perm key x acc).append_left l).trans List.perm_middle
theorem sortK_perm {α : Type} (key : α → Nat) (l : List α) : (sortK key l).Perm l := by simpa [sortK] using (sortK_go key l [] List.Pairwise.nil).1
theorem sortK_sorted {α : Type} (key : α → Nat) (l : List α) : (sortK key l).Pairwise (fun a b => key a ≤ key b) := (sortK_go key l [] List.Pairwise.nil).2
/-- There is one such order. -/
theorem sorted_uniq {α : Type} {key : α → Nat} (hk : ∀ x y, key x = key y → x = y) {l l' m : List α} (h1 : l.Perm m) (h2 : l'.Perm m) (s1 : l.Pairwise (fun a b => key a ≤ key b)) (s2 : l'.Pairwise (fun a b => key a ≤ key b)) : l = l' :=
  (h1.trans h2.symm).eq_of_pairwise (fun a b _ _ h h' => hk a b (by omega)) s1 s2
end Go.Proofs.Ytajllbdeoopimaa
namespace Go.Proofs.Ytajllbdeoopimaa
open Go.Proofs Go.Shelf Go.Sort
set_option linter.unusedVariables false
theorem bytes_back (l : List UInt8) : Lib.bytesOf (l.map (fun u => (u.toNat : Int))) = l := by
  unfold Lib.bytesOf
  induction l with
  | nil => rfl
  | cons u l ih => simp_all
theorem load_key {w : World} {b off : Nat} {x : Dg} (hx : Row w b off (dc x)) : (Extern.Bytes.loadBytes ⟨b, off, none⟩ 8 .empty).run Try.prog w = .ok ⟨x.1.toArray⟩ w := by
  have h := Lib.run_loadBytesX (P := Try.prog) w (x.1.map (fun u => (u.toNat : Int))) ⟨b, off, none⟩ .empty (fun j z hj => by
    rw [List.getElem?_map, Option.map_eq_some_iff] at hj
    obtain ⟨u, hu, rfl⟩ := hj
    have e : (⟨b, off, none⟩ : Addr).add j = ⟨b, off + j, none⟩ := by unfold Addr.add; split <;> simp_all
    rw [e]
    exact hx.cell (by unfold dc; rw [List.getElem?_map, hu]; rfl))
  rw [List.length_map, x.2, bytes_back] at h
  have e0 : ByteArray.empty.data ++ x.1.toArray = x.1.toArray := by simp [ByteArray.empty, ByteArray.emptyWithCapacity]; rfl
  rw [e0] at h
  exact h
theorem compare_run {w : World} {b off c b' off' c' : Nat} {x y : Dg} (hx : Row w b off (dc x)) (hy : Row w b' off' (dc y)) :
    (Extern.BytealgCompare.compare #[.slice (some ⟨b, off, none⟩) 8 c, .slice (some ⟨b', off', none⟩) 8 c']).run Try.prog w = .ok (.int .i64 (Lib.compareBytes x.1 y.1)) w := by
  change Sem.run Try.prog (do pure (goInt (Extern.BytealgCompare.cmp (← Extern.Bytes.loadBytes ⟨b, off, none⟩ 8 .empty) (← Extern.Bytes.loadBytes ⟨b', off', none⟩ 8 .empty)))) w = _
  simp only [Sem.run_bind, load_key hx, load_key hy, Sem.run_pure, Result.andThen]
  rw [Lib.cmp_eq]
  rfl
theorem callC (args : Array Value) (w : World) : (callFunc 77 args).run Try.prog w = ((Extern.BytealgCompare.compare args).run Try.prog w).andThen fun v w' => .ok (.value v) w' :=
  run_callFunc_extern Try.func77 (by kernel_rfl) (by kernel_rfl) (by kernel_rfl) (e := Extern.BytealgCompare.compare) (by kernel_rfl) args w
theorem vals_cmp {S : List Nat} {w0 : World} {F : World → Prop} {L : Env} {d : Option Nat} {ty : TypeId} {pos : String} {af : Array Edge} {g : Option (Nat × Bool)} {p q : Operand} {tys : Array TypeId} {b off c b' off' c' : Nat} {x y : Dg} (hp : rho L p = .slice (some ⟨b, off, none⟩) 8 c) (hq : rho L q = .slice (some ⟨b', off', none⟩) 8 c') (hx : Row w0 b off (dc x)) (hy : Row w0 b' off' (dc y)) (hb : b ∉ S) (hb' : b' ∉ S) :
    Vals Try.prog S w0 F L ⟨d, .call ⟨.value (.func 77), #[p, q], tys⟩, ty, pos, af, g⟩ (.int .i64 (Lib.compareBytes x.1 y.1)) := fun w hk _ => by
  have : (execOp (rho L) ⟨d, .call ⟨.value (.func 77), #[p, q], tys⟩, ty, pos, af, g⟩).run Try.prog w = (callFunc 77 #[rho L p, rho L q]).run Try.prog w := by
    simp [execOp, resolve, invoke, rho_func, Deferred.ofValue]
  rw [this, hp, hq, callC, compare_run (hx.kp hk hb) (hy.kp hk hb')]
  rfl
/-- A whole array, as a slice. -/
theorem qx5 {P : Program} {S : List Nat} {w0 : World} {F : World → Prop} {L : Env} {d : Option Nat} {ty : TypeId} {pos : String} {af : Array Edge} {g : Option (Nat × Bool)} {T E : TypeId} {n sz : Nat} [u : Ut P T (.array n E)] [f : Sz P E sz] {x : Operand} {b off : Nat} (hx : ro L x = some (.pointer (some ⟨b, off, none⟩))) :
    Vals P S w0 F L ⟨d, .slice T x none none none, ty, pos, af, g⟩ (.slice (some ⟨b, off, none⟩) n n) := fun w _ _ => by
  obtain ⟨i, h2, h3⟩ := f.eq
  subst h3
  simp only [execOp, rho_of hx, Option.map_none, Instr.sliceAt, Sem.run_bind, run_underlying u.eq, Result.andThen, Instr.sureAddr, Instr.sliceBounds, Sem.run_pure, sizeOf, typeInfo, run_program, h2]
  simp [Addr.add]
def dkey (d : Dg) : Nat := d.1.foldl (fun n b => n * 256 + b.toNat) 0
def cfD (x y : Dg) : Int := Lib.compareBytes x.1 y.1
def vl (l : List UInt8) : Nat := l.foldl (fun n b => n * 256 + b.toNat) 0
theorem vl_go (n : Nat) : ∀ l : List UInt8, l.foldl (fun n b => n * 256 + b.toNat) n = n * 256 ^ l.length + vl l
  | [] => by simp [vl]
  | b :: l => by
    unfold vl
    rw [List.foldl_cons, List.foldl_cons, vl_go (n * 256 + b.toNat) l, vl_go (0 * 256 + b.toNat) l]
    simp only [List.length_cons, Nat.pow_succ]
    rw [Nat.zero_mul, Nat.zero_add, Nat.add_mul, Nat.mul_assoc, Nat.mul_comm 256, Nat.add_assoc]
theorem vl_cons (b : UInt8) (l : List UInt8) : vl (b :: l) = b.toNat * 256 ^ l.length + vl l := by
  show (b :: l).foldl _ 0 = _
  rw [List.foldl_cons, vl_go]
  simp
theorem vl_lt : ∀ l : List UInt8, vl l < 256 ^ l.length
  | [] => by simp [vl]
  | b :: l => by
    rw [vl_cons, List.length_cons, Nat.pow_succ]
    have h1 := vl_lt l
    have h2 := UInt8.toNat_lt b
    have h3 : b.toNat * 256 ^ l.length + 256 ^ l.length ≤ 256 ^ l.length * 256 := by
      rw [← Nat.succ_mul, Nat.mul_comm]
      exact Nat.mul_le_mul_left _ (by omega)
    omega
theorem mul_gap {a b m x y : Nat} (h : a < b) (hx : x < m) : a * m + x < b * m + y := by
  have : a * m + m ≤ b * m := by
    rw [← Nat.succ_mul]
    exact Nat.mul_le_mul_right _ h
  omega
theorem cb_vl : ∀ x y : List UInt8, x.length = y.length → (Lib.compareBytes x y < 0 ↔ vl x < vl y) ∧ (vl x = vl y → x = y)
  | [], [], _ => by simp [Lib.compareBytes, vl]
  | [], _ :: _, h => by cases h
  | _ :: _, [], h => by cases h
  | a :: x, b :: y, h => by
    have hl : x.length = y.length := by simpa using h
    obtain ⟨h1, h2⟩ := cb_vl x y hl
    have lx := vl_lt x
    have ly := vl_lt y
    rw [vl_cons, vl_cons]
    rw [← hl] at ly ⊢
    simp only [Lib.compareBytes, UInt8.lt_iff_toNat_lt]
    by_cases h3 : a.toNat < b.toNat
    · have := mul_gap (y := vl y) h3 lx
      rw [if_pos h3]
      exact ⟨⟨fun _ => this, fun _ => by decide⟩, fun e => absurd e (by omega)⟩
    · rw [if_neg h3]
      by_cases h4 : b.toNat < a.toNat
      · have := mul_gap (y := vl x) h4 ly
        rw [if_pos h4]
        exact ⟨⟨fun h => absurd h (by decide), fun h => absurd h (by omega)⟩, fun e => absurd e (by omega)⟩
      · have e : a = b := UInt8.toNat_inj.1 (by omega)
        subst e
        rw [if_neg h4]
        refine ⟨h1.trans ⟨fun h => by omega, fun h => by omega⟩, fun h => ?_⟩
        rw [h2 (by omega)]
theorem cfD_lt (x y : Dg) : cfD x y < 0 ↔ dkey x < dkey y := (cb_vl x.1 y.1 (by rw [x.2, y.2])).1
theorem dkey_inj (x y : Dg) (h : dkey x = dkey y) : x = y := Subtype.ext ((cb_vl x.1 y.1 (by rw [x.2, y.2])).2 h)
/-- The digests in order. -/
def srt (l : List Dg) : List Dg := sortK dkey l
theorem srt_perm (l : List Dg) : (srt l).Perm l := sortK_perm _ _
theorem srt_eq {l l' : List Dg} (h : l.Perm l') : srt l = srt l' := sorted_uniq dkey_inj ((srt_perm l).trans h) (srt_perm l') (sortK_sorted _ _) (sortK_sorted _ _)
attribute [local irreducible] CG NG SG Vals Der Row Blk MapIs IterAt DerX
set_option maxHeartbeats 8000000 in
theorem bcmp_spec {w : World} {b off c b' off' c' : Nat} {x y : Dg} (hx : Row w b off (dc x)) (hy : Row w b' off' (dc y)) : Ret Try.prog 62 #[.slice (some ⟨b, off, none⟩) 8 c, .slice (some ⟨b', off', none⟩) 8 c'] w (.int .i64 (cfD x y)) := by
  refine enter2 Try.func62 rfl Try.ntmps62 rfl ?_
  repeat (first|apply cA|apply cB|apply cD|apply cE|apply cH|refine cV rfl rfl rfl rfl (by first|((first|apply qmv|apply qas|apply qx5)<;>(first|exact rfl|assumption|exact List.not_mem_nil|fail))|fail) ?_)
  refine cV rfl rfl rfl rfl (vals_cmp (by exact rho_of rfl) (by exact rho_of rfl) hx hy List.not_mem_nil List.not_mem_nil) ?_
  repeat (first|apply cA|apply cB|apply cD|apply cE|apply cH|refine cV rfl rfl rfl rfl (by first|((first|apply qmv|apply qas|apply qx5)<;>(first|exact rfl|assumption|exact List.not_mem_nil|fail))|fail) ?_)
  refine ret1 (Or.inl rfl) Try.results62 (by first | exact ResV.tmp rfl | exact ResV.agg rfl rfl (by assumption) (by first | exact dc_length _ | exact nc_length _ | exact rc_length _ _ _ | exact ec_length _ | exact dl_length _ _ _ _ | rfl) | exact ResV.cell rfl rfl (by assumption)) ?_
  exact ⟨rfl, Kp.refl _ _⟩
set_option maxHeartbeats 8000000 in
theorem lessP_spec (x y : Dg) (w : World) : Ret Try.prog 61 #[dv x, dv y] w (.int .i64 (cfD x y)) := by
  refine enter2 Try.func61 rfl Try.ntmps61 rfl ?_
  repeat (first|apply cA|apply cB|apply cD|apply cE|apply cH|refine cV rfl rfl rfl rfl (by first|((first|apply qmv|apply qas|apply qx5)<;>(first|exact rfl|assumption|exact List.not_mem_nil|fail))|fail) ?_)
  refine SG.box rfl rfl rfl (by exact rho_of rfl) (fun b2 w1 hk1 hb2 hB2 => ?_)
  refine SG.box rfl rfl rfl (by exact rho_of rfl) (fun b3 w2 hk2 hb3 hB3 => ?_)
  have hB2 : Blk w1 b2 (.cells (dc x).toArray 25) := hB2
  have hB3 : Blk w2 b3 (.cells (dc y).toArray 25) := hB3
  have q0 : Row w2 b2 0 (dc x) := Row.all (hB2.kp0 hk2) rfl
  have r0 : Row w2 b3 0 (dc y) := Row.all hB3 rfl
  repeat (first|apply cA|apply cB|apply cD|apply cE|apply cH|refine cV rfl rfl rfl rfl (by first|((first|apply qmv|apply qas|apply qx5)<;>(first|exact rfl|assumption|exact List.not_mem_nil|fail))|fail) ?_)
  refine CG.draw0 mixed [0, 1, 2, 3] [] (by kernel_rfl) ?_
  repeat (refine cY rfl rfl rfl (by first|((first|apply qmv|apply qas|apply qx5)<;>(first|exact rfl|assumption|exact List.not_mem_nil|fail))|fail) ?_)
  refine Der.call rfl rfl rfl (by repeat' (first | exact True.intro | exact rho_of rfl | refine And.intro ?_ ?_)) (fun w hk _ => bcmp_spec (x := x) (y := y) (q0.kp0 hk) (r0.kp0 hk)) ?_
  repeat (refine cY rfl rfl rfl (by first|((first|apply qmv|apply qas|apply qx5)<;>(first|exact rfl|assumption|exact List.not_mem_nil|fail))|fail) ?_)
  refine Der.fin (fun w3 hk3 _ _ => ?_)
  repeat (first|apply cA|apply cB|apply cD|apply cE|apply cH|refine cV rfl rfl rfl rfl (by first|((first|apply qmv|apply qas|apply qx5)<;>(first|exact rfl|assumption|exact List.not_mem_nil|fail))|fail) ?_)
  refine ret1 (Or.inl rfl) Try.results61 (by first | exact ResV.tmp rfl | exact ResV.agg rfl rfl (by assumption) (by first | exact dc_length _ | exact nc_length _ | exact rc_length _ _ _ | exact ec_length _ | exact dl_length _ _ _ _ | rfl) | exact ResV.cell rfl rfl (by assumption)) ?_
  exact ⟨rfl, (hk1.trans hk2).trans hk3⟩
end Go.Proofs.Ytajllbdeoopimaa
namespace Go.Proofs.Ytajllbdeoopimaa
open Go.Proofs Go.Shelf Go.Sort
set_option linter.unusedVariables false
instance : Inhabited Dg := ⟨zd⟩
attribute [local irreducible] CG NG SG Vals Der Row Blk MapIs IterAt DerX
set_option maxHeartbeats 8000000 in
theorem collect_spec {w : World} {g : FuncId} [F : Fnc Try.prog g] {lb : Array Value} {N : Nat} {S : List Dg → Prop} (hN : N ≤ 1000) (hG : Gv g lb N S w) :
    Calls Try.prog 74 #[.func (.func g) #[] lb] w (fun e w' => ∃ v xs, e = .returned v ∧ S xs ∧ Kp [] w w' ∧ w'.ownsRow w.heap.size 25 8 v xs.length (flt dc xs)) := by
  refine enter1 Try.func74 rfl Try.ntmps74 rfl ?_
  repeat (first|apply cA|apply cB|apply cD|apply cE|apply cH|refine cV rfl rfl rfl rfl (by first|((first|apply qx5|apply qmv|apply qas)<;>(first|exact rfl|assumption|apply dc_length|fail))|fail) ?_)
  refine SG.call rfl rfl rfl (vs := [.slice none 0 0, .func (.func g) #[] lb]) (by repeat' (first | exact True.intro | exact rho_of rfl | refine And.intro ?_ ?_)) ((appendSeq_spec hN hG).mono (fun e w1 hh => ?_))
  obtain ⟨v, xs, he, hS, hk1, ho⟩ := hh
  refine ⟨v, he, ?_⟩
  obtain ⟨a, c, rfl, _, _⟩ := Sl.own dc_length ho rfl
  repeat (first|apply cA|apply cB|apply cD|apply cE|apply cH|refine cV rfl rfl rfl rfl (by first|((first|apply qx5|apply qmv|apply qas)<;>(first|exact rfl|assumption|apply dc_length|fail))|fail) ?_)
  refine ret1 (Or.inl rfl) Try.results74 (by first | exact ResV.tmp rfl | exact ResV.agg rfl rfl (by assumption) (by first | exact dc_length _ | exact nc_length _ | exact rc_length _ _ _ | exact ec_length _ | exact dl_length _ _ _ _ | rfl) | exact ResV.cell rfl rfl (by assumption)) ?_
  exact ⟨_, xs, rfl, hS, hk1, ho⟩
/-- A row of digests, sorted where it lies. -/
theorem sortD_spec {w : World} {base : Nat} {v : Value} {l : List Dg} {f : FuncId} (hf : ∀ args w, (callFunc f args).run Try.prog w = .ok (.enter f args) w) (hc : ∀ x y W, Ret Try.prog f #[dv x, dv y] W (.int .i64 (cfD x y))) (ho : w.ownsRow base 25 8 v l.length (flt dc l)) (hl : l.length ≤ 1000000) : Calls Try.prog 75 #[v, .func (.func f) #[] #[]] w (fun e w' => e = .returned (.tuple #[]) ∧ Kp (ownB v) w w' ∧ w'.ownsRow base 25 8 v l.length (flt dc (srt l))) :=
  (sort_own sortL Try.isAgg25 Try.sizeOf25 (by omega) dc_length dc_one cfD (swo_key cfD dkey cfD_lt) f hf (fun x y W => hc x y W) ho (by omega)).mono (fun e w' ⟨h1, h2, l', h3, h4, h5⟩ => ⟨h1, h2, by
    have e : l' = srt l := sorted_uniq (key := dkey) dkey_inj h3 (srt_perm l) (h4.imp (fun h => (ltOf_false (cf := cfD) (key := dkey) cfD_lt).1 h)) (sortK_sorted _ l)
    rwa [e] at h5⟩)
set_option maxHeartbeats 8000000 in
theorem sortedF_spec {w : World} {g : FuncId} [F : Fnc Try.prog g] {lb : Array Value} {N : Nat} {m : List Dg} {f : FuncId} (hf : ∀ args w, (callFunc f args).run Try.prog w = .ok (.enter f args) w) (hc : ∀ x y W, Ret Try.prog f #[dv x, dv y] W (.int .i64 (cfD x y))) (hN : N ≤ 1000) (hm : m.length ≤ 1000) (hG : Gv g lb N (fun xs => xs.Perm m) w) :
    RetO Try.prog 25 dc 8 59 #[.func (.func g) #[] lb, .func (.func f) #[] #[]] w (srt m) := by
  refine enter2 Try.func59 rfl Try.ntmps59 rfl ?_
  repeat (first|apply cA|apply cB|apply cD|apply cE|apply cH|refine cV rfl rfl rfl rfl (by first|((first|apply qx5|apply qmv|apply qas)<;>(first|exact rfl|assumption|apply dc_length|fail))|fail) ?_)
  refine SG.call rfl rfl rfl (vs := [.func (.func g) #[] lb]) (by repeat' (first | exact True.intro | exact rho_of rfl | refine And.intro ?_ ?_)) ((collect_spec hN hG).mono (fun e w1 hh => ?_))
  obtain ⟨v, xs, he, hS, hk1, ho⟩ := hh
  refine ⟨v, he, ?_⟩
  have hlen : xs.length = (srt m).length := by rw [(srt_perm m).length_eq, hS.length_eq]
  have hxm := hS.length_eq
  obtain ⟨a, c, rfl, _, _⟩ := Sl.own dc_length ho rfl
  repeat (first|apply cA|apply cB|apply cD|apply cE|apply cH|refine cV rfl rfl rfl rfl (by first|((first|apply qx5|apply qmv|apply qas)<;>(first|exact rfl|assumption|apply dc_length|fail))|fail) ?_)
  refine SG.call rfl rfl rfl (vs := [.slice a xs.length c, .func (.func f) #[] #[]]) (by repeat' (first | exact True.intro | exact rho_of rfl | refine And.intro ?_ ?_)) ((sortD_spec hf hc ho (by omega)).mono (fun e w2 hh => ?_))
  obtain ⟨he, hk2, ho2⟩ := hh
  refine ⟨_, he, ?_⟩
  rw [srt_eq hS, hlen] at ho2
  rw [hlen]
  repeat (first|apply cA|apply cB|apply cD|apply cE|apply cH|refine cV rfl rfl rfl rfl (by first|((first|apply qx5|apply qmv|apply qas)<;>(first|exact rfl|assumption|apply dc_length|fail))|fail) ?_)
  refine ret1 (Or.inl rfl) Try.results59 (by first | exact ResV.tmp rfl | exact ResV.agg rfl rfl (by assumption) (by first | exact dc_length _ | exact nc_length _ | exact rc_length _ _ _ | exact ec_length _ | exact dl_length _ _ _ _ | rfl) | exact ResV.cell rfl rfl (by assumption)) ?_
  rw [hlen] at hk2
  exact ⟨_, rfl, ho2, hk1.trans_new hk2 (own_new ho2 (Nat.le_refl _))⟩
theorem gvP {w : World} {bm b : Nat} {m : List (Dg × Pr)} (hc : Row w bm 0 [.map (some b)]) (hm : MapIs w b (dv (n := 8)) prv m) : Gv 76 #[.pointer (some ⟨bm, 0, none⟩)] m.length (fun xs => xs.Perm (m.map (·.1))) w :=
  fun l J W hk hJ hR h0 => keysP1_spec (hc.kp0 hk) (hm.kp0 hk) J hJ hR h0
set_option maxHeartbeats 8000000 in
theorem sortedP_spec {w : World} {b : Nat} {m : List (Dg × Pr)} (hm : MapIs w b (dv (n := 8)) prv m) (hl : m.length ≤ 1000) : RetO Try.prog 25 dc 8 39 #[.map (some b)] w (srt (m.map (·.1))) := by
  refine enter1 Try.func39 rfl Try.ntmps39 rfl ?_
  repeat (first|apply cA|apply cB|apply cD|apply cE|apply cH|refine cV rfl rfl rfl rfl (by first|((first|apply qx5|apply qmv|apply qas)<;>(first|exact rfl|assumption|apply dc_length|fail))|fail) ?_)
  refine SG.call rfl rfl rfl (vs := [.map (some b)]) (by repeat' (first | exact True.intro | exact rho_of rfl | refine And.intro ?_ ?_)) ((keysP_spec hm).mono (fun e w1 hh => ?_))
  obtain ⟨bm, he, hk1, hb1, hR1⟩ := hh
  refine ⟨_, he, ?_⟩
  repeat (first|apply cA|apply cB|apply cD|apply cE|apply cH|refine cV rfl rfl rfl rfl (by first|((first|apply qx5|apply qmv|apply qas)<;>(first|exact rfl|assumption|apply dc_length|fail))|fail) ?_)
  refine SG.call rfl rfl rfl (vs := [.func (.func 76) #[] #[.pointer (some ⟨bm, 0, none⟩)], .func (.func 61) #[] #[]]) (by repeat' (first | exact True.intro | exact rho_of rfl | refine And.intro ?_ ?_)) ((sortedF_spec (fun args w => fn.i61.run w args) lessP_spec hl (by rw [List.length_map]; exact hl) (gvP hR1 (hm.kp0 hk1))).mono (fun e w2 hh => ?_))
  obtain ⟨v, he, ho, hk2⟩ := hh
  refine ⟨v, he, ?_⟩
  obtain ⟨a, c, rfl, _, _⟩ := Sl.own dc_length ho rfl
  repeat (first|apply cA|apply cB|apply cD|apply cE|apply cH|refine cV rfl rfl rfl rfl (by first|((first|apply qx5|apply qmv|apply qas)<;>(first|exact rfl|assumption|apply dc_length|fail))|fail) ?_)
  refine ret1 (Or.inl rfl) Try.results39 (by first | exact ResV.tmp rfl | exact ResV.agg rfl rfl (by assumption) (by first | exact dc_length _ | exact nc_length _ | exact rc_length _ _ _ | exact ec_length _ | exact dl_length _ _ _ _ | rfl) | exact ResV.cell rfl rfl (by assumption)) ?_
  exact ⟨_, rfl, own_mono ho hk1.size, hk1.trans hk2⟩
end Go.Proofs.Ytajllbdeoopimaa
namespace Go.Proofs.Ytajllbdeoopimaa
set_option linter.unusedVariables false
theorem bsP' (w : World) (a0 a1 a2 a3 a4 a5 a6 a7 b0 b1 b2 b3 b4 b5 b6 b7 c0 c1 c2 c3 c4 c5 c6 c7 : UInt8) (x y z : Int) : (Instr.buildSlice 42 1 #[(0, .agg #[bv a0, bv a1, bv a2, bv a3, bv a4, bv a5, bv a6, bv a7, bv b0, bv b1, bv b2, bv b3, bv b4, bv b5, bv b6, bv b7, bv c0, bv c1, bv c2, bv c3, bv c4, bv c5, bv c6, bv c7, .int .i64 x, .int .i64 y, .int .i64 z])]).run Try.prog w = .ok (.slice (some ⟨w.heap.size, 0, none⟩) 1 1) { w with heap := w.heap.push (.cells #[bv a0, bv a1, bv a2, bv a3, bv a4, bv a5, bv a6, bv a7, bv b0, bv b1, bv b2, bv b3, bv b4, bv b5, bv b6, bv b7, bv c0, bv c1, bv c2, bv c3, bv c4, bv c5, bv c6, bv c7, .int .i64 x, .int .i64 y, .int .i64 z] 54) } := by kernel_rfl
theorem bsP (r : Pr) (w : World) : (Instr.buildSlice 42 1 #[(0, prv r)]).run Try.prog w = .ok (.slice (some ⟨w.heap.size, 0, none⟩) 1 1) { w with heap := w.heap.push (.cells (flt prc [r]).toArray 54) } := by
  rw [flt_one]
  obtain ⟨⟨l, hl⟩, ⟨m, hm⟩, ⟨n, hn⟩, x, y, z⟩ := r
  match l, hl, m, hm, n, hn with
  | [a0, a1, a2, a3, a4, a5, a6, a7], _, [b0, b1, b2, b3, b4, b5, b6, b7], _, [c0, c1, c2, c3, c4, c5, c6, c7], _ => exact bsP' w a0 a1 a2 a3 a4 a5 a6 a7 b0 b1 b2 b3 b4 b5 b6 b7 c0 c1 c2 c3 c4 c5 c6 c7 x y z
/-- What is forwarded, in the order of the names. -/
def prsL (mp : Mp) : List Pr := (srt (mp.map (·.1))).filterMap (alook mp)
theorem fm_snoc {α β : Type} {f : α → Option β} {l : List α} {i : Nat} (h : i < l.length) {r : β} (hr : f l[i] = some r) : (l.take (i + 1)).filterMap f = (l.take i).filterMap f ++ [r] := by
  rw [List.take_succ_eq_append_getElem h, List.filterMap_append]
  simp [hr]
theorem alook_key {κ ν : Type} [DecidableEq κ] {m : List (κ × ν)} {k : κ} (h : k ∈ m.map (·.1)) : ∃ v, alook m k = some v := by
  cases e : alook m k with
  | some v => exact ⟨v, rfl⟩
  | none =>
    obtain ⟨p, h1, h2⟩ := List.mem_map.1 h
    exact absurd h2 (alook_none.1 e p h1)
theorem srt_look {ν : Type} (m : List (Dg × ν)) : ∀ k ∈ srt (m.map (·.1)), ∃ v, alook m k = some v := fun k hk => alook_key ((srt_perm _).mem_iff.1 hk)
attribute [local irreducible] CG NG SG Vals Der Row Blk MapIs IterAt DerX
set_option maxHeartbeats 16000000 in
theorem pairs_spec {w : World} {bh bs bp : Nat} {win : Int} {ms : Ms} {mp : Mp} (hH : HubAt w bh bs bp win ms mp) (hl : mp.length ≤ 1000) : RetO Try.prog 54 prc 27 18 #[.pointer (some ⟨bh, 0, none⟩)] w (prsL mp) := by
  refine enter1 Try.func18 rfl Try.ntmps18 rfl ?_
  obtain ⟨-, -, r2⟩ := hH.rows
  have hlk := srt_look mp
  have hsl : (srt (mp.map (·.1))).length = mp.length := by rw [(srt_perm _).length_eq, List.length_map]
  repeat (first|apply cA|apply cB|apply cD|apply cE|apply cF|apply cG|apply cH|apply cJ|apply cN|refine cQ rfl ?_|apply cU|refine cV rfl rfl rfl rfl (by first|((first|apply qep|apply qmv|apply qas|apply qlc|apply qla|apply qfa|apply qnc|apply qix|apply qls|apply qad|apply qln|apply qlv|apply qep)<;>(first|exact rfl|assumption|exact Ar.mk (by omega)|exact dct (by first|assumption|omega)|exact dcf (by first|assumption|omega)|exact List.not_mem_nil|apply dc_length|apply prc_length|exact lk1 (by assumption)|fail))|fail) ?_)
  refine dA rfl (by exact rho_of rfl) rfl ?_
  repeat (first|apply cA|apply cB|apply cD|apply cE|apply cF|apply cG|apply cH|apply cJ|apply cN|refine cQ rfl ?_|apply cU|refine cV rfl rfl rfl rfl (by first|((first|apply qep|apply qmv|apply qas|apply qlc|apply qla|apply qfa|apply qnc|apply qix|apply qls|apply qad|apply qln|apply qlv|apply qep)<;>(first|exact rfl|assumption|exact Ar.mk (by omega)|exact dct (by first|assumption|omega)|exact dcf (by first|assumption|omega)|exact List.not_mem_nil|apply dc_length|apply prc_length|exact lk1 (by assumption)|fail))|fail) ?_)
  refine SG.call rfl rfl rfl (vs := [.map (some bp)]) (by repeat' (first | exact True.intro | exact rho_of rfl | refine And.intro ?_ ?_)) ((sortedP_spec hH.pr hl).mono (fun e w2 hh => ?_))
  obtain ⟨v, he, ho, hk2⟩ := hh
  refine ⟨v, he, ?_⟩
  obtain ⟨a, c, rfl, _, hS⟩ := Sl.own dc_length ho rfl
  have hH2 := hH.kp0 hk2
  clear r2 ho
  have e0 : prsL mp = (srt (mp.map (·.1))).filterMap (alook mp) := rfl
  rw [e0]
  generalize srt (mp.map (·.1)) = l at hlk hsl hS
  repeat (first|apply cA|apply cB|apply cD|apply cE|apply cF|apply cG|apply cH|apply cJ|apply cN|refine cQ rfl ?_|apply cU|refine cV rfl rfl rfl rfl (by first|((first|apply qep|apply qmv|apply qas|apply qlc|apply qla|apply qfa|apply qnc|apply qix|apply qls|apply qad|apply qln|apply qlv|apply qep)<;>(first|exact rfl|assumption|exact Ar.mk (by omega)|exact dct (by first|assumption|omega)|exact dcf (by first|assumption|omega)|exact List.not_mem_nil|apply dc_length|apply prc_length|exact lk1 (by assumption)|fail))|fail) ?_)
  refine CG.loop (X := Value × Nat) (fun x => [(0, .pointer (some ⟨bh, 0, none⟩)), (3, x.1), (12, .slice a l.length c), (13, .int .i64 (l.length : Int)), (14, .int .i64 (x.2 : Int))])
    (fun x w' => x.2 ≤ l.length ∧ Kp [] w2 w' ∧ w'.ownsRow w2.heap.size 54 27 x.1 ((l.take x.2).filterMap (alook mp)).length (flt prc ((l.take x.2).filterMap (alook mp)))) (fun x => l.length - x.2) (.slice none 0 0, 0) ⟨Nat.zero_le _, Kp.refl _ _, own_nil⟩ (by (repeat' (first | exact True.intro | exact rfl | refine And.intro ?_ ?_))) ?_
  rintro ⟨v3, i⟩ w3 ⟨hi, hk3, ho⟩
  simp only at hi ho
  refine CG.to [(0, .pointer (some ⟨bh, 0, none⟩)), (3, v3), (12, .slice a l.length c), (13, .int .i64 (l.length : Int)), (14, .int .i64 (i : Int))] (by (repeat' (first | exact True.intro | exact rfl | refine And.intro ?_ ?_))) ?_
  have k3 := hk2.trans hk3
  by_cases hlt : i < l.length
  · have g1 : (i : Int) < (l.length : Int) := by omega
    obtain ⟨ba, oa, rfl, hri⟩ := (hS.kp0 hk3).at hlt
    obtain ⟨r, hr⟩ := hlk l[i] (List.getElem_mem hlt)
    have hsn := fm_snoc (f := alook mp) hlt hr
    have hfl : ((l.take i).filterMap (alook mp)).length ≤ i := Nat.le_trans (List.length_filterMap_le _ _) (by rw [List.length_take]; omega)
    have hH3 := hH2.kp0 hk3
    repeat (first|apply cA|apply cB|apply cD|apply cE|apply cF|apply cG|apply cH|apply cJ|apply cN|refine cQ rfl ?_|apply cU|refine cV rfl rfl rfl rfl (by first|((first|apply qep|apply qmv|apply qas|apply qlc|apply qla|apply qfa|apply qnc|apply qix|apply qls|apply qad|apply qln|apply qlv|apply qep)<;>(first|exact rfl|assumption|exact Ar.mk (by omega)|exact dct (by first|assumption|omega)|exact dcf (by first|assumption|omega)|exact List.not_mem_nil|apply dc_length|apply prc_length|exact lk1 (by assumption)|fail))|fail) ?_)
    refine cZ rfl (by exact rho_of rfl) rfl ?_
    repeat (first|apply cA|apply cB|apply cD|apply cE|apply cF|apply cG|apply cH|apply cJ|apply cN|refine cQ rfl ?_|apply cU|refine cV rfl rfl rfl rfl (by first|((first|apply qep|apply qmv|apply qas|apply qlc|apply qla|apply qfa|apply qnc|apply qix|apply qls|apply qad|apply qln|apply qlv|apply qep)<;>(first|exact rfl|assumption|exact Ar.mk (by omega)|exact dct (by first|assumption|omega)|exact dcf (by first|assumption|omega)|exact List.not_mem_nil|apply dc_length|apply prc_length|exact lk1 (by assumption)|fail))|fail) ?_)
    refine SG.alloc rfl rfl rfl (fun b5 w4 hk4 hb5 hB5 => ?_)
    refine SG.setAll (l := dc l[i]) rfl rfl (by exact rho_of rfl) (by exact rho_of rfl) hB5 (dc_length _) rfl (dc_one _) (fun w5 hk5 hB5 => ?_)
    have hB5 : Blk w5 b5 (.cells (dc l[i]).toArray 25) := hB5
    have k35 : Kp [] w3 w5 := hk4.trans_new hk5 (new1 (by omega))
    have hH5 := hH3.kp0 k35
    obtain ⟨-, -, r2⟩ := hH5.rows
    have hm5 := hH5.pr
    have hR5 : Row w5 b5 0 (dc l[i]) := Row.all hB5 rfl
    clear hri
    repeat (first|apply cA|apply cB|apply cD|apply cE|apply cF|apply cG|apply cH|apply cJ|apply cN|refine cQ rfl ?_|apply cU|refine cV rfl rfl rfl rfl (by first|((first|apply qep|apply qmv|apply qas|apply qlc|apply qla|apply qfa|apply qnc|apply qix|apply qls|apply qad|apply qln|apply qlv|apply qep)<;>(first|exact rfl|assumption|exact Ar.mk (by omega)|exact dct (by first|assumption|omega)|exact dcf (by first|assumption|omega)|exact List.not_mem_nil|apply dc_length|apply prc_length|exact lk1 (by assumption)|fail))|fail) ?_)
    refine CG.free mixed 8 [0, 1, 2, 3, 4, 5, 6, 7] [(7, gS w5.heap.size prc 27 [r])] (by kernel_rfl) (by intro p hp y; simp at hp; subst hp; exact gS_stab y) ?_
    repeat (refine DerX.val rfl rfl rfl rfl (by first|((first|apply qep|apply qmv|apply qas|apply qlc|apply qla|apply qfa|apply qnc|apply qix|apply qls|apply qad|apply qln|apply qlv|apply qep)<;>(first|exact rfl|assumption|exact Ar.mk (by omega)|exact dct (by first|assumption|omega)|exact dcf (by first|assumption|omega)|exact List.not_mem_nil|apply dc_length|apply prc_length|exact lk1 (by assumption)|fail))|fail) ?_)
    refine DerX.buildSlice [r] prc_length rfl rfl rfl rfl rfl rfl (Nat.le_refl _) (bsP r) (fun a7 c7 => ?_)
    refine DerX.tl (fun w6 hk6 hF => ?_)
    have hS7 : SlF w5.heap.size prc 27 w6 a7 c7 [r] := hF _ (.head _)
    have k6 := (hk3.trans k35).trans hk6
    have ho6 := own_kp0 ho (k35.trans hk6)
    clear hF r2 hm5 hR5
    repeat (first|apply cA|apply cB|apply cD|apply cE|apply cF|apply cG|apply cH|apply cJ|apply cN|refine cQ rfl ?_|apply cU|refine cV rfl rfl rfl rfl (by first|((first|apply qep|apply qmv|apply qas|apply qlc|apply qla|apply qfa|apply qnc|apply qix|apply qls|apply qad|apply qln|apply qlv|apply qep)<;>(first|exact rfl|assumption|exact Ar.mk (by omega)|exact dct (by first|assumption|omega)|exact dcf (by first|assumption|omega)|exact List.not_mem_nil|apply dc_length|apply prc_length|exact lk1 (by assumption)|fail))|fail) ?_)
    refine SG.appO (enc := prc) (xs := (l.take i).filterMap (alook mp)) (ys := [r]) (base := w2.heap.size) rfl rfl rfl (by exact rho_of rfl) (by exact rho_of rfl) rfl rfl rfl rfl prc_length prc_one ho6 hS7.sl (by simp only [maxLen, List.length_cons, List.length_nil]; omega) (by show (((l.take i).filterMap (alook mp)).length + 1) * 48 ≤ _; omega) k6.size (fun v4 w7 hk7 ho7 _ => ?_)
    repeat (first|apply cA|apply cB|apply cD|apply cE|apply cF|apply cG|apply cH|apply cJ|apply cN|refine cQ rfl ?_|apply cU|refine cV rfl rfl rfl rfl (by first|((first|apply qep|apply qmv|apply qas|apply qlc|apply qla|apply qfa|apply qnc|apply qix|apply qls|apply qad|apply qln|apply qlv|apply qep)<;>(first|exact rfl|assumption|exact Ar.mk (by omega)|exact dct (by first|assumption|omega)|exact dcf (by first|assumption|omega)|exact List.not_mem_nil|apply dc_length|apply prc_length|exact lk1 (by assumption)|fail))|fail) ?_)
    refine NG.round (v4, i + 1) (by (repeat' (first | exact True.intro | exact rfl | refine And.intro ?_ ?_))) ⟨by simp only; omega, k6.trans_new hk7 (own_new ho6 (Nat.le_refl _)), ?_⟩ (by simp only; omega)
    · simp only
      rw [hsn]
      exact ho7
  · have g1 : ¬ (i : Int) < (l.length : Int) := by omega
    rw [List.take_of_length_le (by omega)] at ho
    obtain ⟨a3, c3, rfl, _, _⟩ := Sl.own prc_length ho rfl
    repeat (first|apply cA|apply cB|apply cD|apply cE|apply cF|apply cG|apply cH|apply cJ|apply cN|refine cQ rfl ?_|apply cU|refine cV rfl rfl rfl rfl (by first|((first|apply qep|apply qmv|apply qas|apply qlc|apply qla|apply qfa|apply qnc|apply qix|apply qls|apply qad|apply qln|apply qlv|apply qep)<;>(first|exact rfl|assumption|exact Ar.mk (by omega)|exact dct (by first|assumption|omega)|exact dcf (by first|assumption|omega)|exact List.not_mem_nil|apply dc_length|apply prc_length|exact lk1 (by assumption)|fail))|fail) ?_)
    refine dA rfl (by exact rho_of rfl) rfl ?_
    repeat (first|apply cA|apply cB|apply cD|apply cE|apply cF|apply cG|apply cH|apply cJ|apply cN|refine cQ rfl ?_|apply cU|refine cV rfl rfl rfl rfl (by first|((first|apply qep|apply qmv|apply qas|apply qlc|apply qla|apply qfa|apply qnc|apply qix|apply qls|apply qad|apply qln|apply qlv|apply qep)<;>(first|exact rfl|assumption|exact Ar.mk (by omega)|exact dct (by first|assumption|omega)|exact dcf (by first|assumption|omega)|exact List.not_mem_nil|apply dc_length|apply prc_length|exact lk1 (by assumption)|fail))|fail) ?_)
    refine ret1 (Or.inl rfl) Try.results18 (by first | exact ResV.tmp rfl | exact ResV.agg rfl rfl (by assumption) (by first | exact dc_length _ | exact nc_length _ | exact rc_length _ _ _ | exact ec_length _ | exact dl_length _ _ _ _ | rfl) | exact ResV.cell rfl rfl (by assumption)) ?_
    exact ⟨_, rfl, own_mono ho hk2.size, hk2.trans hk3⟩
end Go.Proofs.Ytajllbdeoopimaa
namespace Go.Proofs.Ytajllbdeoopimaa
set_option linter.unusedVariables false
def dg1 (b : UInt8) : Dg := ⟨[b, 0, 0, 0, 0, 0, 0, 0], rfl⟩
theorem dg1_inj {a b : UInt8} (h : dg1 a = dg1 b) : a = b := by
  have := congrArg Subtype.val h
  simpa [dg1] using this
def twoP (nm : Dg) (e : Int) : Pu := ⟨nm, 0, e, e, []⟩
theorem checkZ_ok {p : Pu} (h : p.Ok) : checkZ p = 0 := by
  unfold checkZ
  rw [if_neg (fun k => k ⟨h.n, h.a, h.b⟩), if_neg (by have := h.l; omega), if_pos h.c, if_pos h.s]
theorem twoP_ok (nm : Dg) {e : Int} (h0 : 0 ≤ e) (h1 : e ≤ 1000000) : (twoP nm e).Ok :=
  ⟨by simp [twoP, farP], by simp only [twoP, amtP]; omega, by simp only [twoP, amtP]; omega, by simp [twoP], by simp only [twoP, amtP, sumP, sumH, List.foldl_nil]; omega, rfl⟩
theorem oneP_ok {p : Pu} {h : Hd} (e : p.held = [h]) (hh : h.Ok) (hn : farP p.num) (ha : amtP p.h0) (hb : amtP p.h1) (hs : amtP (p.h0 + p.h1 + h.amt)) : p.Ok :=
  ⟨hn, ha, hb, by simp [e], by simpa [sumP, sumH, e] using hs, by rw [e]; simp [chkL, hh]⟩
theorem open0 (k nm : Dg) {e s : Int} (h0 : 0 ≤ e) (h1 : e ≤ 1000000) (hs : s = 0 ∨ s = 1) : openE [] k (twoP nm e) s = 0 := by
  unfold openE
  rw [checkZ_ok (twoP_ok nm h0 h1), if_neg (fun h => h rfl), if_neg (by omega), if_neg (fun h => h rfl), if_neg (by simp [alook, namedB]), if_neg (by simp)]
theorem open1 {k1 k2 nm : Dg} {x : Sh} {e s : Int} (h0 : 0 ≤ e) (h1 : e ≤ 1000000) (hs : s = 0 ∨ s = 1) (hk : k1 ≠ k2) (hn : x.p.name ≠ nm) : openE [(k1, x)] k2 (twoP nm e) s = 0 := by
  unfold openE
  rw [checkZ_ok (twoP_ok nm h0 h1), if_neg (fun h => h rfl), if_neg (by omega), if_neg (fun h => h rfl), if_neg (by simp [alook, namedB, hk]; exact hn), if_neg (by simp)]
theorem aput1 {ν : Type} {k1 k2 : Dg} {x y : ν} (hk : k1 ≠ k2) : aput [(k1, x)] k2 y = [(k1, x), (k2, y)] := by simp [aput, hk]
theorem aput2 {ν : Type} {k1 k2 : Dg} {x y x' y' : ν} (hk : k1 ≠ k2) : aput (aput [(k1, x), (k2, y)] k1 x') k2 y' = [(k1, x'), (k2, y')] := by simp [aput, hk]
theorem aput2' {ν : Type} {k1 k2 : Dg} {x y x' y' : ν} (hk : k1 ≠ k2) : aput (aput [(k1, x), (k2, y)] k2 y') k1 x' = [(k1, x'), (k2, y')] := by simp [aput, hk]
theorem alook2 {ν : Type} {k1 k2 : Dg} {x y : ν} (hk : k1 ≠ k2) : alook [(k1, x), (k2, y)] k1 = some x ∧ alook [(k1, x), (k2, y)] k2 = some y := by simp [alook, hk]
/-- Two purses, one forwarded through. -/
structure Hop (k1 k2 n : Dg) (x y : Sh) (e now til amt : Int) : Prop where
  ne : k1 ≠ k2
  xp : ∃ nm, x.p = twoP nm e
  yp : ∃ nm, y.p = twoP nm e
  xs : x.side = 0 ∨ x.side = 1
  ys : y.side = 0 ∨ y.side = 1
  e0 : 0 ≤ e
  e1 : e ≤ 1000000
  n0 : 0 ≤ now
  n1 : now ≤ 1000000
  t0 : now + 5 ≤ til
  t1 : til ≤ 1000000
  a0 : 0 < amt
  a1 : amt ≤ e
theorem hold_two {x : Sh} {nm : Dg} {e : Int} (hx : x.p = twoP nm e) (h0 : 0 ≤ e) (h1 : e ≤ 1000000) {h : Hd} (hh : h.Ok) (ha : h.amt ≤ e) : chgZ x.p (holdE x.p h) = 0 := by
  have h2 : holdE x.p h = 0 := by
    unfold holdE
    have hv : haveP x.p h.side = e := by
      rw [hx]
      unfold haveP twoP
      split <;> rfl
    have := hh.s0
    have := hh.s1
    have := hh.a0
    have := hh.a1
    have := hh.t0
    have := hh.t1
    rw [if_neg (by omega), if_neg (by simp only [someP, farP, amtP]; omega), if_neg (by rw [hx]; simp [placeN, twoP]), if_neg (by rw [hx]; simp [twoP]), hv, if_neg (by omega)]
  unfold chgZ preZ
  rw [hx, checkZ_ok (twoP_ok nm h0 h1), ← hx, h2]
  simp [hx, twoP]
theorem Hop.hx {k1 k2 n : Dg} {x y : Sh} {e now til amt : Int} (h : Hop k1 k2 n x y e now til amt) : (nearH x n amt til).Ok := by
  obtain ⟨_, _, _, _, _, _, _, _, _, _, _, _, _⟩ := h
  constructor <;> simp only [nearH] <;> omega
theorem Hop.hy {k1 k2 n : Dg} {x y : Sh} {e now til amt : Int} (h : Hop k1 k2 n x y e now til amt) : (farH 5 y n amt til).Ok := by
  obtain ⟨_, _, _, _, _, _, _, _, _, _, _, _, _⟩ := h
  constructor <;> simp only [farH] <;> omega
theorem Hop.fwd {k1 k2 n : Dg} {x y : Sh} {e now til amt : Int} (h : Hop k1 k2 n x y e now til amt) : fwdE 5 [(k1, x), (k2, y)] [] now k1 k2 n amt til = 0 := by
  obtain ⟨nx, hx⟩ := h.xp
  obtain ⟨ny, hy⟩ := h.yp
  obtain ⟨l1, l2⟩ := alook2 (x := x) (y := y) h.ne
  have h1 := hold_two hx h.e0 h.e1 h.hx h.a1
  have h2 := hold_two hy h.e0 h.e1 h.hy h.a1
  unfold fwdE
  have := h.n0
  have := h.n1
  have := h.t0
  rw [if_neg (by omega), l1, l2]
  simp only
  rw [if_neg h.ne, if_neg (by simp [alook]), if_neg (by omega), h1, if_neg (fun h => h rfl), h2]
/-- What is held of one, parted again. -/
theorem free_one {p : Pu} {nm n : Dg} {e amt s til over : Int} (hp : p = nextP (holdQ (twoP nm e) ⟨n, amt, s, til⟩)) (hs : s = 0 ∨ s = 1) (h0 : 0 ≤ e) (h1 : e ≤ 1000000) (hh : (⟨n, amt, s, til⟩ : Hd).Ok) (ha : amt ≤ e) (o0 : 0 ≤ over) (o1 : over ≤ amt) :
    chgZ p (freeE p n over) = 0 ∧ (nextP (freeQ p n over)).held = [] ∧ haveP (nextP (freeQ p n over)) s = e - over ∧ haveP (nextP (freeQ p n over)) (1 - s) = e + over := by
  have a0 : 0 < amt := hh.a0
  have ok : p.Ok := by
    rcases hs with rfl | rfl
    · refine oneP_ok (h := ⟨n, amt, 0, til⟩) (by rw [hp]; rfl) hh (by rw [hp]; simp [nextP, holdQ, addP, twoP, farP]) (by rw [hp]; simp only [nextP, holdQ, addP, twoP, amtP, if_pos]; omega) (by rw [hp]; simp only [nextP, holdQ, addP, twoP, amtP, if_pos]; omega) (by rw [hp]; simp only [nextP, holdQ, addP, twoP, amtP, if_pos]; omega)
    · refine oneP_ok (h := ⟨n, amt, 1, til⟩) (by rw [hp]; rfl) hh (by rw [hp]; simp [nextP, holdQ, addP, twoP, farP]) (by rw [hp]; simp [nextP, holdQ, addP, twoP, amtP]; omega) (by rw [hp]; simp [nextP, holdQ, addP, twoP, amtP]; omega) (by rw [hp]; simp [nextP, holdQ, addP, twoP, amtP]; omega)
  have hat : atP p n = some ⟨n, amt, s, til⟩ := by
    rw [hp]
    rcases hs with rfl | rfl <;> simp [atP, placeN, nextP, holdQ, addP, twoP]
  have hpl : placeN p.held n = 0 := by
    rw [hp]
    rcases hs with rfl | rfl <;> simp [placeN, nextP, holdQ, addP, twoP]
  refine ⟨?_, ?_, ?_, ?_⟩
  · unfold chgZ preZ freeE
    rw [checkZ_ok ok, hat]
    have : p.num = 1 := by rw [hp]; rcases hs with rfl | rfl <;> rfl
    simp [this]
    omega
  all_goals
    unfold freeQ
    rw [hat]
    simp only [hpl]
    rw [hp]
    rcases hs with rfl | rfl <;> simp [partP, nextP, holdQ, addP, twoP, cutL, haveP]
  all_goals omega
end Go.Proofs.Ytajllbdeoopimaa
namespace Go.Proofs.Ytajllbdeoopimaa
set_option linter.unusedVariables false
theorem owf (z : Int) (h1 : -9223372036854775808 ≤ z) (h2 : z ≤ 9223372036854775807) : (Lit.int .i64 z).wf = true := by
  simp [Lit.wf, IntKind.min, IntKind.max, IntKind.signed, IntKind.bits]
  omega
theorem owb (u : UInt8) : (Lit.int .u8 (u.toNat : Int)).wf = true := by
  have := u.toNat_lt
  simp [Lit.wf, IntKind.min, IntKind.max, IntKind.signed, IntKind.bits]
  omega
theorem osz : ∃ m, Try.prog.types.size = m + 3 := ⟨Try.prog.types.size - 3, by kernel_rfl⟩
theorem oc5 : Try.prog.cellsOf 5 = 1 := by kernel_rfl
theorem oc3 : Try.prog.cellsOf 3 = 1 := by kernel_rfl
theorem ocD : Try.prog.cellsOf 25 = 8 := by kernel_rfl
theorem ocE : Try.prog.cellsOf 24 = 8 := by kernel_rfl
def fitZ (z : Int) : Prop := -9223372036854775808 ≤ z ∧ z ≤ 9223372036854775807
structure Hd.Fit (h : Hd) : Prop where
  a : fitZ h.amt
  b : fitZ h.side
  c : fitZ h.til
structure Pr.Fit (h : Pr) : Prop where
  a : fitZ h.amt
  b : fitZ h.inn
  c : fitZ h.out
theorem hc_inj {a b : Hd} (h : hc a = hc b) : a = b := by
  obtain ⟨n, x, y, z⟩ := a
  obtain ⟨n', x', y', z'⟩ := b
  have h' := List.append_inj h (by simp [dc_length])
  have h1 := dc_inj h'.1
  have h4 := h'.2
  simp at h4
  obtain ⟨rfl, rfl, rfl⟩ := h4
  simp only at h1
  subst h1
  rfl
instance : DecidableEq Hd := fun a b => decidable_of_iff (a.name = b.name ∧ a.amt = b.amt ∧ a.side = b.side ∧ a.til = b.til) ⟨fun ⟨h1, h2, h3, h4⟩ => by cases a; cases b; simp only at h1 h2 h3 h4; rw [h1, h2, h3, h4], fun h => by rw [h]; exact ⟨rfl, rfl, rfl, rfl⟩⟩
instance : DecidableEq Pr := fun a b => decidable_of_iff (a.name = b.name ∧ a.frm = b.frm ∧ a.to = b.to ∧ a.amt = b.amt ∧ a.inn = b.inn ∧ a.out = b.out) ⟨fun ⟨h1, h2, h3, h4, h5, h6⟩ => by cases a; cases b; simp only at h1 h2 h3 h4 h5 h6; rw [h1, h2, h3, h4, h5, h6], fun h => by rw [h]; exact ⟨rfl, rfl, rfl, rfl, rfl, rfl⟩⟩
/-- Two numbers in an array. -/
abbrev Z2 := Int × Int
def zc2 (p : Z2) : List Value := [.int .i64 p.1, .int .i64 p.2]
def zv2 (p : Z2) : Value := .agg (zc2 p).toArray
theorem zc2_length (p : Z2) : (zc2 p).length = 2 := rfl
theorem zc2_inj {a b : Z2} (h : zc2 a = zc2 b) : a = b := by
  obtain ⟨x, y⟩ := a
  obtain ⟨x', y'⟩ := b
  simp [zc2] at h
  obtain ⟨rfl, rfl⟩ := h
  rfl
def Z2.Fit (p : Z2) : Prop := fitZ p.1 ∧ fitZ p.2
theorem oc_hd : Try.prog.cellsOf 56 = 11 := by kernel_rfl
set_option maxHeartbeats 4000000 in
theorem lits_hd' (n : Nat) (a0 a1 a2 a3 a4 a5 a6 a7 : UInt8) (x y z : Int) (hx : (Lit.int .i64 x).wf = true) (hy : (Lit.int .i64 y).wf = true) (hz : (Lit.int .i64 z).wf = true) :
    (Try.prog.keyLits (n + 3 + 1) 56 [bv a0, bv a1, bv a2, bv a3, bv a4, bv a5, bv a6, bv a7, .int .i64 x, .int .i64 y, .int .i64 z]).isSome = true := by
  simp [Program.keyLits, Try.underlying56, Try.underlying25, Try.underlying5, Try.underlying3, oc5, oc3, ocD, ocE, oc_hd, owb, hx, hy, hz, List.range, List.range.loop]
theorem lits_hd (o : Hd) (h : Hd.Fit o) : (Try.prog.keyLits (Try.prog.types.size + 1) 56 (hc o)).isSome = true := by
  obtain ⟨m, hm⟩ := osz
  rw [hm]
  obtain ⟨⟨l0, hl0⟩, x, y, z⟩ := o
  obtain ⟨h1, h2, h3⟩ := h
  match l0, hl0 with
  | [a0, a1, a2, a3, a4, a5, a6, a7], _ => exact lits_hd' m a0 a1 a2 a3 a4 a5 a6 a7 x y z (owf x h1.1 h1.2) (owf y h2.1 h2.2) (owf z h3.1 h3.2)
theorem formed_hd (o : Hd) : (Value.agg (hc o).toArray).formed Try.prog 56 = true := by
  simp [Value.formed, Try.underlying56, oc_hd, hc_length]
theorem equal_hd {a b : Hd} (ha : Hd.Fit a) (hb : Hd.Fit b) (w : World) : (Op.equal 56 (.agg (hc a).toArray) (.agg (hc b).toArray)).run Try.prog w = .ok (decide (a = b)) w := by
  obtain ⟨r, h1, h2⟩ := equal_agg (P := Try.prog) (T := 56) 3 (by omega) (by kernel_rfl) (by kernel_rfl) (by rw [Try.underlying56]) (by kernel_rfl) (formed_hd a) (formed_hd b) (lits_hd a ha) (lits_hd b hb) w
  have h3 : r = decide (a = b) := by
    by_cases e : a = b
    · rw [decide_eq_true e]
      exact h2.2 (by rw [e])
    · rw [decide_eq_false e]
      cases r with
      | false => rfl
      | true => exact absurd (hc_inj (h2.1 rfl)) e
  rw [h3] at h1
  exact h1
theorem oc_z2 : Try.prog.cellsOf 31 = 2 := by kernel_rfl
set_option maxHeartbeats 4000000 in
theorem lits_z2' (n : Nat) (x y : Int) (hx : (Lit.int .i64 x).wf = true) (hy : (Lit.int .i64 y).wf = true) :
    (Try.prog.keyLits (n + 3 + 1) 31 [.int .i64 x, .int .i64 y]).isSome = true := by
  simp [Program.keyLits, Try.underlying31, Try.underlying5, Try.underlying3, oc5, oc3, ocD, ocE, oc_z2, owb, hx, hy, List.range, List.range.loop]
theorem lits_z2 (o : Z2) (h : Z2.Fit o) : (Try.prog.keyLits (Try.prog.types.size + 1) 31 (zc2 o)).isSome = true := by
  obtain ⟨m, hm⟩ := osz
  rw [hm]
  obtain ⟨x, y⟩ := o
  obtain ⟨h1, h2⟩ := h
  exact lits_z2' m x y (owf x h1.1 h1.2) (owf y h2.1 h2.2)
theorem formed_z2 (o : Z2) : (Value.agg (zc2 o).toArray).formed Try.prog 31 = true := by
  simp [Value.formed, Try.underlying31, oc_z2, zc2_length]
theorem equal_z2 {a b : Z2} (ha : Z2.Fit a) (hb : Z2.Fit b) (w : World) : (Op.equal 31 (.agg (zc2 a).toArray) (.agg (zc2 b).toArray)).run Try.prog w = .ok (decide (a = b)) w := by
  obtain ⟨r, h1, h2⟩ := equal_agg (P := Try.prog) (T := 31) 3 (by omega) (by kernel_rfl) (by kernel_rfl) (by rw [Try.underlying31]) (by kernel_rfl) (formed_z2 a) (formed_z2 b) (lits_z2 a ha) (lits_z2 b hb) w
  have h3 : r = decide (a = b) := by
    by_cases e : a = b
    · rw [decide_eq_true e]
      exact h2.2 (by rw [e])
    · rw [decide_eq_false e]
      cases r with
      | false => rfl
      | true => exact absurd (zc2_inj (h2.1 rfl)) e
  rw [h3] at h1
  exact h1
theorem guard_z2 : Try.prog.eqGuardType Try.prog.depth 31 = false := by kernel_rfl
theorem qe_z2 {S : List Nat} {w0 : World} {F : World → Prop} {L : Env} {d : Option Nat} {ty : TypeId} {pos : String} {af : Array Edge} {g : Option (Nat × Bool)} {x y : Operand} {T' : TypeId} {a b : Z2} {c : Bool} (hx : ro L x = some (.agg (zc2 a).toArray)) (hy : ro L y = some (.agg (zc2 b).toArray)) (ha : Z2.Fit a) (hb : Z2.Fit b) (h : Dc (a = b) c) :
    Vals Try.prog S w0 F L ⟨d, .binOp .eql 31 x y T', ty, pos, af, g⟩ (.bool c) := fun w _ _ => by
  rw [← h.eq]
  have hx' : rho L x = .agg (zc2 a).toArray := rho_of hx
  have hy' : rho L y = .agg (zc2 b).toArray := rho_of hy
  have he : ∀ w, (Op.equal 31 (.agg (zc2 a).toArray) (.agg (zc2 b).toArray)).run Try.prog w = .ok (decide (a = b)) w := fun w => equal_z2 ha hb w
  simp [execOp, hx', hy', eqGuard, binOp, he, guard_z2]
theorem qn_z2 {S : List Nat} {w0 : World} {F : World → Prop} {L : Env} {d : Option Nat} {ty : TypeId} {pos : String} {af : Array Edge} {g : Option (Nat × Bool)} {x y : Operand} {T' : TypeId} {a b : Z2} {c : Bool} (hx : ro L x = some (.agg (zc2 a).toArray)) (hy : ro L y = some (.agg (zc2 b).toArray)) (ha : Z2.Fit a) (hb : Z2.Fit b) (h : Dc (a = b) c) :
    Vals Try.prog S w0 F L ⟨d, .binOp .neq 31 x y T', ty, pos, af, g⟩ (.bool (!c)) := fun w _ _ => by
  rw [← h.eq]
  have hx' : rho L x = .agg (zc2 a).toArray := rho_of hx
  have hy' : rho L y = .agg (zc2 b).toArray := rho_of hy
  have he : ∀ w, (Op.equal 31 (.agg (zc2 a).toArray) (.agg (zc2 b).toArray)).run Try.prog w = .ok (decide (a = b)) w := fun w => equal_z2 ha hb w
  simp [execOp, hx', hy', eqGuard, binOp, he, guard_z2]
end Go.Proofs.Ytajllbdeoopimaa
namespace Go.Proofs.Ytajllbdeoopimaa
set_option linter.unusedVariables false
theorem bd1 (b : UInt8) (w : World) : (Instr.build 25 #[(0, bv b)]).run Try.prog w = .ok (dv (dg1 b)) w := by kernel_rfl
theorem bz2 (x y : Int) (w : World) : (Instr.build 31 #[(0, .int .i64 x), (1, .int .i64 y)]).run Try.prog w = .ok (zv2 (x, y)) w := by kernel_rfl
theorem btw (b : UInt8) (e : Int) (w : World) : (Instr.build 34 #[(0, dv (dg1 b)), (2, zv2 (e, e))]).run Try.prog w = .ok (pv (twoP (dg1 b) e) (.slice none 0 0)) w := by kernel_rfl
theorem Hop.set {k1 k2 n : Dg} {x y : Sh} {e now til amt : Int} (h : Hop k1 k2 n x y e now til amt) {t over : Int} (t0 : 0 ≤ t) (t1 : t + 5 ≤ til) (o0 : 0 ≤ over) (o1 : over ≤ amt) (a1 a2 : Option Addr) (c1 c2 : Nat) :
    setE [(k1, ⟨fwdX x n amt til, a1, c1, x.side⟩), (k2, ⟨fwdY 5 y n amt til, a2, c2, y.side⟩)] [(n, fwdR 5 k1 k2 n amt til)] t n over = 0 := by
  obtain ⟨nx, hx⟩ := h.xp
  obtain ⟨ny, hy⟩ := h.yp
  obtain ⟨l1, l2⟩ := alook2 (x := (⟨fwdX x n amt til, a1, c1, x.side⟩ : Sh)) (y := ⟨fwdY 5 y n amt til, a2, c2, y.side⟩) h.ne
  have f1 := free_one (p := fwdX x n amt til) (nm := nx) (n := n) (e := e) (amt := amt) (s := 1 - x.side) (til := til) (over := over) (by unfold fwdX nearH; rw [hx]) (by have := h.xs; omega) h.e0 h.e1 h.hx h.a1 o0 o1
  have f2 := free_one (p := fwdY 5 y n amt til) (nm := ny) (n := n) (e := e) (amt := amt) (s := y.side) (til := til - 5) (over := over) (by unfold fwdY farH; rw [hy]) h.ys h.e0 h.e1 h.hy h.a1 o0 o1
  have := h.t1
  unfold setE
  rw [if_neg (by omega)]
  simp only [alook, if_pos, fwdR]
  rw [if_neg (by omega), if_neg (by omega), if_neg h.ne]
  simp only
  rw [f1.1, f2.1]
  rfl
theorem filt1 {n : Dg} {r : Pr} : ([(n, r)] : Mp).filter (fun q => decide (q.1 ≠ n)) = [] := by simp
attribute [local irreducible] CG NG SG Vals Der Row Blk MapIs IterAt DerX
set_option maxHeartbeats 8000000 in
theorem two_spec (b : UInt8) (e : Int) (w : World) : Ret Try.prog 13 #[bv b, .int .i64 e] w (pv (twoP (dg1 b) e) (.slice none 0 0)) := by
  refine enter2 Try.func13 rfl Try.ntmps13 rfl ?_
  refine cA ?_
  refine cB ?_
  refine SG.alloc rfl rfl rfl (fun b4 w1 hk1 hb4 hB4 => ?_)
  repeat (first|apply cA|apply cB|apply cD|apply cE|apply cF|apply cH|refine cV rfl rfl rfl rfl (by first|((first|apply qe_z2|apply qep|apply qmv|apply qas|apply qlc|apply qla|apply qfa|apply qic|apply qpk|apply qni|apply qln|apply qxt|apply qep)<;>(first|exact rfl|assumption|exact Ar.mk (by omega)|exact dct (by first|assumption|omega)|exact List.not_mem_nil|apply dc_length|apply hc_length|apply pc_length|apply prc_length|exact nm2 (by omega) (by omega)|exact nm1 (by omega)|exact dcu|fail))|fail) ?_)
  refine cV rfl rfl rfl rfl (vals_build rfl (bd1 b)) ?_
  repeat (first|apply cA|apply cB|apply cD|apply cE|apply cF|apply cH|refine cV rfl rfl rfl rfl (by first|((first|apply qe_z2|apply qep|apply qmv|apply qas|apply qlc|apply qla|apply qfa|apply qic|apply qpk|apply qni|apply qln|apply qxt|apply qep)<;>(first|exact rfl|assumption|exact Ar.mk (by omega)|exact dct (by first|assumption|omega)|exact List.not_mem_nil|apply dc_length|apply hc_length|apply pc_length|apply prc_length|exact nm2 (by omega) (by omega)|exact nm1 (by omega)|exact dcu|fail))|fail) ?_)
  refine cV rfl rfl rfl rfl (vals_build rfl (bz2 e e)) ?_
  refine cV rfl rfl rfl rfl (vals_build rfl (btw b e)) ?_
  refine SG.setAll (l := pc (twoP (dg1 b) e) (.slice none 0 0)) rfl rfl (by exact rho_of rfl) (by exact rho_of rfl) hB4 (pc_length _ _) rfl (pc_one _ _ _ _) (fun w2 hk2 hB5 => ?_)
  have hr : Row w2 b4 0 (pc (twoP (dg1 b) e) (.slice none 0 0)) := Row.all hB5 rfl
  repeat (first|apply cA|apply cB|apply cD|apply cE|apply cF|apply cH|refine cV rfl rfl rfl rfl (by first|((first|apply qe_z2|apply qep|apply qmv|apply qas|apply qlc|apply qla|apply qfa|apply qic|apply qpk|apply qni|apply qln|apply qxt|apply qep)<;>(first|exact rfl|assumption|exact Ar.mk (by omega)|exact dct (by first|assumption|omega)|exact List.not_mem_nil|apply dc_length|apply hc_length|apply pc_length|apply prc_length|exact nm2 (by omega) (by omega)|exact nm1 (by omega)|exact dcu|fail))|fail) ?_)
  refine ret1 (Or.inl rfl) Try.results13 (ResV.agg rfl rfl hr (pc_length _ _)) ?_
  exact ⟨rfl, hk1.trans_new hk2 (new1 (by omega))⟩
/-- A hub in a place that only its own calls write. -/
def HubR (bh bs bp : Nat) (win : Int) (ms : Ms) (mp : Mp) (w : World) : Prop := HubAt w bh bs bp win ms mp
theorem hubR_stab {bh bs bp : Nat} {win : Int} {ms : Ms} {mp : Mp} : Stab [] (HubR bh bs bp win ms mp) := fun _ _ hk h => HubAt.kp0 h hk
theorem kp2a {bs bp : Nat} {w w' : World} (h : Kp [bs] w w') : Kp [bs, bp] w w' := h.mono (fun v hv => by rw [List.mem_singleton] at hv; subst hv; simp)
theorem prc_rowsO {w : World} {b off : Nat} {r : Pr} (h : Row w b off (prc r)) : Row w b (off + 25) [.int .i64 r.inn] ∧ Row w b (off + 26) [.int .i64 r.out] := by
  have l1 : (dc r.name).length = 8 := dc_length _
  have l2 : (dc r.frm).length = 8 := dc_length _
  have l3 : (dc r.to).length = 8 := dc_length _
  have h1 := h.part (dc r.name ++ (dc r.frm ++ (dc r.to ++ [.int .i64 r.amt]))) [.int .i64 r.inn] [.int .i64 r.out] (by simp [prc])
  have h2 := h.part (dc r.name ++ (dc r.frm ++ (dc r.to ++ [.int .i64 r.amt, .int .i64 r.inn]))) [.int .i64 r.out] [] (by simp [prc])
  have e1 : (dc r.name ++ (dc r.frm ++ (dc r.to ++ [Value.int .i64 r.amt]))).length = 25 := by simp [l1, l2, l3]
  have e2 : (dc r.name ++ (dc r.frm ++ (dc r.to ++ [Value.int .i64 r.amt, Value.int .i64 r.inn]))).length = 26 := by simp [l1, l2, l3]
  rw [e1] at h1
  rw [e2] at h2
  exact ⟨h1, h2⟩
theorem pc_have {w : World} {b : Nat} {T : TypeId} {p : Pu} {s : Value} (h : Blk w b (.cells (pc p s).toArray T)) : Row w b 9 (zc2 (p.h0, p.h1)) := by
  have l8 : (dc p.name).length = 8 := dc_length _
  exact Row.of h (dc p.name ++ [.int .i64 p.num]) [s] (by simp [pc, zc2]) (by simp [l8])
set_option maxHeartbeats 32000000 in
theorem known_spec (w : World) : Ret Try.prog 19 #[] w (.bool true) := by
  refine enter0 Try.func19 rfl Try.ntmps19 ?_
  repeat (first|apply cA|apply cB|apply cD|apply cE|apply cF|apply cH|refine cV rfl rfl rfl rfl (by first|((first|apply qe_z2|apply qep|apply qmv|apply qas|apply qlc|apply qla|apply qfa|apply qic|apply qpk|apply qni|apply qln|apply qxt|apply qep)<;>(first|exact rfl|assumption|exact Ar.mk (by omega)|exact dct (by first|assumption|omega)|exact List.not_mem_nil|apply dc_length|apply hc_length|apply pc_length|apply prc_length|exact nm2 (by omega) (by omega)|exact nm1 (by omega)|exact dcu|fail))|fail) ?_)
  refine SG.call rfl rfl rfl (vs := [.int .i64 5]) (by repeat' (first | exact True.intro | exact rho_of rfl | refine And.intro ?_ ?_)) ((new_spec 5 (by decide) (by decide) w).mono (fun e w1 hh => ?_))
  obtain ⟨bh, bs, bp, he, hk1, gh, gs, gp, hH1⟩ := hh
  refine ⟨_, he, ?_⟩
  clear he
  have ls := hH1.sh.lt
  have lp := hH1.pr.lt
  repeat (first|apply cA|apply cB|apply cD|apply cE|apply cF|apply cH|refine cV rfl rfl rfl rfl (by first|((first|apply qe_z2|apply qep|apply qmv|apply qas|apply qlc|apply qla|apply qfa|apply qic|apply qpk|apply qni|apply qln|apply qxt|apply qep)<;>(first|exact rfl|assumption|exact Ar.mk (by omega)|exact dct (by first|assumption|omega)|exact List.not_mem_nil|apply dc_length|apply hc_length|apply pc_length|apply prc_length|exact nm2 (by omega) (by omega)|exact nm1 (by omega)|exact dcu|fail))|fail) ?_)
  refine cV rfl rfl rfl rfl (vals_build rfl (bd1 1)) ?_
  refine cV rfl rfl rfl rfl (vals_build rfl (bd1 2)) ?_
  refine cV rfl rfl rfl rfl (vals_build rfl (bd1 9)) ?_
  refine SG.alloc rfl rfl rfl (fun b3 w2 hk2 hb3 hB3 => ?_)
  refine SG.alloc rfl rfl rfl (fun b4 w3 hk3 hb4 hB4 => ?_)
  refine SG.alloc rfl rfl rfl (fun b5 w4 hk4 hb5 hB5 => ?_)
  have l3 := hB3.lt
  have l4 := hB4.lt
  have l5 := hB5.lt
  have s1 := hk1.size
  have s2 := hk2.size
  have s3 := hk3.size
  have s4 := hk4.size
  refine SG.setAll (l := dc (dg1 1)) rfl rfl (by exact rho_of rfl) (by exact rho_of rfl) ((hB3.kp0 hk3).kp0 hk4) (dc_length _) rfl (dc_one _) (fun w5 hk5 hB3 => ?_)
  refine SG.setAll (l := dc (dg1 2)) rfl rfl (by exact rho_of rfl) (by exact rho_of rfl) ((hB4.kp0 hk4).kp hk5 (nm1 (by omega))) (dc_length _) rfl (dc_one _) (fun w6 hk6 hB4 => ?_)
  refine SG.setAll (l := dc (dg1 9)) rfl rfl (by exact rho_of rfl) (by exact rho_of rfl) ((hB5.kp hk5 (nm1 (by omega))).kp hk6 (nm1 (by omega))) (dc_length _) rfl (dc_one _) (fun w7 hk7 hB5 => ?_)
  have k17 : Kp [] w1 w7 := ((((hk2.trans hk3).trans hk4).trans_new hk5 (new1 (by omega))).trans_new hk6 (new1 (by omega))).trans_new hk7 (new1 (by omega))
  have hH7 := hH1.kp0 k17
  have q3 : Row w7 b3 0 (dc (dg1 1)) := Row.all ((hB3.kp hk6 (nm1 (by omega))).kp hk7 (nm1 (by omega))) rfl
  have q4 : Row w7 b4 0 (dc (dg1 2)) := Row.all (hB4.kp hk7 (nm1 (by omega))) rfl
  have q5 : Row w7 b5 0 (dc (dg1 9)) := Row.all hB5 rfl
  clear hB3 hB4 hB5
  have s5 := k17.size
  repeat (first|apply cA|apply cB|apply cD|apply cE|apply cF|apply cH|refine cV rfl rfl rfl rfl (by first|((first|apply qe_z2|apply qep|apply qmv|apply qas|apply qlc|apply qla|apply qfa|apply qic|apply qpk|apply qni|apply qln|apply qxt|apply qep)<;>(first|exact rfl|assumption|exact Ar.mk (by omega)|exact dct (by first|assumption|omega)|exact List.not_mem_nil|apply dc_length|apply hc_length|apply pc_length|apply prc_length|exact nm2 (by omega) (by omega)|exact nm1 (by omega)|exact dcu|fail))|fail) ?_)
  refine CG.draw mixed [0, 1, 2, 3, 4, 5, 6, 7, 8, 9, 10, 11, 12, 13, 14, 15, 16, 17, 18, 19, 20, 21, 22, 23, 24, 25, 26, 27] [10, 17, 25] [] [bs, bp] (HubR bh bs bp 5 [] []) (by kernel_rfl) (by intro y hy; simp at hy; omega) (by simp) hH7 hubR_stab (Or.inl rfl) ?_
  repeat (first | refine cY rfl rfl rfl (by first|((first|apply qe_z2|apply qep|apply qmv|apply qas|apply qlc|apply qla|apply qfa|apply qic|apply qpk|apply qni|apply qln|apply qxt|apply qep)<;>(first|exact rfl|assumption|exact Ar.mk (by omega)|exact dct (by first|assumption|omega)|exact List.not_mem_nil|apply dc_length|apply hc_length|apply pc_length|apply prc_length|exact nm2 (by omega) (by omega)|exact nm1 (by omega)|exact dcu|fail))|fail) ?_ | refine Der.skip rfl rfl ?_)
  refine Der.call rfl rfl rfl (vs := [bv 1, .int .i64 10]) (by repeat' (first | exact True.intro | exact rho_of rfl | refine And.intro ?_ ?_)) (fun w hk _ => two_spec 1 10 w) ?_
  repeat (first | refine cY rfl rfl rfl (by first|((first|apply qe_z2|apply qep|apply qmv|apply qas|apply qlc|apply qla|apply qfa|apply qic|apply qpk|apply qni|apply qln|apply qxt|apply qep)<;>(first|exact rfl|assumption|exact Ar.mk (by omega)|exact dct (by first|assumption|omega)|exact List.not_mem_nil|apply dc_length|apply hc_length|apply pc_length|apply prc_length|exact nm2 (by omega) (by omega)|exact nm1 (by omega)|exact dcu|fail))|fail) ?_ | refine Der.skip rfl rfl ?_)
  refine Der.callGR (X := Option Addr × Nat) (vs := [.pointer (some ⟨bh, 0, none⟩), dv (dg1 1), pv (twoP (dg1 1) 10) (.slice none 0 0), .int .i64 0]) (fun _ => .int .i64 0) (fun _ _ => True) (fun q => HubR bh bs bp 5 [(dg1 1, ⟨twoP (dg1 1) 10, q.1, q.2, 0⟩)] []) rfl rfl rfl rfl (by repeat' (first | exact True.intro | exact rho_of rfl | refine And.intro ?_ ?_)) (fun _ _ _ _ _ => trivial) (fun _ => hubR_stab) (fun _ _ _ h => h) (fun W _ _ hR => (open_spec (a := none) (c := 0) hR (dg1 1) (twoP (dg1 1) 10) 0 Sl.nil (by decide) (by decide)).mono (fun e w' hh => ?_)) (fun q => ?_)
  · have h0 := open0 (dg1 1) (dg1 1) (e := 10) (s := 0) (by decide) (by decide) (Or.inl rfl)
    rw [h0] at hh
    obtain ⟨he, ⟨h1, _⟩ | ⟨_, hk, a', c', hH⟩⟩ := hh
    · exact absurd rfl h1
    · exact ⟨(a', c'), he, trivial, hH, kp2a hk⟩
  repeat (first | refine cY rfl rfl rfl (by first|((first|apply qe_z2|apply qep|apply qmv|apply qas|apply qlc|apply qla|apply qfa|apply qic|apply qpk|apply qni|apply qln|apply qxt|apply qep)<;>(first|exact rfl|assumption|exact Ar.mk (by omega)|exact dct (by first|assumption|omega)|exact List.not_mem_nil|apply dc_length|apply hc_length|apply pc_length|apply prc_length|exact nm2 (by omega) (by omega)|exact nm1 (by omega)|exact dcu|fail))|fail) ?_ | refine Der.skip rfl rfl ?_)
  refine Der.call rfl rfl rfl (vs := [bv 2, .int .i64 10]) (by repeat' (first | exact True.intro | exact rho_of rfl | refine And.intro ?_ ?_)) (fun w hk _ => two_spec 2 10 w) ?_
  repeat (first | refine cY rfl rfl rfl (by first|((first|apply qe_z2|apply qep|apply qmv|apply qas|apply qlc|apply qla|apply qfa|apply qic|apply qpk|apply qni|apply qln|apply qxt|apply qep)<;>(first|exact rfl|assumption|exact Ar.mk (by omega)|exact dct (by first|assumption|omega)|exact List.not_mem_nil|apply dc_length|apply hc_length|apply pc_length|apply prc_length|exact nm2 (by omega) (by omega)|exact nm1 (by omega)|exact dcu|fail))|fail) ?_ | refine Der.skip rfl rfl ?_)
  have hne : dg1 1 ≠ dg1 2 := fun h => by cases dg1_inj h
  refine Der.callGR (X := Option Addr × Nat) (vs := [.pointer (some ⟨bh, 0, none⟩), dv (dg1 2), pv (twoP (dg1 2) 10) (.slice none 0 0), .int .i64 0]) (fun _ => .int .i64 0) (fun _ _ => True) (fun p => HubR bh bs bp 5 [(dg1 1, ⟨twoP (dg1 1) 10, q.1, q.2, 0⟩), (dg1 2, ⟨twoP (dg1 2) 10, p.1, p.2, 0⟩)] []) rfl rfl rfl rfl (by repeat' (first | exact True.intro | exact rho_of rfl | refine And.intro ?_ ?_)) (fun _ _ _ _ _ => trivial) (fun _ => hubR_stab) (fun _ _ _ h => h) (fun W _ _ hR => (open_spec (a := none) (c := 0) hR (dg1 2) (twoP (dg1 2) 10) 0 Sl.nil (by decide) (by decide)).mono (fun e w' hh => ?_)) (fun p => ?_)
  · have h0 := open1 (k1 := dg1 1) (k2 := dg1 2) (nm := dg1 2) (x := ⟨twoP (dg1 1) 10, q.1, q.2, 0⟩) (e := 10) (s := 0) (by decide) (by decide) (Or.inl rfl) hne hne
    rw [h0] at hh
    obtain ⟨he, ⟨h1, _⟩ | ⟨_, hk, a', c', hH⟩⟩ := hh
    · exact absurd rfl h1
    · rw [aput1 hne] at hH
      exact ⟨(a', c'), he, trivial, hH, kp2a hk⟩
  repeat (first | refine cY rfl rfl rfl (by first|((first|apply qe_z2|apply qep|apply qmv|apply qas|apply qlc|apply qla|apply qfa|apply qic|apply qpk|apply qni|apply qln|apply qxt|apply qep)<;>(first|exact rfl|assumption|exact Ar.mk (by omega)|exact dct (by first|assumption|omega)|exact List.not_mem_nil|apply dc_length|apply hc_length|apply pc_length|apply prc_length|exact nm2 (by omega) (by omega)|exact nm1 (by omega)|exact dcu|fail))|fail) ?_ | refine Der.skip rfl rfl ?_)
  have hop : Hop (dg1 1) (dg1 2) (dg1 9) (⟨twoP (dg1 1) 10, q.1, q.2, 0⟩ : Sh) (⟨twoP (dg1 2) 10, p.1, p.2, 0⟩ : Sh) 10 0 20 4 := ⟨hne, ⟨_, rfl⟩, ⟨_, rfl⟩, Or.inl rfl, Or.inl rfl, by decide, by decide, by decide, by decide, by decide, by decide, by decide, by decide⟩
  refine Der.callGR (X := (Option Addr × Nat) × (Option Addr × Nat)) (vs := [.pointer (some ⟨bh, 0, none⟩), .int .i64 0, dv (dg1 1), dv (dg1 2), dv (dg1 9), .int .i64 4, .int .i64 20]) (fun _ => .int .i64 0) (fun _ _ => True) (fun u => HubR bh bs bp 5 [(dg1 1, ⟨fwdX ⟨twoP (dg1 1) 10, q.1, q.2, 0⟩ (dg1 9) 4 20, u.1.1, u.1.2, 0⟩), (dg1 2, ⟨fwdY 5 ⟨twoP (dg1 2) 10, p.1, p.2, 0⟩ (dg1 9) 4 20, u.2.1, u.2.2, 0⟩)] [(dg1 9, fwdR 5 (dg1 1) (dg1 2) (dg1 9) 4 20)]) rfl rfl rfl rfl (by repeat' (first | exact True.intro | exact rho_of rfl | refine And.intro ?_ ?_)) (fun _ _ _ _ _ => trivial) (fun _ => hubR_stab) (fun _ _ _ h => h) (fun W _ _ hR => (forward_spec hR 0 (dg1 1) (dg1 2) (dg1 9) 4 20 (by decide) (fun x hx => by simp at hx; rcases hx with rfl | rfl <;> exact ⟨(by decide : (0 : Int) ≤ 0), (by decide : (0 : Int) ≤ 1)⟩) (by decide)).mono (fun e w' hh => ?_)) (fun u => ?_)
  · rw [hop.fwd] at hh
    obtain ⟨he, ⟨h1, _⟩ | ⟨_, hk, x, y, a1, c1, a2, c2, hx, hy, hH⟩⟩ := hh
    · exact absurd rfl h1
    · rw [(alook2 hne).1] at hx
      rw [(alook2 hne).2] at hy
      cases hx
      cases hy
      rw [aput2 hne] at hH
      exact ⟨((a1, c1), (a2, c2)), he, trivial, hH, hk⟩
  repeat (first | refine cY rfl rfl rfl (by first|((first|apply qe_z2|apply qep|apply qmv|apply qas|apply qlc|apply qla|apply qfa|apply qic|apply qpk|apply qni|apply qln|apply qxt|apply qep)<;>(first|exact rfl|assumption|exact Ar.mk (by omega)|exact dct (by first|assumption|omega)|exact List.not_mem_nil|apply dc_length|apply hc_length|apply pc_length|apply prc_length|exact nm2 (by omega) (by omega)|exact nm1 (by omega)|exact dcu|fail))|fail) ?_ | refine Der.skip rfl rfl ?_)
  refine Der.fin (fun w8 hk8 _ hH8 => ?_)
  have q3 := q3.kp hk8 (nm2 (by omega) (by omega))
  have q4 := q4.kp hk8 (nm2 (by omega) (by omega))
  have q5 := q5.kp hk8 (nm2 (by omega) (by omega))
  have k8 : Kp [] w w8 := (hk1.trans k17).trans_new hk8 (new2 (by omega) (by omega))
  repeat (first|apply cA|apply cB|apply cD|apply cE|apply cF|apply cH|refine cV rfl rfl rfl rfl (by first|((first|apply qe_z2|apply qep|apply qmv|apply qas|apply qlc|apply qla|apply qfa|apply qic|apply qpk|apply qni|apply qln|apply qxt|apply qep)<;>(first|exact rfl|assumption|exact Ar.mk (by omega)|exact dct (by first|assumption|omega)|exact List.not_mem_nil|apply dc_length|apply hc_length|apply pc_length|apply prc_length|exact nm2 (by omega) (by omega)|exact nm1 (by omega)|exact dcu|fail))|fail) ?_)
  refine dA rfl (by exact rho_of rfl) rfl ?_
  repeat (first|apply cA|apply cB|apply cD|apply cE|apply cF|apply cH|refine cV rfl rfl rfl rfl (by first|((first|apply qe_z2|apply qep|apply qmv|apply qas|apply qlc|apply qla|apply qfa|apply qic|apply qpk|apply qni|apply qln|apply qxt|apply qep)<;>(first|exact rfl|assumption|exact Ar.mk (by omega)|exact dct (by first|assumption|omega)|exact List.not_mem_nil|apply dc_length|apply hc_length|apply pc_length|apply prc_length|exact nm2 (by omega) (by omega)|exact nm1 (by omega)|exact dcu|fail))|fail) ?_)
  refine SG.call rfl rfl rfl (vs := [.pointer (some ⟨bh, 0, none⟩)]) (by repeat' (first | exact True.intro | exact rho_of rfl | refine And.intro ?_ ?_)) ((pairs_spec hH8 (by simp)).mono (fun e w9 hh => ?_))
  obtain ⟨v, he, ho, hk9⟩ := hh
  refine ⟨v, he, ?_⟩
  have hpr : prsL [(dg1 9, fwdR 5 (dg1 1) (dg1 2) (dg1 9) 4 20)] = [fwdR 5 (dg1 1) (dg1 2) (dg1 9) 4 20] := by
    simp [prsL, srt, sortK, insK, alook]
  rw [hpr] at ho
  have ho : w9.ownsRow w8.heap.size 54 27 v 1 (flt prc [fwdR 5 (dg1 1) (dg1 2) (dg1 9) 4 20]) := ho
  obtain ⟨a6, c6, rfl, _, hS6⟩ := Sl.own prc_length ho rfl
  obtain ⟨ba, oa, rfl, hri⟩ := hS6.at (i := 0) (by decide)
  have hri : Row w9 ba (oa + 0 * 27) (prc (fwdR 5 (dg1 1) (dg1 2) (dg1 9) 4 20)) := hri
  obtain ⟨t1, t2⟩ := prc_rowsO hri
  have t1 : Row w9 ba (oa + 0 * 27 + 25) [.int .i64 20] := t1
  have t2 : Row w9 ba (oa + 0 * 27 + 26) [.int .i64 15] := t2
  have hH9 := HubAt.kp0 hH8 hk9
  have q3 := q3.kp0 hk9
  have q4 := q4.kp0 hk9
  have q5 := q5.kp0 hk9
  have s8 := hk8.size
  have s9 := hk9.size
  repeat (first | first|apply cA|apply cB|apply cD|apply cE|apply cF|apply cH|refine cV rfl rfl rfl rfl (by first|((first|apply qe_z2|apply qep|apply qmv|apply qas|apply qlc|apply qla|apply qfa|apply qic|apply qpk|apply qni|apply qln|apply qxt|apply qep)<;>(first|exact rfl|assumption|exact Ar.mk (by omega)|exact dct (by first|assumption|omega)|exact List.not_mem_nil|apply dc_length|apply hc_length|apply pc_length|apply prc_length|exact nm2 (by omega) (by omega)|exact nm1 (by omega)|exact dcu|fail))|fail) ?_ | refine cX rfl rfl ?_)
  refine SG.call rfl rfl rfl (vs := [.pointer (some ⟨bh, 0, none⟩), .int .i64 15, dv (dg1 9), .int .i64 3]) (by repeat' (first | exact True.intro | exact rho_of rfl | refine And.intro ?_ ?_)) ((settle_spec hH9 15 (dg1 9) 3 ?_).mono (fun e w10 hh => ?_))
  · intro r hr
    simp [alook] at hr
    subst hr
    exact ⟨⟨_, (alook2 hne).1⟩, ⟨_, (alook2 hne).2⟩, hne⟩
  rw [hop.set (by decide) (by decide) (by decide) (by decide)] at hh
  obtain ⟨he, ⟨h1, _⟩ | ⟨_, hk10, r, x, y, a1, c1, a2, c2, hr, hx, hy, hH10⟩⟩ := hh
  · exact absurd rfl h1
  have hr : r = fwdR 5 (dg1 1) (dg1 2) (dg1 9) 4 20 := by simpa [alook] using hr.symm
  subst hr
  have hx : x = _ := (Option.some.inj ((alook2 hne).1.symm.trans hx)).symm
  have hy : y = _ := (Option.some.inj ((alook2 hne).2.symm.trans hy)).symm
  subst hx
  subst hy
  simp only [fwdR] at hH10
  rw [aput2' hne, filt1] at hH10
  refine ⟨_, he, ?_⟩
  have q3 := q3.kp hk10 (nm2 (by omega) (by omega))
  have q4 := q4.kp hk10 (nm2 (by omega) (by omega))
  have k10 : Kp [] w w10 := (k8.trans hk9).trans_new hk10 (new2 (by omega) (by omega))
  clear t1 t2 hri hS6 q5
  repeat (first | first|apply cA|apply cB|apply cD|apply cE|apply cF|apply cH|refine cV rfl rfl rfl rfl (by first|((first|apply qe_z2|apply qep|apply qmv|apply qas|apply qlc|apply qla|apply qfa|apply qic|apply qpk|apply qni|apply qln|apply qxt|apply qep)<;>(first|exact rfl|assumption|exact Ar.mk (by omega)|exact dct (by first|assumption|omega)|exact List.not_mem_nil|apply dc_length|apply hc_length|apply pc_length|apply prc_length|exact nm2 (by omega) (by omega)|exact nm1 (by omega)|exact dcu|fail))|fail) ?_ | refine cX rfl rfl ?_)
  refine dA rfl (by exact rho_of rfl) rfl ?_
  repeat (first|apply cA|apply cB|apply cD|apply cE|apply cF|apply cH|refine cV rfl rfl rfl rfl (by first|((first|apply qe_z2|apply qep|apply qmv|apply qas|apply qlc|apply qla|apply qfa|apply qic|apply qpk|apply qni|apply qln|apply qxt|apply qep)<;>(first|exact rfl|assumption|exact Ar.mk (by omega)|exact dct (by first|assumption|omega)|exact List.not_mem_nil|apply dc_length|apply hc_length|apply pc_length|apply prc_length|exact nm2 (by omega) (by omega)|exact nm1 (by omega)|exact dcu|fail))|fail) ?_)
  have hx1 := hH10.at' _ List.mem_cons_self
  have hy1 := hH10.at' _ (List.mem_cons_of_mem _ List.mem_cons_self)
  refine SG.call rfl rfl rfl (vs := [.pointer (some ⟨bh, 0, none⟩), dv (dg1 1)]) (by repeat' (first | exact True.intro | exact rho_of rfl | refine And.intro ?_ ?_)) ((purse_some hH10 (dg1 1) (alook2 hne).1 hx1 (hH10.few _ List.mem_cons_self)).mono (fun e w11 hh => ?_))
  obtain ⟨v, he, ⟨s7, rfl, ho7⟩, hk11⟩ := hh
  refine ⟨_, he, ?_⟩
  obtain ⟨a7, c7, rfl, _, _⟩ := Sl.own hc_length ho7 rfl
  have q4 := q4.kp0 hk11
  repeat (first|apply cA|apply cB|apply cD|apply cE|apply cF|apply cH|refine cV rfl rfl rfl rfl (by first|((first|apply qe_z2|apply qep|apply qmv|apply qas|apply qlc|apply qla|apply qfa|apply qic|apply qpk|apply qni|apply qln|apply qxt|apply qep)<;>(first|exact rfl|assumption|exact Ar.mk (by omega)|exact dct (by first|assumption|omega)|exact List.not_mem_nil|apply dc_length|apply hc_length|apply pc_length|apply prc_length|exact nm2 (by omega) (by omega)|exact nm1 (by omega)|exact dcu|fail))|fail) ?_)
  refine SG.alloc rfl rfl rfl (fun b7 w12 hk12 hb7 hB7 => ?_)
  refine SG.setAll rfl rfl (by exact rho_of rfl) (by exact rho_of rfl) hB7 (pc_length _ _) rfl (pc_one _ _ _ _) (fun w13 hk13 hB7 => ?_)
  have hB7 := hB7
  have k13 : Kp [] w10 w13 := hk11.trans (hk12.trans_new hk13 (new1 (by omega)))
  have q7 := pc_have hB7
  have l7 := hB7.lt
  have hH13 := hH10.kp0 k13
  have q4 := (q4.kp0 hk12).kp hk13 (nm1 (by have := q4.lt; omega))
  repeat (first|apply cA|apply cB|apply cD|apply cE|apply cF|apply cH|refine cV rfl rfl rfl rfl (by first|((first|apply qe_z2|apply qep|apply qmv|apply qas|apply qlc|apply qla|apply qfa|apply qic|apply qpk|apply qni|apply qln|apply qxt|apply qep)<;>(first|exact rfl|assumption|exact Ar.mk (by omega)|exact dct (by first|assumption|omega)|exact List.not_mem_nil|apply dc_length|apply hc_length|apply pc_length|apply prc_length|exact nm2 (by omega) (by omega)|exact nm1 (by omega)|exact dcu|fail))|fail) ?_)
  refine SG.call rfl rfl rfl (vs := [.pointer (some ⟨bh, 0, none⟩), dv (dg1 2)]) (by repeat' (first | exact True.intro | exact rho_of rfl | refine And.intro ?_ ?_)) ((purse_some hH13 (dg1 2) (alook2 hne).2 (hy1.kp0 k13) (hH10.few _ (List.mem_cons_of_mem _ List.mem_cons_self))).mono (fun e w14 hh => ?_))
  obtain ⟨v, he, ⟨s9, rfl, ho9⟩, hk14⟩ := hh
  refine ⟨_, he, ?_⟩
  obtain ⟨a9, c9, rfl, _, _⟩ := Sl.own hc_length ho9 rfl
  have q7 := q7.kp0 hk14
  clear q4
  repeat (first|apply cA|apply cB|apply cD|apply cE|apply cF|apply cH|refine cV rfl rfl rfl rfl (by first|((first|apply qe_z2|apply qep|apply qmv|apply qas|apply qlc|apply qla|apply qfa|apply qic|apply qpk|apply qni|apply qln|apply qxt|apply qep)<;>(first|exact rfl|assumption|exact Ar.mk (by omega)|exact dct (by first|assumption|omega)|exact List.not_mem_nil|apply dc_length|apply hc_length|apply pc_length|apply prc_length|exact nm2 (by omega) (by omega)|exact nm1 (by omega)|exact dcu|fail))|fail) ?_)
  refine SG.alloc rfl rfl rfl (fun b9 w15 hk15 hb9 hB9 => ?_)
  refine SG.setAll rfl rfl (by exact rho_of rfl) (by exact rho_of rfl) hB9 (pc_length _ _) rfl (pc_one _ _ _ _) (fun w16 hk16 hB9 => ?_)
  have q9 := pc_have hB9
  have q7 := (q7.kp0 hk15).kp hk16 (nm1 (by have := q7.lt; omega))
  have k16 := (k10.trans k13).trans (hk14.trans (hk15.trans_new hk16 (new1 (by omega))))
  have q7 : Row w16 b7 9 (zc2 (13, 7)) := q7
  have q9 : Row w16 b9 9 (zc2 (7, 13)) := q9
  have f1 : Z2.Fit (13, 7) := ⟨⟨by decide, by decide⟩, ⟨by decide, by decide⟩⟩
  have f2 : Z2.Fit (7, 13) := ⟨⟨by decide, by decide⟩, ⟨by decide, by decide⟩⟩
  repeat (first | first|apply cA|apply cB|apply cD|apply cE|apply cF|apply cH|refine cV rfl rfl rfl rfl (by first|((first|apply qe_z2|apply qep|apply qmv|apply qas|apply qlc|apply qla|apply qfa|apply qic|apply qpk|apply qni|apply qln|apply qxt|apply qep)<;>(first|exact rfl|assumption|exact Ar.mk (by omega)|exact dct (by first|assumption|omega)|exact List.not_mem_nil|apply dc_length|apply hc_length|apply pc_length|apply prc_length|exact nm2 (by omega) (by omega)|exact nm1 (by omega)|exact dcu|fail))|fail) ?_ | refine cX rfl rfl ?_)
  refine cV rfl rfl rfl rfl (vals_build rfl (bz2 13 7)) ?_
  repeat (first | first|apply cA|apply cB|apply cD|apply cE|apply cF|apply cH|refine cV rfl rfl rfl rfl (by first|((first|apply qe_z2|apply qep|apply qmv|apply qas|apply qlc|apply qla|apply qfa|apply qic|apply qpk|apply qni|apply qln|apply qxt|apply qep)<;>(first|exact rfl|assumption|exact Ar.mk (by omega)|exact dct (by first|assumption|omega)|exact List.not_mem_nil|apply dc_length|apply hc_length|apply pc_length|apply prc_length|exact nm2 (by omega) (by omega)|exact nm1 (by omega)|exact dcu|fail))|fail) ?_ | refine cX rfl rfl ?_)
  refine cV rfl rfl rfl rfl (vals_build rfl (bz2 7 13)) ?_
  repeat (first | first|apply cA|apply cB|apply cD|apply cE|apply cF|apply cH|refine cV rfl rfl rfl rfl (by first|((first|apply qe_z2|apply qep|apply qmv|apply qas|apply qlc|apply qla|apply qfa|apply qic|apply qpk|apply qni|apply qln|apply qxt|apply qep)<;>(first|exact rfl|assumption|exact Ar.mk (by omega)|exact dct (by first|assumption|omega)|exact List.not_mem_nil|apply dc_length|apply hc_length|apply pc_length|apply prc_length|exact nm2 (by omega) (by omega)|exact nm1 (by omega)|exact dcu|fail))|fail) ?_ | refine cX rfl rfl ?_)
  refine ret1 (Or.inl rfl) Try.results19 (by first | exact ResV.tmp rfl | exact ResV.agg rfl rfl (by assumption) (by first | exact dc_length _ | exact nc_length _ | exact rc_length _ _ _ | exact ec_length _ | exact dl_length _ _ _ _ | rfl) | exact ResV.cell rfl rfl (by assumption)) ?_
  exact ⟨rfl, k16⟩
end Go.Proofs.Ytajllbdeoopimaa
namespace Go.Proofs.Ytajllbdeoopimaa
set_option linter.unusedVariables false
section
variable {P : Program} {S : List Nat} {w0 : World} {F : World → Prop} {L : Env} {d : Option Nat} {ty : TypeId} {pos : String} {af : Array Edge} {g : Option (Nat × Bool)} {T T' : TypeId} {x y : Operand} {a b : Int}
/-- The rest. -/
theorem qrm {k : IntKind} (hx : ro L x = some (.int k a)) (hy : ro L y = some (.int k b)) (h : Ar (0 ≤ a ∧ 0 < b)) : Vals P S w0 F L ⟨d, .binOp .rem T x y T', ty, pos, af, g⟩ (.int k (a % b)) := fun w _ _ => by
  have hb : b ≠ 0 := by have := h.h; omega
  simp [execOp, rho_of hx, rho_of hy, eqGuard, binOp, Op.intDiv, hb]
  exact Int.tmod_eq_emod_of_nonneg h.h.1
theorem qmi [u : Ut P T (.int .i64)] (hx : ro L x = some (.int .i64 a)) (hy : ro L y = some (.int .i64 b)) (h : Ar (-9223372036854775808 ≤ a * b ∧ a * b ≤ 9223372036854775807)) : Vals P S w0 F L ⟨d, .binOp .mul T x y T', ty, pos, af, g⟩ (.int .i64 (a * b)) := fun w _ _ => by
  have e : IntKind.wrap .i64 (a * b) = a * b := by
    have h1 := h.h
    generalize a * b = c at *
    simp only [IntKind.wrap, IntKind.signed, IntKind.bits]
    simp
    omega
  simp [execOp, rho_of hx, rho_of hy, eqGuard, binOp, Op.intArith, e]
/-- A small number as an int; as a byte. -/
theorem qci {k : IntKind} [u : Ut P T (.int k)] [u' : Ut P T' (.int .i64)] (hx : ro L x = some (.int k a)) (h : Ar (0 ≤ a ∧ a < 65536)) : Vals P S w0 F L ⟨d, .convert T T' x, ty, pos, af, g⟩ (.int .i64 a) := by
  have := qcv (P := P) (S := S) (w0 := w0) (F := F) (d := d) (ty := ty) (pos := pos) (af := af) (g := g) (u := u) (u' := u') hx
  have e : IntKind.wrap .i64 a = a := by
    have := h.h
    simp only [IntKind.wrap, IntKind.signed, IntKind.bits]
    simp
    omega
  rwa [e] at this
theorem qcb [u : Ut P T (.int .i64)] [u' : Ut P T' (.int .u8)] (hx : ro L x = some (.int .i64 a)) (h : Ar (0 ≤ a ∧ a < 256)) : Vals P S w0 F L ⟨d, .convert T T' x, ty, pos, af, g⟩ (bv (UInt8.ofNat a.toNat)) := by
  have := qcv (P := P) (S := S) (w0 := w0) (F := F) (d := d) (ty := ty) (pos := pos) (af := af) (g := g) (u := u) (u' := u') hx
  have e : IntKind.wrap .u8 a = ((UInt8.ofNat a.toNat).toNat : Int) := by
    have := h.h
    have e2 : (UInt8.ofNat a.toNat).toNat = a.toNat := UInt8.toNat_ofNat_of_lt' (by show a.toNat < 256; omega)
    rw [e2]
    simp only [IntKind.wrap, IntKind.signed, IntKind.bits]
    simp
    omega
  rwa [e] at this
end
/-- Where a hub lies. -/
structure Hb where
  h : Nat
  s : Nat
  p : Nat
def hbc (B : Hb) : List Value := [.pointer (some ⟨B.h, 0, none⟩)]
theorem hbc_length (B : Hb) : (hbc B).length = 1 := rfl
theorem hbc_one (B : Hb) : allOne (hbc B) = true := rfl
structure Hb.Apart (B C : Hb) : Prop where
  a : B.s ≠ C.s
  b : B.s ≠ C.p
  c : B.p ≠ C.s
  d : B.p ≠ C.p
theorem MapIs.nb2 {κ ν κ' ν' : Type} {w : World} {b b' z : Nat} {enc : κ → Value} {V : ν → Value} {m : List (κ × ν)} {enc' : κ' → Value} {V' : ν' → Value} {m' : List (κ' × ν')} (h : MapIs w b enc V m) (h' : MapIs w b' enc' V' m') {cs : Array Value} {T : TypeId} {f : Nat × Nat} (hz : w.heap[z]? = some (.cells cs T f)) : z ∉ [b, b'] := nm2 (h.nb hz) (h'.nb hz)
/-- Another hub turns. -/
theorem HubAt.other {w w' : World} {bh bs bp bs' bp' : Nat} {win : Int} {ms : Ms} {mp : Mp} {κ ν κ' ν' : Type} {enc : κ → Value} {V : ν → Value} {m : List (κ × ν)} {enc' : κ' → Value} {V' : ν' → Value} {m' : List (κ' × ν')} (h : HubAt w bh bs bp win ms mp) (h1 : MapIs w bs' enc V m) (h2 : MapIs w bp' enc' V' m') (hk : Kp [bs', bp'] w w') (n1 : bs ≠ bs') (n2 : bs ≠ bp') (n3 : bp ≠ bs') (n4 : bp ≠ bp') : HubAt w' bh bs bp win ms mp :=
  ⟨h.blk.kp hk (h1.nb2 h2 h.blk.raw), h.sh.kp hk (nm2 n1 n2), h.pr.kp hk (nm2 n3 n4), h.ne, fun x hx => (h.at' x hx).kp hk (fun hn z off e => by
    obtain ⟨cs, f, hz⟩ := (h.at' x hx).ty hn z off e
    exact h1.nb2 h2 hz), h.few⟩
/-- A row of another type turns. -/
theorem HubAt.own {w w' : World} {bh bs bp : Nat} {win : Int} {ms : Ms} {mp : Mp} {base n sz : Nat} {T : TypeId} {v : Value} {xs : List Value} (h : HubAt w bh bs bp win ms mp) (ho : w.ownsRow base T sz v n xs) (hk : Kp (ownB v) w w') (hT : 87 ≠ T) (hT2 : 56 ≠ T) : HubAt w' bh bs bp win ms mp := by
  have nc : ∀ {z : Nat} {cs : Array Value} {T' : TypeId} {f : Nat × Nat}, w.heap[z]? = some (.cells cs T' f) → T' ≠ T → z ∉ ownB v := fun {z} {cs} {T'} {f} hz hne hm => by
    rcases ho.2 with ⟨rfl, _⟩ | ⟨g, cap, cur, rfl, _, hgb, _⟩
    · cases ownB_mem hm
    · have e := ownB_mem hm
      have : g = z := by simpa [Value.ownBlock] using e
      subst this
      rw [hz] at hgb
      cases hgb
      exact hne rfl
  have nm : ∀ {κ ν : Type} {b : Nat} {enc : κ → Value} {V : ν → Value} {m : List (κ × ν)}, MapIs w b enc V m → b ∉ ownB v := fun {κ} {ν} {b} {enc} {V} {m} hM hm => by
    rcases ho.2 with ⟨rfl, _⟩ | ⟨g, cap, cur, rfl, _, hgb, _⟩
    · cases ownB_mem hm
    · have e := ownB_mem hm
      have : g = b := by simpa [Value.ownBlock] using e
      subst this
      exact hM.nb hgb rfl
  exact ⟨h.blk.kp hk (nc h.blk.raw hT), h.sh.kp hk (nm h.sh), h.pr.kp hk (nm h.pr), h.ne, fun x hx => (h.at' x hx).kp hk (fun hn z off e => by
    obtain ⟨cs, f, hz⟩ := (h.at' x hx).ty hn z off e
    exact nc hz hT2), h.few⟩
theorem Row.other {w w' : World} {b off : Nat} {l : List Value} {bs' bp' : Nat} {κ ν κ' ν' : Type} {enc : κ → Value} {V : ν → Value} {m : List (κ × ν)} {enc' : κ' → Value} {V' : ν' → Value} {m' : List (κ' × ν')} (h : Row w b off l) (h1 : MapIs w bs' enc V m) (h2 : MapIs w bp' enc' V' m') : b ∉ [bs', bp'] := by
  obtain ⟨cs, T, f, hz, _⟩ := h
  exact h1.nb2 h2 hz
theorem Sl.other {α : Type} {en : α → List Value} {sz : Nat} {l : List α} {w w' : World} {a : Option Addr} {bs' bp' : Nat} {κ ν κ' ν' : Type} {enc : κ → Value} {V : ν → Value} {m : List (κ × ν)} {enc' : κ' → Value} {V' : ν' → Value} {m' : List (κ' × ν')} (h : Sl en sz w a l) (h1 : MapIs w bs' enc V m) (h2 : MapIs w bp' enc' V' m') (hk : Kp [bs', bp'] w w') : Sl en sz w' a l := fun i x hx => by
  obtain ⟨b, off, e, hr⟩ := h i x hx
  exact ⟨b, off, e, hr.kp hk (hr.other (w' := w') h1 h2)⟩
def dk (i : Nat) : Dg := dg1 (UInt8.ofNat i)
theorem dk_inj {i j : Nat} (hi : i < 256) (hj : j < 256) (h : dk i = dk j) : i = j := by
  have := congrArg UInt8.toNat (dg1_inj h)
  simpa [Nat.mod_eq_of_lt hi, Nat.mod_eq_of_lt hj] using this
/-- What goes along. -/
structure Rt where
  n : Nat
  whole : Int
  part : Int
  start : Int
structure Rt.Ok (W : Rt) : Prop where
  n0 : 1 ≤ W.n
  n1 : W.n ≤ 6
  a0 : 0 < W.whole
  a1 : W.whole ≤ 1000
  p0 : 0 ≤ W.part
  p1 : W.part ≤ W.whole
  s0 : 0 ≤ W.start
  s1 : W.start ≤ 65535
def nm77 : Dg := dg1 77
def Rt.til (W : Rt) (i : Nat) : Int := W.start + 5 * ((W.n : Int) - (i : Int)) + 3
def nearX (i : Nat) : Sh := ⟨twoP (dk i) 1000, none, 0, 1⟩
def farY (i : Nat) : Sh := ⟨twoP (dk (i + 1)) 1000, none, 0, 0⟩
def Rt.fX (W : Rt) (i : Nat) : Pu := fwdX (nearX i) nm77 W.whole (W.til i)
def Rt.fY (W : Rt) (i : Nat) : Pu := fwdY 5 (farY i) nm77 W.whole (W.til i)
def Rt.eX (W : Rt) (i : Nat) : Pu := nextP (freeQ (W.fX i) nm77 W.part)
def Rt.eY (W : Rt) (i : Nat) : Pu := nextP (freeQ (W.fY i) nm77 W.part)
def Rt.pX (W : Rt) (k i : Nat) : Pu := if k = 0 then twoP (dk i) 1000 else if k = 1 then W.fX i else W.eX i
def Rt.pY (W : Rt) (k i : Nat) : Pu := if k = 0 then twoP (dk (i + 1)) 1000 else if k = 1 then W.fY i else W.eY i
def Rt.mp (W : Rt) (k i : Nat) : Mp := if k = 1 then [(nm77, fwdR 5 (dk i) (dk (i + 2)) nm77 W.whole (W.til i))] else []
def Rt.ms (W : Rt) (k i : Nat) (q r : Option Addr × Nat) : Ms := [(dk i, ⟨W.pX k i, q.1, q.2, 1⟩), (dk (i + 2), ⟨W.pY k i, r.1, r.2, 0⟩)]
/-- A hub of the way: opened, forwarded, settled. -/
def Rt.St (W : Rt) (k i : Nat) (B : Hb) (w : World) : Prop := ∃ q r, HubAt w B.h B.s B.p 5 (W.ms k i q r) (W.mp k i)
theorem Rt.St.kp0 {W : Rt} {k i : Nat} {B : Hb} {w w' : World} (h : W.St k i B w) (hk : Kp [] w w') : W.St k i B w' := by
  obtain ⟨q, r, h⟩ := h
  exact ⟨q, r, h.kp0 hk⟩
theorem Rt.St.other {W : Rt} {k i k' i' : Nat} {B C : Hb} {w w' : World} (h : W.St k i B w) (h' : W.St k' i' C w) (hk : Kp [C.s, C.p] w w') (ha : B.Apart C) : W.St k i B w' := by
  obtain ⟨q, r, h⟩ := h
  obtain ⟨q', r', h'⟩ := h'
  exact ⟨q, r, h.other h'.sh h'.pr hk ha.a ha.b ha.c ha.d⟩
theorem Rt.St.ltb {W : Rt} {k i : Nat} {B : Hb} {w : World} (h : W.St k i B w) : B.h < w.heap.size ∧ B.s < w.heap.size ∧ B.p < w.heap.size := by
  obtain ⟨q, r, h⟩ := h
  exact ⟨h.blk.lt, h.sh.lt, h.pr.lt⟩
theorem Rt.St.own {W : Rt} {k i : Nat} {B : Hb} {w w' : World} {base n sz : Nat} {v : Value} {xs : List Value} (h : W.St k i B w) (ho : w.ownsRow base 26 sz v n xs) (hk : Kp (ownB v) w w') : W.St k i B w' := by
  obtain ⟨q, r, h⟩ := h
  exact ⟨q, r, h.own ho hk (by decide) (by decide)⟩
theorem Rt.ne {W : Rt} (h : W.Ok) {i : Nat} (hi : i < W.n) : dk i ≠ dk (i + 2) := fun e => by
  have := h.n1
  have := dk_inj (by omega) (by omega) e
  omega
theorem Rt.hop {W : Rt} (h : W.Ok) {i : Nat} (hi : i < W.n) (q r : Option Addr × Nat) : Hop (dk i) (dk (i + 2)) nm77 (⟨twoP (dk i) 1000, q.1, q.2, 1⟩ : Sh) (⟨twoP (dk (i + 1)) 1000, r.1, r.2, 0⟩ : Sh) 1000 W.start (W.til i) W.whole := by
  have := h.n0
  have := h.n1
  have := h.s0
  have := h.s1
  refine ⟨Rt.ne h hi, ⟨_, rfl⟩, ⟨_, rfl⟩, Or.inr rfl, Or.inl rfl, by decide, by decide, by omega, by omega, ?_, ?_, h.a0, h.a1⟩ <;> unfold Rt.til <;> omega
theorem Rt.fin {W : Rt} (h : W.Ok) {i : Nat} (hi : i < W.n) : ((W.eX i).Ok ∧ (W.eX i).held = [] ∧ (W.eX i).h0 = 1000 - W.part ∧ (W.eX i).h1 = 1000 + W.part) ∧ ((W.eY i).Ok ∧ (W.eY i).held = [] ∧ (W.eY i).h0 = 1000 - W.part ∧ (W.eY i).h1 = 1000 + W.part) := by
  have hp := Rt.hop h hi (none, 0) (none, 0)
  have f1 := free_one (p := W.fX i) (nm := dk i) (n := nm77) (e := 1000) (amt := W.whole) (s := 0) (til := W.til i) (over := W.part) rfl (Or.inl rfl) hp.e0 hp.e1 hp.hx hp.a1 h.p0 h.p1
  have f2 := free_one (p := W.fY i) (nm := dk (i + 1)) (n := nm77) (e := 1000) (amt := W.whole) (s := 0) (til := W.til i - 5) (over := W.part) rfl (Or.inl rfl) hp.e0 hp.e1 hp.hy hp.a1 h.p0 h.p1
  have k1 : (W.eX i).num = 2 := by
    show (freeQ (W.fX i) nm77 W.part).num + 1 = 2
    rw [freeQ_num]
    rfl
  have k2 : (W.eY i).num = 2 := by
    show (freeQ (W.fY i) nm77 W.part).num + 1 = 2
    rw [freeQ_num]
    rfl
  obtain ⟨_, a1, a2, a3⟩ := f1
  obtain ⟨_, b1, b2, b3⟩ := f2
  have a2 : (W.eX i).h0 = 1000 - W.part := a2
  have a3 : (W.eX i).h1 = 1000 + W.part := a3
  have b2 : (W.eY i).h0 = 1000 - W.part := b2
  have b3 : (W.eY i).h1 = 1000 + W.part := b3
  have a1 : (W.eX i).held = [] := a1
  have b1 : (W.eY i).held = [] := b1
  have := h.a1
  have := h.p0
  have := h.p1
  refine ⟨⟨⟨by rw [k1]; exact ⟨by decide, by decide⟩, by rw [a2]; unfold amtP; omega, by rw [a3]; unfold amtP; omega, by rw [a1]; decide, ?_, by rw [a1]; rfl⟩, a1, a2, a3⟩, ⟨⟨by rw [k2]; exact ⟨by decide, by decide⟩, by rw [b2]; unfold amtP; omega, by rw [b3]; unfold amtP; omega, by rw [b1]; decide, ?_, by rw [b1]; rfl⟩, b1, b2, b3⟩⟩
  · simp only [sumP, sumH, a1, a2, a3, List.foldl_nil, amtP]
    omega
  · simp only [sumP, sumH, b1, b2, b3, List.foldl_nil, amtP]
    omega
theorem Rt.worth {W : Rt} (h : W.Ok) {i : Nat} (hi : i < W.n) (q r : Option Addr × Nat) : (∀ x ∈ W.ms 2 i q r, ShOk x.2) ∧ sumS backS (W.ms 2 i q r) = 2000 ∧ sumS onS (W.ms 2 i q r) = 2000 := by
  obtain ⟨⟨o1, a1, a2, a3⟩, ⟨o2, b1, b2, b3⟩⟩ := Rt.fin h hi
  refine ⟨fun x hx => ?_, ?_, ?_⟩
  · simp only [Rt.ms, List.mem_cons, List.not_mem_nil, or_false] at hx
    rcases hx with rfl | rfl
    · exact ⟨o1, (by decide : (0 : Int) ≤ 1), (by decide : (1 : Int) ≤ 1)⟩
    · exact ⟨o2, (by decide : (0 : Int) ≤ 0), (by decide : (0 : Int) ≤ 1)⟩
  · show haveP (W.eX i) 1 + ownS 1 (W.eX i).held + (haveP (W.eY i) 0 + ownS 0 (W.eY i).held + 0) = 2000
    rw [a1, b1]
    show (W.eX i).h1 + 0 + ((W.eY i).h0 + 0 + 0) = 2000
    omega
  · show haveP (W.eX i) 1 + othS 1 (W.eX i).held + (haveP (W.eY i) 0 + othS 0 (W.eY i).held + 0) = 2000
    rw [a1, b1]
    show (W.eX i).h1 + 0 + ((W.eY i).h0 + 0 + 0) = 2000
    omega
end Go.Proofs.Ytajllbdeoopimaa
namespace Go.Proofs.Ytajllbdeoopimaa
set_option linter.unusedVariables false
theorem bsh1 (B : Hb) (w : World) : (Instr.buildSlice 23 1 #[(0, .pointer (some ⟨B.h, 0, none⟩))]).run Try.prog w = .ok (.slice (some ⟨w.heap.size, 0, none⟩) 1 1) { w with heap := w.heap.push (.cells (hbc B).toArray 26) } := by kernel_rfl
/-- Hubs, each somewhere on its way. -/
def Hubs (W : Rt) (f : Nat → Nat) (L : List Hb) (w : World) : Prop := ∀ i (h : i < L.length), W.St (f i) i L[i] w
def AllApart (L : List Hb) : Prop := ∀ i j (hi : i < L.length) (hj : j < L.length), i ≠ j → L[i].Apart L[j]
theorem Hubs.kp0 {W : Rt} {f : Nat → Nat} {L : List Hb} {w w' : World} (h : Hubs W f L w) (hk : Kp [] w w') : Hubs W f L w' := fun i hi => (h i hi).kp0 hk
theorem Hubs.turn {W : Rt} {f f' : Nat → Nat} {L : List Hb} {w w' : World} (h : Hubs W f L w) (ha : AllApart L) {j : Nat} (hj : j < L.length) (hk : Kp [L[j].s, L[j].p] w w') (hs : W.St (f' j) j L[j] w') (hf : ∀ i, i ≠ j → f' i = f i) : Hubs W f' L w' := fun i hi => by
  by_cases e : i = j
  · subst e
    exact hs
  · rw [hf i e]
    exact (h i hi).other (h j hj) hk (ha i j hi hj e)
theorem Hubs.add {W : Rt} {f : Nat → Nat} {L : List Hb} {w : World} (h : Hubs W f L w) {B : Hb} (hB : W.St (f L.length) L.length B w) : Hubs W f (L ++ [B]) w := fun i hi => by
  by_cases e : i < L.length
  · rw [List.getElem_append_left e]
    exact h i e
  · have : i = L.length := by simp at hi; omega
    subst this
    rw [List.getElem_append_right (Nat.le_refl _)]
    simpa using hB
theorem AllApart.add {L : List Hb} {B : Hb} {n : Nat} (h : AllApart L) (hl : ∀ i (hi : i < L.length), L[i].s < n ∧ L[i].p < n) (h1 : n ≤ B.s) (h2 : n ≤ B.p) : AllApart (L ++ [B]) := fun i j hi hj e => by
  have key : ∀ i, i < L.length → (L ++ [B])[i]? = L[i]? := fun i hi => List.getElem?_append_left hi
  simp only [List.length_append, List.length_cons, List.length_nil] at hi hj
  by_cases ei : i < L.length
  · by_cases ej : j < L.length
    · rw [List.getElem_append_left ei, List.getElem_append_left ej]
      exact h i j ei ej e
    · have : j = L.length := by omega
      subst this
      obtain ⟨a, b⟩ := hl i ei
      rw [List.getElem_append_left ei, List.getElem_append_right (Nat.le_refl _)]
      simp only [Nat.sub_self, List.getElem_cons_zero]
      constructor <;> omega
  · have hie : i = L.length := by omega
    have ej : j < L.length := by omega
    subst hie
    obtain ⟨a, b⟩ := hl j ej
    rw [List.getElem_append_left ej, List.getElem_append_right (Nat.le_refl _)]
    simp only [Nat.sub_self, List.getElem_cons_zero]
    constructor <;> omega
/-- The hubs' blocks are new. -/
def AllNew (n : Nat) (L : List Hb) : Prop := ∀ i (h : i < L.length), n ≤ L[i].s ∧ n ≤ L[i].p
theorem AllNew.add {n : Nat} {L : List Hb} {B : Hb} (h : AllNew n L) (h1 : n ≤ B.s) (h2 : n ≤ B.p) : AllNew n (L ++ [B]) := fun i hi => by
  by_cases e : i < L.length
  · rw [List.getElem_append_left e]
    exact h i e
  · have : i = L.length := by simp at hi; omega
    subst this
    rw [List.getElem_append_right (Nat.le_refl _)]
    simpa using ⟨h1, h2⟩
theorem Hubs.keep {W : Rt} {f : Nat → Nat} {L : List Hb} {w w' : World} {bh bs bp : Nat} {win : Int} {ms : Ms} {mp : Mp} (h : Hubs W f L w) (hN : HubAt w bh bs bp win ms mp) (hk : Kp [bs, bp] w w') (ha : ∀ i (hi : i < L.length), L[i].s ≠ bs ∧ L[i].s ≠ bp ∧ L[i].p ≠ bs ∧ L[i].p ≠ bp) : Hubs W f L w' := fun i hi => by
  obtain ⟨q, r, h⟩ := h i hi
  obtain ⟨a, b, c, d⟩ := ha i hi
  exact ⟨q, r, h.other hN.sh hN.pr hk a b c d⟩
theorem Hubs.own {W : Rt} {f : Nat → Nat} {L : List Hb} {w w' : World} {base n sz : Nat} {v : Value} {xs : List Value} (h : Hubs W f L w) (ho : w.ownsRow base 26 sz v n xs) (hk : Kp (ownB v) w w') : Hubs W f L w' := fun i hi => (h i hi).own ho hk
theorem Hubs.mono {W : Rt} {f f' : Nat → Nat} {L : List Hb} {w : World} (h : Hubs W f L w) (hf : ∀ i, i < L.length → f' i = f i) : Hubs W f' L w := fun i hi => by
  rw [hf i hi]
  exact h i hi
theorem own_maps {w : World} {base n sz bs bp : Nat} {T : TypeId} {v : Value} {xs : List Value} {bh : Nat} {win : Int} {ms : Ms} {mp : Mp} (ho : w.ownsRow base T sz v n xs) (hN : HubAt w bh bs bp win ms mp) : ∀ z, v.ownBlock = some z → z ∉ [bs, bp] := fun z hz => by
  obtain ⟨cs, hc⟩ := own_cells ho hz
  exact hN.sh.nb2 hN.pr hc.raw
attribute [local irreducible] CG NG SG Vals Der Row Blk MapIs IterAt DerX
set_option maxHeartbeats 64000000 in
theorem hops_walk (w : World) (many : UInt8) (amount over now : Int) (ha : 0 ≤ amount ∧ amount < 65536) (ho : 0 ≤ over ∧ over < 65536) (hn : 0 ≤ now ∧ now < 65536) :
    Ret Try.prog 3 #[bv many, .int .u16 amount, .int .u16 over, .int .u16 now] w (.bool true) := by
  refine enter4 Try.func3 rfl Try.ntmps3 rfl ?_
  have hm := many.toNat_lt
  have hm2 : 0 ≤ (many.toNat : Int) % 6 ∧ (many.toNat : Int) % 6 < 6 := by omega
  have ha2 : 0 ≤ amount % 1000 ∧ amount % 1000 < 1000 := by omega
  have ho2 : 0 ≤ over % (1 + amount % 1000 + 1) ∧ over % (1 + amount % 1000 + 1) < 1 + amount % 1000 + 1 := ⟨Int.emod_nonneg _ (by omega), Int.emod_lt_of_pos _ (by omega)⟩
  have hmN : 0 ≤ ((many.toNat : Int)) ∧ (0 : Int) < 6 := by omega
  repeat (first|apply cA|apply cB|apply cD|apply cE|apply cF|apply cG|apply cH|apply cJ|apply cN|refine cQ rfl ?_|apply cU|refine cV rfl rfl rfl rfl (by first|((first|apply qrm|apply qmi|apply qci|apply qcb|apply qn_z2|apply qep|apply qmv|apply qas|apply qlc|apply qla|apply qfa|apply qic|apply qix|apply qpk|apply qls|apply qni|apply qad|apply qln|apply qge|apply qxt|apply qsb|apply qep)<;>(first|exact rfl|assumption|exact Ar.mk (by omega)|exact dct (by first|assumption|omega)|exact dcf (by first|assumption|omega)|exact List.not_mem_nil|apply dc_length|apply hc_length|apply pc_length|apply prc_length|exact (Int.toNat_of_nonneg (by omega)).symm|fail))|fail) ?_)
  refine cV rfl rfl rfl rfl (vals_build rfl (bd1 77)) ?_
  refine SG.alloc rfl rfl rfl (fun b13 w1 hk1 hb13 hB13 => ?_)
  refine SG.setAll (l := dc nm77) rfl rfl (by exact rho_of rfl) (by exact rho_of rfl) hB13 (dc_length _) rfl (dc_one _) (fun w2 hk2 hB13 => ?_)
  have hB13 : Blk w2 b13 (.cells (dc nm77).toArray 25) := hB13
  have k2 : Kp [] w w2 := hk1.trans_new hk2 (new1 (by omega))
  have l13 := hB13.lt
  have s2 := k2.size
  repeat (first|apply cA|apply cB|apply cD|apply cE|apply cF|apply cG|apply cH|apply cJ|apply cN|refine cQ rfl ?_|apply cU|refine cV rfl rfl rfl rfl (by first|((first|apply qrm|apply qmi|apply qci|apply qcb|apply qn_z2|apply qep|apply qmv|apply qas|apply qlc|apply qla|apply qfa|apply qic|apply qix|apply qpk|apply qls|apply qni|apply qad|apply qln|apply qge|apply qxt|apply qsb|apply qep)<;>(first|exact rfl|assumption|exact Ar.mk (by omega)|exact dct (by first|assumption|omega)|exact dcf (by first|assumption|omega)|exact List.not_mem_nil|apply dc_length|apply hc_length|apply pc_length|apply prc_length|exact (Int.toNat_of_nonneg (by omega)).symm|fail))|fail) ?_)
  generalize hN : 1 + (many.toNat : Int) % 6 = Nz
  generalize hA : 1 + amount % 1000 = A at ho2
  generalize hV : over % (A + 1) = V at ho2
  obtain ⟨N, rfl⟩ : ∃ N : Nat, Nz = (N : Int) := ⟨Nz.toNat, by omega⟩
  let W : Rt := ⟨N, A, V, now⟩
  have hW : W.Ok := ⟨by show 1 ≤ N; omega, by show N ≤ 6; omega, by show 0 < A; omega, by show A ≤ 1000; omega, ho2.1, by show V ≤ A; omega, hn.1, by show now ≤ 65535; omega⟩
  have hN6 : 1 ≤ N ∧ N ≤ 6 := by omega
  have hA6 : 0 < A ∧ A ≤ 1000 := by omega
  clear hm hm2 ha2 hmN hN hA hV ha ho hk1 hk2
  refine CG.loop (X := Value × List Hb) (fun x => [(3, .int .u16 now), (9, .int .i64 (N : Int)), (10, .int .i64 A), (11, .int .i64 V), (12, x.1), (13, .pointer (some ⟨b13, 0, none⟩)), (14, .int .i64 (x.2.length : Int))])
    (fun x w' => x.2.length ≤ N ∧ Kp [] w2 w' ∧ w'.ownsRow w2.heap.size 26 1 x.1 x.2.length (flt hbc x.2) ∧ Hubs W (fun _ => 0) x.2 w' ∧ AllApart x.2 ∧ AllNew w2.heap.size x.2) (fun x => N - x.2.length) (.slice none 0 0, []) ⟨Nat.zero_le _, Kp.refl _ _, own_nil, fun i h => absurd h (by simp), fun i j h => absurd h (by simp), fun i h => absurd h (by simp)⟩ (by (repeat' (first | exact True.intro | exact rfl | refine And.intro ?_ ?_))) ?_
  rintro ⟨v12, L⟩ w3 ⟨hi, hk3, ho, hH, hap, hnew⟩
  simp only at hi ho hH hap hnew
  refine CG.to [(3, .int .u16 now), (9, .int .i64 (N : Int)), (10, .int .i64 A), (11, .int .i64 V), (12, v12), (13, .pointer (some ⟨b13, 0, none⟩)), (14, .int .i64 (L.length : Int))] (by (repeat' (first | exact True.intro | exact rfl | refine And.intro ?_ ?_))) ?_
  by_cases hlt : L.length < N
  · have g1 : (L.length : Int) < (N : Int) := by omega
    have s3 := hk3.size
    repeat (first|apply cA|apply cB|apply cD|apply cE|apply cF|apply cG|apply cH|apply cJ|apply cN|refine cQ rfl ?_|apply cU|refine cV rfl rfl rfl rfl (by first|((first|apply qrm|apply qmi|apply qci|apply qcb|apply qn_z2|apply qep|apply qmv|apply qas|apply qlc|apply qla|apply qfa|apply qic|apply qix|apply qpk|apply qls|apply qni|apply qad|apply qln|apply qge|apply qxt|apply qsb|apply qep)<;>(first|exact rfl|assumption|exact Ar.mk (by omega)|exact dct (by first|assumption|omega)|exact dcf (by first|assumption|omega)|exact List.not_mem_nil|apply dc_length|apply hc_length|apply pc_length|apply prc_length|exact (Int.toNat_of_nonneg (by omega)).symm|fail))|fail) ?_)
    refine cZ rfl (by exact rho_of rfl) rfl ?_
    repeat (first|apply cA|apply cB|apply cD|apply cE|apply cF|apply cG|apply cH|apply cJ|apply cN|refine cQ rfl ?_|apply cU|refine cV rfl rfl rfl rfl (by first|((first|apply qrm|apply qmi|apply qci|apply qcb|apply qn_z2|apply qep|apply qmv|apply qas|apply qlc|apply qla|apply qfa|apply qic|apply qix|apply qpk|apply qls|apply qni|apply qad|apply qln|apply qge|apply qxt|apply qsb|apply qep)<;>(first|exact rfl|assumption|exact Ar.mk (by omega)|exact dct (by first|assumption|omega)|exact dcf (by first|assumption|omega)|exact List.not_mem_nil|apply dc_length|apply hc_length|apply pc_length|apply prc_length|exact (Int.toNat_of_nonneg (by omega)).symm|fail))|fail) ?_)
    refine SG.call rfl rfl rfl (vs := [.int .i64 5]) (by repeat' (first | exact True.intro | exact rho_of rfl | refine And.intro ?_ ?_)) ((new_spec 5 (by decide) (by decide) w3).mono (fun e w4 hh => ?_))
    obtain ⟨bh, bs, bp, he, hk4, gh, gs, gp, hH4⟩ := hh
    refine ⟨_, he, ?_⟩
    clear he
    have ls := hH4.sh.lt
    have lp := hH4.pr.lt
    have s4 := hk4.size
    have hHs4 := hH.kp0 hk4
    have ho4 := own_kp0 ho hk4
    repeat (first | first|apply cA|apply cB|apply cD|apply cE|apply cF|apply cG|apply cH|apply cJ|apply cN|refine cQ rfl ?_|apply cU|refine cV rfl rfl rfl rfl (by first|((first|apply qrm|apply qmi|apply qci|apply qcb|apply qn_z2|apply qep|apply qmv|apply qas|apply qlc|apply qla|apply qfa|apply qic|apply qix|apply qpk|apply qls|apply qni|apply qad|apply qln|apply qge|apply qxt|apply qsb|apply qep)<;>(first|exact rfl|assumption|exact Ar.mk (by omega)|exact dct (by first|assumption|omega)|exact dcf (by first|assumption|omega)|exact List.not_mem_nil|apply dc_length|apply hc_length|apply pc_length|apply prc_length|exact (Int.toNat_of_nonneg (by omega)).symm|fail))|fail) ?_ | refine cX rfl rfl ?_)
    refine cV rfl rfl rfl rfl (vals_build rfl (bd1 (UInt8.ofNat L.length))) ?_
    repeat (first | first|apply cA|apply cB|apply cD|apply cE|apply cF|apply cG|apply cH|apply cJ|apply cN|refine cQ rfl ?_|apply cU|refine cV rfl rfl rfl rfl (by first|((first|apply qrm|apply qmi|apply qci|apply qcb|apply qn_z2|apply qep|apply qmv|apply qas|apply qlc|apply qla|apply qfa|apply qic|apply qix|apply qpk|apply qls|apply qni|apply qad|apply qln|apply qge|apply qxt|apply qsb|apply qep)<;>(first|exact rfl|assumption|exact Ar.mk (by omega)|exact dct (by first|assumption|omega)|exact dcf (by first|assumption|omega)|exact List.not_mem_nil|apply dc_length|apply hc_length|apply pc_length|apply prc_length|exact (Int.toNat_of_nonneg (by omega)).symm|fail))|fail) ?_ | refine cX rfl rfl ?_)
    refine SG.ret rfl rfl rfl (vs := [bv (UInt8.ofNat L.length), .int .i64 1000]) (by repeat' (first | exact True.intro | exact rho_of rfl | refine And.intro ?_ ?_)) (two_spec (UInt8.ofNat L.length) 1000 w4) (fun w5 hk5 => ?_)
    have hH5 := hH4.kp0 hk5
    have hne : dk L.length ≠ dk (L.length + 2) := Rt.ne hW (W := W) (i := L.length) hlt
    have hne2 : dk L.length ≠ dk (L.length + 1) := fun e => by have := dk_inj (by omega) (by omega) e; omega
    repeat (first | first|apply cA|apply cB|apply cD|apply cE|apply cF|apply cG|apply cH|apply cJ|apply cN|refine cQ rfl ?_|apply cU|refine cV rfl rfl rfl rfl (by first|((first|apply qrm|apply qmi|apply qci|apply qcb|apply qn_z2|apply qep|apply qmv|apply qas|apply qlc|apply qla|apply qfa|apply qic|apply qix|apply qpk|apply qls|apply qni|apply qad|apply qln|apply qge|apply qxt|apply qsb|apply qep)<;>(first|exact rfl|assumption|exact Ar.mk (by omega)|exact dct (by first|assumption|omega)|exact dcf (by first|assumption|omega)|exact List.not_mem_nil|apply dc_length|apply hc_length|apply pc_length|apply prc_length|exact (Int.toNat_of_nonneg (by omega)).symm|fail))|fail) ?_ | refine cX rfl rfl ?_)
    refine SG.call rfl rfl rfl (vs := [.pointer (some ⟨bh, 0, none⟩), dv (dk L.length), pv (twoP (dk L.length) 1000) (.slice none 0 0), .int .i64 1]) (by repeat' (first | exact True.intro | exact rho_of rfl | refine And.intro ?_ ?_)) ((open_spec (a := none) (c := 0) hH5 (dk L.length) (twoP (dk L.length) 1000) 1 Sl.nil (by simp [twoP]) (by simp [twoP])).mono (fun e w6 hh => ?_))
    rw [open0 (dk L.length) (dk L.length) (e := 1000) (s := 1) (by decide) (by decide) (Or.inr rfl)] at hh
    obtain ⟨he, ⟨h1, _⟩ | ⟨_, hk6, a1, c1, hH6⟩⟩ := hh
    · exact absurd rfl h1
    refine ⟨_, he, ?_⟩
    repeat (first | first|apply cA|apply cB|apply cD|apply cE|apply cF|apply cG|apply cH|apply cJ|apply cN|refine cQ rfl ?_|apply cU|refine cV rfl rfl rfl rfl (by first|((first|apply qrm|apply qmi|apply qci|apply qcb|apply qn_z2|apply qep|apply qmv|apply qas|apply qlc|apply qla|apply qfa|apply qic|apply qix|apply qpk|apply qls|apply qni|apply qad|apply qln|apply qge|apply qxt|apply qsb|apply qep)<;>(first|exact rfl|assumption|exact Ar.mk (by omega)|exact dct (by first|assumption|omega)|exact dcf (by first|assumption|omega)|exact List.not_mem_nil|apply dc_length|apply hc_length|apply pc_length|apply prc_length|exact (Int.toNat_of_nonneg (by omega)).symm|fail))|fail) ?_ | refine cX rfl rfl ?_)
    refine cV rfl rfl rfl rfl (vals_build rfl (bd1 (UInt8.ofNat (L.length + 2)))) ?_
    repeat (first | first|apply cA|apply cB|apply cD|apply cE|apply cF|apply cG|apply cH|apply cJ|apply cN|refine cQ rfl ?_|apply cU|refine cV rfl rfl rfl rfl (by first|((first|apply qrm|apply qmi|apply qci|apply qcb|apply qn_z2|apply qep|apply qmv|apply qas|apply qlc|apply qla|apply qfa|apply qic|apply qix|apply qpk|apply qls|apply qni|apply qad|apply qln|apply qge|apply qxt|apply qsb|apply qep)<;>(first|exact rfl|assumption|exact Ar.mk (by omega)|exact dct (by first|assumption|omega)|exact dcf (by first|assumption|omega)|exact List.not_mem_nil|apply dc_length|apply hc_length|apply pc_length|apply prc_length|exact (Int.toNat_of_nonneg (by omega)).symm|fail))|fail) ?_ | refine cX rfl rfl ?_)
    refine SG.ret rfl rfl rfl (vs := [bv (UInt8.ofNat (L.length + 1)), .int .i64 1000]) (by repeat' (first | exact True.intro | exact rho_of rfl | refine And.intro ?_ ?_)) (two_spec (UInt8.ofNat (L.length + 1)) 1000 w6) (fun w7 hk7 => ?_)
    have hH7 : HubAt w7 bh bs bp 5 [(dk L.length, ⟨twoP (dk L.length) 1000, a1, c1, 1⟩)] [] := hH6.kp0 hk7
    repeat (first | first|apply cA|apply cB|apply cD|apply cE|apply cF|apply cG|apply cH|apply cJ|apply cN|refine cQ rfl ?_|apply cU|refine cV rfl rfl rfl rfl (by first|((first|apply qrm|apply qmi|apply qci|apply qcb|apply qn_z2|apply qep|apply qmv|apply qas|apply qlc|apply qla|apply qfa|apply qic|apply qix|apply qpk|apply qls|apply qni|apply qad|apply qln|apply qge|apply qxt|apply qsb|apply qep)<;>(first|exact rfl|assumption|exact Ar.mk (by omega)|exact dct (by first|assumption|omega)|exact dcf (by first|assumption|omega)|exact List.not_mem_nil|apply dc_length|apply hc_length|apply pc_length|apply prc_length|exact (Int.toNat_of_nonneg (by omega)).symm|fail))|fail) ?_ | refine cX rfl rfl ?_)
    refine SG.call rfl rfl rfl (vs := [.pointer (some ⟨bh, 0, none⟩), dv (dk (L.length + 2)), pv (twoP (dk (L.length + 1)) 1000) (.slice none 0 0), .int .i64 0]) (by repeat' (first | exact True.intro | exact rho_of rfl | refine And.intro ?_ ?_)) ((open_spec (a := none) (c := 0) hH7 (dk (L.length + 2)) (twoP (dk (L.length + 1)) 1000) 0 Sl.nil (by simp [twoP]) (by simp [twoP])).mono (fun e w8 hh => ?_))
    rw [open1 (k1 := dk L.length) (k2 := dk (L.length + 2)) (nm := dk (L.length + 1)) (e := 1000) (s := 0) (by decide) (by decide) (Or.inl rfl) hne hne2] at hh
    obtain ⟨he, ⟨h1, _⟩ | ⟨_, hk8, a2, c2, hH8⟩⟩ := hh
    · exact absurd rfl h1
    rw [aput1 hne] at hH8
    refine ⟨_, he, ?_⟩
    have k58 : Kp [bs, bp] w5 w8 := ((kp2a hk6).trans hk7.any).trans (kp2a hk8)
    have hHs8 := (hHs4.kp0 hk5).keep hH5 k58 (fun i hi => by
      obtain ⟨_, x1, x2⟩ := (hH i hi).ltb
      omega)
    have ho8 := own_kp (own_kp0 ho4 hk5) k58 (own_maps (own_kp0 ho4 hk5) hH5)
    have k38 : Kp [] w3 w8 := (hk4.trans hk5).trans_new k58 (new2 (by omega) (by omega))
    have hSt : W.St 0 L.length ⟨bh, bs, bp⟩ w8 := ⟨(a1, c1), (a2, c2), hH8⟩
    repeat (first | first|apply cA|apply cB|apply cD|apply cE|apply cF|apply cG|apply cH|apply cJ|apply cN|refine cQ rfl ?_|apply cU|refine cV rfl rfl rfl rfl (by first|((first|apply qrm|apply qmi|apply qci|apply qcb|apply qn_z2|apply qep|apply qmv|apply qas|apply qlc|apply qla|apply qfa|apply qic|apply qix|apply qpk|apply qls|apply qni|apply qad|apply qln|apply qge|apply qxt|apply qsb|apply qep)<;>(first|exact rfl|assumption|exact Ar.mk (by omega)|exact dct (by first|assumption|omega)|exact dcf (by first|assumption|omega)|exact List.not_mem_nil|apply dc_length|apply hc_length|apply pc_length|apply prc_length|exact (Int.toNat_of_nonneg (by omega)).symm|fail))|fail) ?_ | refine cX rfl rfl ?_)
    refine dA rfl (by exact rho_of rfl) rfl ?_
    repeat (first|apply cA|apply cB|apply cD|apply cE|apply cF|apply cG|apply cH|apply cJ|apply cN|refine cQ rfl ?_|apply cU|refine cV rfl rfl rfl rfl (by first|((first|apply qrm|apply qmi|apply qci|apply qcb|apply qn_z2|apply qep|apply qmv|apply qas|apply qlc|apply qla|apply qfa|apply qic|apply qix|apply qpk|apply qls|apply qni|apply qad|apply qln|apply qge|apply qxt|apply qsb|apply qep)<;>(first|exact rfl|assumption|exact Ar.mk (by omega)|exact dct (by first|assumption|omega)|exact dcf (by first|assumption|omega)|exact List.not_mem_nil|apply dc_length|apply hc_length|apply pc_length|apply prc_length|exact (Int.toNat_of_nonneg (by omega)).symm|fail))|fail) ?_)
    refine SG.buildSlice rfl rfl rfl rfl (bsh1 ⟨bh, bs, bp⟩) (fun b9 w9 hk9 hb9 hB9 => ?_)
    have ho9 := own_kp0 ho8 hk9
    have k9 := (hk3.trans k38).trans hk9
    refine SG.appO (enc := hbc) (xs := L) (ys := [⟨bh, bs, bp⟩]) (base := w2.heap.size) rfl rfl rfl (by exact rho_of rfl) (by exact rho_of rfl) rfl rfl rfl rfl hbc_length hbc_one ho9 (sl_one hbc_length hB9) (by simp only [maxLen, List.length_cons, List.length_nil]; omega) (by show (L.length + 1) * 8 ≤ _; omega) k9.size (fun v' w10 hk10 ho10 _ => ?_)
    have hl : (L ++ [(⟨bh, bs, bp⟩ : Hb)]).length = L.length + 1 := by simp
    repeat (first|apply cA|apply cB|apply cD|apply cE|apply cF|apply cG|apply cH|apply cJ|apply cN|refine cQ rfl ?_|apply cU|refine cV rfl rfl rfl rfl (by first|((first|apply qrm|apply qmi|apply qci|apply qcb|apply qn_z2|apply qep|apply qmv|apply qas|apply qlc|apply qla|apply qfa|apply qic|apply qix|apply qpk|apply qls|apply qni|apply qad|apply qln|apply qge|apply qxt|apply qsb|apply qep)<;>(first|exact rfl|assumption|exact Ar.mk (by omega)|exact dct (by first|assumption|omega)|exact dcf (by first|assumption|omega)|exact List.not_mem_nil|apply dc_length|apply hc_length|apply pc_length|apply prc_length|exact (Int.toNat_of_nonneg (by omega)).symm|fail))|fail) ?_)
    refine NG.round (v', L ++ [⟨bh, bs, bp⟩]) ?_ ⟨by simp only; omega, k9.trans_new hk10 (own_new ho9 (Nat.le_refl _)), by simp only; exact ho10, ?_, hap.add (n := w3.heap.size) (fun i hi => ?_) gs gp, hnew.add (by show w2.heap.size ≤ bs; omega) (by show w2.heap.size ≤ bp; omega)⟩ (by simp only; omega)
    · simp only
      rw [hl]
      (repeat' (first | exact True.intro | exact rfl | refine And.intro ?_ ?_))
    · exact ((hHs8.kp0 hk9).own ho9 hk10).add ((hSt.kp0 hk9).own ho9 hk10)
    · obtain ⟨_, x1, x2⟩ := (hH i hi).ltb
      exact ⟨x1, x2⟩
  have hLN : L.length = N := by omega
  have g1 : ¬ (L.length : Int) < (N : Int) := by omega
  have hqn : (0 : Int) ≤ now ∧ now < 65536 := hn
  repeat (first|apply cA|apply cB|apply cD|apply cE|apply cF|apply cG|apply cH|apply cJ|apply cN|refine cQ rfl ?_|apply cU|refine cV rfl rfl rfl rfl (by first|((first|apply qrm|apply qmi|apply qci|apply qcb|apply qn_z2|apply qep|apply qmv|apply qas|apply qlc|apply qla|apply qfa|apply qic|apply qix|apply qpk|apply qls|apply qni|apply qad|apply qln|apply qge|apply qxt|apply qsb|apply qep)<;>(first|exact rfl|assumption|exact Ar.mk (by omega)|exact dct (by first|assumption|omega)|exact dcf (by first|assumption|omega)|exact List.not_mem_nil|apply dc_length|apply hc_length|apply pc_length|apply prc_length|exact (Int.toNat_of_nonneg (by omega)).symm|fail))|fail) ?_)
  refine dA rfl (by exact rho_of rfl) rfl ?_
  obtain ⟨a12, c12, rfl, _, hS3⟩ := Sl.own hbc_length ho rfl
  clear ho g1
  repeat (first|apply cA|apply cB|apply cD|apply cE|apply cF|apply cG|apply cH|apply cJ|apply cN|refine cQ rfl ?_|apply cU|refine cV rfl rfl rfl rfl (by first|((first|apply qrm|apply qmi|apply qci|apply qcb|apply qn_z2|apply qep|apply qmv|apply qas|apply qlc|apply qla|apply qfa|apply qic|apply qix|apply qpk|apply qls|apply qni|apply qad|apply qln|apply qge|apply qxt|apply qsb|apply qep)<;>(first|exact rfl|assumption|exact Ar.mk (by omega)|exact dct (by first|assumption|omega)|exact dcf (by first|assumption|omega)|exact List.not_mem_nil|apply dc_length|apply hc_length|apply pc_length|apply prc_length|exact (Int.toNat_of_nonneg (by omega)).symm|fail))|fail) ?_)
  refine CG.loop (X := Nat) (fun i => [(9, .int .i64 (N : Int)), (10, .int .i64 A), (11, .int .i64 V), (12, .slice a12 L.length c12), (13, .pointer (some ⟨b13, 0, none⟩)), (17, .int .i64 now), (18, .int .i64 (i : Int))])
    (fun i w' => i ≤ N ∧ Kp [] w2 w' ∧ Sl hbc 1 w' a12 L ∧ Hubs W (fun j => if j < i then 1 else 0) L w') (fun i => N - i) 0 ⟨Nat.zero_le _, hk3, hS3, hH.mono (fun i _ => by simp)⟩ (by (repeat' (first | exact True.intro | exact rfl | refine And.intro ?_ ?_))) ?_
  clear hS3 hH hi
  rintro i w4 ⟨hi, hk4, hS, hH⟩
  by_cases hlt : i < N
  · have g1 : (i : Int) < (N : Int) := by omega
    have hiL : i < L.length := by omega
    obtain ⟨b12, o12, rfl, hri⟩ := hS.at hiL
    obtain ⟨q, r, hHi⟩ := hH i hiL
    have hHi : HubAt w4 L[i].h L[i].s L[i].p 5 (W.ms 0 i q r) (W.mp 0 i) := by simpa using hHi
    obtain ⟨nw1, nw2⟩ := hnew i hiL
    have hne : dk i ≠ dk (i + 2) := Rt.ne hW (W := W) (i := i) hlt
    have hop := Rt.hop (W := W) hW hlt q r
    have hq13 := (Row.all hB13 rfl).kp0 hk4
    have hq13 : Row w4 b13 0 (dc nm77) := hq13
    have n1 := hq13.other (w' := w4) hHi.sh hHi.pr
    have n2 := hri.other (w' := w4) hHi.sh hHi.pr
    have hS' := hS
    generalize hB : L[i] = B at hri hHi nw1 nw2 n1 n2
    have hri : Row w4 b12 (o12 + i * 1) [.pointer (some ⟨B.h, 0, none⟩)] := hri
    have ls := hHi.sh.lt
    have lp := hHi.pr.lt
    repeat (first|apply cA|apply cB|apply cD|apply cE|apply cF|apply cG|apply cH|apply cJ|apply cN|refine cQ rfl ?_|apply cU|refine cV rfl rfl rfl rfl (by first|((first|apply qrm|apply qmi|apply qci|apply qcb|apply qn_z2|apply qep|apply qmv|apply qas|apply qlc|apply qla|apply qfa|apply qic|apply qix|apply qpk|apply qls|apply qni|apply qad|apply qln|apply qge|apply qxt|apply qsb|apply qep)<;>(first|exact rfl|assumption|exact Ar.mk (by omega)|exact dct (by first|assumption|omega)|exact dcf (by first|assumption|omega)|exact List.not_mem_nil|apply dc_length|apply hc_length|apply pc_length|apply prc_length|exact (Int.toNat_of_nonneg (by omega)).symm|fail))|fail) ?_)
    refine cZ rfl (by exact rho_of rfl) rfl ?_
    repeat (first|apply cA|apply cB|apply cD|apply cE|apply cF|apply cG|apply cH|apply cJ|apply cN|refine cQ rfl ?_|apply cU|refine cV rfl rfl rfl rfl (by first|((first|apply qrm|apply qmi|apply qci|apply qcb|apply qn_z2|apply qep|apply qmv|apply qas|apply qlc|apply qla|apply qfa|apply qic|apply qix|apply qpk|apply qls|apply qni|apply qad|apply qln|apply qge|apply qxt|apply qsb|apply qep)<;>(first|exact rfl|assumption|exact Ar.mk (by omega)|exact dct (by first|assumption|omega)|exact dcf (by first|assumption|omega)|exact List.not_mem_nil|apply dc_length|apply hc_length|apply pc_length|apply prc_length|exact (Int.toNat_of_nonneg (by omega)).symm|fail))|fail) ?_)
    refine CG.draw mixed [0, 1, 2, 3, 4, 5, 6, 7, 8, 9, 10, 11, 12, 13, 14, 15, 16] [15] [] [B.s, B.p] (HubR B.h B.s B.p 5 (W.ms 0 i q r) (W.mp 0 i)) (by kernel_rfl) (by intro y hy; simp at hy; omega) (by simp) hHi hubR_stab (Or.inl rfl) ?_
    repeat (refine cY rfl rfl rfl (by first|((first|apply qrm|apply qmi|apply qci|apply qcb|apply qn_z2|apply qep|apply qmv|apply qas|apply qlc|apply qla|apply qfa|apply qic|apply qix|apply qpk|apply qls|apply qni|apply qad|apply qln|apply qge|apply qxt|apply qsb|apply qep)<;>(first|exact rfl|assumption|exact Ar.mk (by omega)|exact dct (by first|assumption|omega)|exact dcf (by first|assumption|omega)|exact List.not_mem_nil|apply dc_length|apply hc_length|apply pc_length|apply prc_length|exact (Int.toNat_of_nonneg (by omega)).symm|fail))|fail) ?_)
    refine cY rfl rfl rfl (vals_build rfl (bd1 (UInt8.ofNat i))) ?_
    repeat (refine cY rfl rfl rfl (by first|((first|apply qrm|apply qmi|apply qci|apply qcb|apply qn_z2|apply qep|apply qmv|apply qas|apply qlc|apply qla|apply qfa|apply qic|apply qix|apply qpk|apply qls|apply qni|apply qad|apply qln|apply qge|apply qxt|apply qsb|apply qep)<;>(first|exact rfl|assumption|exact Ar.mk (by omega)|exact dct (by first|assumption|omega)|exact dcf (by first|assumption|omega)|exact List.not_mem_nil|apply dc_length|apply hc_length|apply pc_length|apply prc_length|exact (Int.toNat_of_nonneg (by omega)).symm|fail))|fail) ?_)
    refine cY rfl rfl rfl (vals_build rfl (bd1 (UInt8.ofNat (i + 2)))) ?_
    repeat (refine cY rfl rfl rfl (by first|((first|apply qrm|apply qmi|apply qci|apply qcb|apply qn_z2|apply qep|apply qmv|apply qas|apply qlc|apply qla|apply qfa|apply qic|apply qix|apply qpk|apply qls|apply qni|apply qad|apply qln|apply qge|apply qxt|apply qsb|apply qep)<;>(first|exact rfl|assumption|exact Ar.mk (by omega)|exact dct (by first|assumption|omega)|exact dcf (by first|assumption|omega)|exact List.not_mem_nil|apply dc_length|apply hc_length|apply pc_length|apply prc_length|exact (Int.toNat_of_nonneg (by omega)).symm|fail))|fail) ?_)
    refine Der.callGR (X := (Option Addr × Nat) × (Option Addr × Nat)) (vs := [.pointer (some ⟨B.h, 0, none⟩), .int .i64 now, dv (dk i), dv (dk (i + 2)), dv nm77, .int .i64 A, .int .i64 (W.til i)]) (fun _ => .int .i64 0) (fun _ _ => True) (fun u => HubR B.h B.s B.p 5 (W.ms 1 i u.1 u.2) (W.mp 1 i)) rfl rfl rfl rfl (by repeat' (first | exact True.intro | exact rho_of rfl | refine And.intro ?_ ?_)) (fun _ _ _ _ _ => trivial) (fun _ => hubR_stab) (fun _ _ _ h => h) (fun Wd _ _ hR => (forward_spec hR now (dk i) (dk (i + 2)) nm77 A (W.til i) (by decide) (fun x hx => ?_) (by have := hop.t1; omega)).mono (fun e w' hh => ?_)) (fun u => ?_)
    · simp only [Rt.ms, List.mem_cons, List.not_mem_nil, or_false] at hx
      rcases hx with rfl | rfl
      · exact ⟨(by decide : (0 : Int) ≤ 1), (by decide : (1 : Int) ≤ 1)⟩
      · exact ⟨(by decide : (0 : Int) ≤ 0), (by decide : (0 : Int) ≤ 1)⟩
    · have h0 : fwdE 5 (W.ms 0 i q r) (W.mp 0 i) now (dk i) (dk (i + 2)) nm77 A (W.til i) = 0 := hop.fwd
      rw [h0] at hh
      obtain ⟨he, ⟨h1, _⟩ | ⟨_, hk, x, y, a1, c1, a2, c2, hx, hy, hHw⟩⟩ := hh
      · exact absurd rfl h1
      · have ems : W.ms 0 i q r = [(dk i, ⟨twoP (dk i) 1000, q.1, q.2, 1⟩), (dk (i + 2), ⟨twoP (dk (i + 1)) 1000, r.1, r.2, 0⟩)] := rfl
        rw [ems] at hx hy hHw
        rw [(alook2 hne).1] at hx
        rw [(alook2 hne).2] at hy
        cases hx
        cases hy
        rw [aput2 hne] at hHw
        exact ⟨((a1, c1), (a2, c2)), he, trivial, hHw, hk⟩
    repeat (refine cY rfl rfl rfl (by first|((first|apply qrm|apply qmi|apply qci|apply qcb|apply qn_z2|apply qep|apply qmv|apply qas|apply qlc|apply qla|apply qfa|apply qic|apply qix|apply qpk|apply qls|apply qni|apply qad|apply qln|apply qge|apply qxt|apply qsb|apply qep)<;>(first|exact rfl|assumption|exact Ar.mk (by omega)|exact dct (by first|assumption|omega)|exact dcf (by first|assumption|omega)|exact List.not_mem_nil|apply dc_length|apply hc_length|apply pc_length|apply prc_length|exact (Int.toNat_of_nonneg (by omega)).symm|fail))|fail) ?_)
    refine Der.fin (fun w5 hk5 _ hH5 => ?_)
    clear hri hq13
    repeat (first|apply cA|apply cB|apply cD|apply cE|apply cF|apply cG|apply cH|apply cJ|apply cN|refine cQ rfl ?_|apply cU|refine cV rfl rfl rfl rfl (by first|((first|apply qrm|apply qmi|apply qci|apply qcb|apply qn_z2|apply qep|apply qmv|apply qas|apply qlc|apply qla|apply qfa|apply qic|apply qix|apply qpk|apply qls|apply qni|apply qad|apply qln|apply qge|apply qxt|apply qsb|apply qep)<;>(first|exact rfl|assumption|exact Ar.mk (by omega)|exact dct (by first|assumption|omega)|exact dcf (by first|assumption|omega)|exact List.not_mem_nil|apply dc_length|apply hc_length|apply pc_length|apply prc_length|exact (Int.toNat_of_nonneg (by omega)).symm|fail))|fail) ?_)
    refine dA rfl (by exact rho_of rfl) rfl ?_
    repeat (first|apply cA|apply cB|apply cD|apply cE|apply cF|apply cG|apply cH|apply cJ|apply cN|refine cQ rfl ?_|apply cU|refine cV rfl rfl rfl rfl (by first|((first|apply qrm|apply qmi|apply qci|apply qcb|apply qn_z2|apply qep|apply qmv|apply qas|apply qlc|apply qla|apply qfa|apply qic|apply qix|apply qpk|apply qls|apply qni|apply qad|apply qln|apply qge|apply qxt|apply qsb|apply qep)<;>(first|exact rfl|assumption|exact Ar.mk (by omega)|exact dct (by first|assumption|omega)|exact dcf (by first|assumption|omega)|exact List.not_mem_nil|apply dc_length|apply hc_length|apply pc_length|apply prc_length|exact (Int.toNat_of_nonneg (by omega)).symm|fail))|fail) ?_)
    refine NG.round (i + 1) (by (repeat' (first | exact True.intro | exact rfl | refine And.intro ?_ ?_))) ⟨by omega, hk4.trans_new hk5 (new2 (by omega) (by omega)), hS'.other hHi.sh hHi.pr hk5, hH.turn (f' := fun j => if j < i + 1 then 1 else 0) hap hiL (by rw [hB]; exact hk5) ?_ (fun j hj => ?_)⟩ (by omega)
    · simp only [Nat.lt_succ_self, if_true]
      rw [hB]
      exact ⟨_, _, hH5⟩
    · by_cases e : j < i
      · rw [if_pos e, if_pos (by omega)]
      · rw [if_neg e, if_neg (by omega)]
  have hiN : i = N := by omega
  subst hiN
  have g1 : ¬ (i : Int) < (i : Int) := by omega
  repeat (first|apply cA|apply cB|apply cD|apply cE|apply cF|apply cG|apply cH|apply cJ|apply cN|refine cQ rfl ?_|apply cU|refine cV rfl rfl rfl rfl (by first|((first|apply qrm|apply qmi|apply qci|apply qcb|apply qn_z2|apply qep|apply qmv|apply qas|apply qlc|apply qla|apply qfa|apply qic|apply qix|apply qpk|apply qls|apply qni|apply qad|apply qln|apply qge|apply qxt|apply qsb|apply qep)<;>(first|exact rfl|assumption|exact Ar.mk (by omega)|exact dct (by first|assumption|omega)|exact dcf (by first|assumption|omega)|exact List.not_mem_nil|apply dc_length|apply hc_length|apply pc_length|apply prc_length|exact (Int.toNat_of_nonneg (by omega)).symm|fail))|fail) ?_)
  refine dA rfl (by exact rho_of rfl) rfl ?_
  clear g1
  repeat (first|apply cA|apply cB|apply cD|apply cE|apply cF|apply cG|apply cH|apply cJ|apply cN|refine cQ rfl ?_|apply cU|refine cV rfl rfl rfl rfl (by first|((first|apply qrm|apply qmi|apply qci|apply qcb|apply qn_z2|apply qep|apply qmv|apply qas|apply qlc|apply qla|apply qfa|apply qic|apply qix|apply qpk|apply qls|apply qni|apply qad|apply qln|apply qge|apply qxt|apply qsb|apply qep)<;>(first|exact rfl|assumption|exact Ar.mk (by omega)|exact dct (by first|assumption|omega)|exact dcf (by first|assumption|omega)|exact List.not_mem_nil|apply dc_length|apply hc_length|apply pc_length|apply prc_length|exact (Int.toNat_of_nonneg (by omega)).symm|fail))|fail) ?_)
  refine CG.loop (X := Nat) (fun k => [(9, .int .i64 (i : Int)), (10, .int .i64 A), (11, .int .i64 V), (12, .slice a12 L.length c12), (13, .pointer (some ⟨b13, 0, none⟩)), (17, .int .i64 now), (20, .int .i64 ((k : Int) - 1))])
    (fun k w' => k ≤ i ∧ Kp [] w2 w' ∧ Sl hbc 1 w' a12 L ∧ Hubs W (fun j => if k ≤ j then 2 else 1) L w') (fun k => k) i ⟨Nat.le_refl _, hk4, hS, hH.mono (fun j hj => by rw [if_neg (by omega), if_pos (by omega)])⟩ (by (repeat' (first | exact True.intro | exact rfl | refine And.intro ?_ ?_))) ?_
  clear hS hH hk4 hi
  rintro k w4 ⟨hk, hk4, hS, hH⟩
  by_cases hk0 : 0 < k
  · obtain ⟨j, rfl⟩ : ∃ j, k = j + 1 := ⟨k - 1, by omega⟩
    have ez : (((j + 1 : Nat) : Int) - 1) = (j : Int) := by omega
    rw [ez]
    have g1 : (0 : Int) ≤ (j : Int) := by omega
    have hlt : j < i := by omega
    have hiL : j < L.length := by omega
    obtain ⟨b12, o12, rfl, hri⟩ := hS.at hiL
    obtain ⟨q, r, hHi⟩ := hH j hiL
    have hHi : HubAt w4 L[j].h L[j].s L[j].p 5 (W.ms (if j + 1 ≤ j then 2 else 1) j q r) (W.mp (if j + 1 ≤ j then 2 else 1) j) := hHi
    rw [if_neg (show ¬ j + 1 ≤ j by omega)] at hHi
    obtain ⟨hn0, hn1⟩ := hn
    have ht0 : 0 ≤ now + 5 * ((i : Int) - 1 - (j : Int)) + 3 := by omega
    have hva : V ≤ A := by omega
    obtain ⟨nw1, nw2⟩ := hnew j hiL
    have hne : dk j ≠ dk (j + 2) := Rt.ne hW (W := W) (i := j) hlt
    have hop := Rt.hop (W := W) hW hlt q r
    have hq13 := (Row.all hB13 rfl).kp0 hk4
    have hq13 : Row w4 b13 0 (dc nm77) := hq13
    have n1 := hq13.other (w' := w4) hHi.sh hHi.pr
    have n2 := hri.other (w' := w4) hHi.sh hHi.pr
    have hS' := hS
    generalize hB : L[j] = B at hri hHi nw1 nw2 n1 n2
    have hri : Row w4 b12 (o12 + j * 1) [.pointer (some ⟨B.h, 0, none⟩)] := hri
    have ls := hHi.sh.lt
    have lp := hHi.pr.lt
    have hti : W.til j = now + 5 * ((i : Int) - (j : Int)) + 3 := rfl
    repeat (first|apply cA|apply cB|apply cD|apply cE|apply cF|apply cG|apply cH|apply cJ|apply cN|refine cQ rfl ?_|apply cU|refine cV rfl rfl rfl rfl (by first|((first|apply qrm|apply qmi|apply qci|apply qcb|apply qn_z2|apply qep|apply qmv|apply qas|apply qlc|apply qla|apply qfa|apply qic|apply qix|apply qpk|apply qls|apply qni|apply qad|apply qln|apply qge|apply qxt|apply qsb|apply qep)<;>(first|exact rfl|assumption|exact Ar.mk (by omega)|exact dct (by first|assumption|omega)|exact dcf (by first|assumption|omega)|exact List.not_mem_nil|apply dc_length|apply hc_length|apply pc_length|apply prc_length|exact (Int.toNat_of_nonneg (by omega)).symm|fail))|fail) ?_)
    refine cZ rfl (by exact rho_of rfl) rfl ?_
    repeat (first|apply cA|apply cB|apply cD|apply cE|apply cF|apply cG|apply cH|apply cJ|apply cN|refine cQ rfl ?_|apply cU|refine cV rfl rfl rfl rfl (by first|((first|apply qrm|apply qmi|apply qci|apply qcb|apply qn_z2|apply qep|apply qmv|apply qas|apply qlc|apply qla|apply qfa|apply qic|apply qix|apply qpk|apply qls|apply qni|apply qad|apply qln|apply qge|apply qxt|apply qsb|apply qep)<;>(first|exact rfl|assumption|exact Ar.mk (by omega)|exact dct (by first|assumption|omega)|exact dcf (by first|assumption|omega)|exact List.not_mem_nil|apply dc_length|apply hc_length|apply pc_length|apply prc_length|exact (Int.toNat_of_nonneg (by omega)).symm|fail))|fail) ?_)
    refine CG.draw mixed [0, 1, 2, 3, 4, 5, 6, 7, 8, 9, 10, 11, 12, 13, 14, 15] [14] [] [B.s, B.p] (HubR B.h B.s B.p 5 (W.ms 1 j q r) (W.mp 1 j)) (by kernel_rfl) (by intro y hy; simp at hy; omega) (by simp) hHi hubR_stab (Or.inl rfl) ?_
    repeat (refine cY rfl rfl rfl (by first|((first|apply qrm|apply qmi|apply qci|apply qcb|apply qn_z2|apply qep|apply qmv|apply qas|apply qlc|apply qla|apply qfa|apply qic|apply qix|apply qpk|apply qls|apply qni|apply qad|apply qln|apply qge|apply qxt|apply qsb|apply qep)<;>(first|exact rfl|assumption|exact Ar.mk (by omega)|exact dct (by first|assumption|omega)|exact dcf (by first|assumption|omega)|exact List.not_mem_nil|apply dc_length|apply hc_length|apply pc_length|apply prc_length|exact (Int.toNat_of_nonneg (by omega)).symm|fail))|fail) ?_)
    refine Der.callGR (X := (Option Addr × Nat) × (Option Addr × Nat)) (vs := [.pointer (some ⟨B.h, 0, none⟩), .int .i64 (now + 5 * ((i : Int) - 1 - (j : Int)) + 3), dv nm77, .int .i64 V]) (fun _ => .int .i64 0) (fun _ _ => True) (fun u => HubR B.h B.s B.p 5 (W.ms 2 j u.1 u.2) (W.mp 2 j)) rfl rfl rfl rfl (by repeat' (first | exact True.intro | exact rho_of rfl | refine And.intro ?_ ?_)) (fun _ _ _ _ _ => trivial) (fun _ => hubR_stab) (fun _ _ _ h => h) (fun Wd _ _ hR => (settle_spec hR (now + 5 * ((i : Int) - 1 - (j : Int)) + 3) nm77 V ?_).mono (fun e w' hh => ?_)) (fun u => ?_)
    · intro r0 hr0
      have hr0 : alook [(nm77, fwdR 5 (dk j) (dk (j + 2)) nm77 A (W.til j))] nm77 = some r0 := hr0
      simp [alook] at hr0
      subst hr0
      exact ⟨⟨_, (alook2 hne).1⟩, ⟨_, (alook2 hne).2⟩, hne⟩
    · have h0 : setE (W.ms 1 j q r) (W.mp 1 j) (now + 5 * ((i : Int) - 1 - (j : Int)) + 3) nm77 V = 0 := hop.set (t := now + 5 * ((i : Int) - 1 - (j : Int)) + 3) (over := V) ht0 (by rw [hti]; omega) ho2.1 hva q.1 r.1 q.2 r.2
      rw [h0] at hh
      obtain ⟨he, ⟨h1, _⟩ | ⟨_, hk, r0, x, y, a1, c1, a2, c2, hr0, hx, hy, hHw⟩⟩ := hh
      · exact absurd rfl h1
      · have hr0 : r0 = fwdR 5 (dk j) (dk (j + 2)) nm77 A (W.til j) := by
          have hr0 : alook [(nm77, fwdR 5 (dk j) (dk (j + 2)) nm77 A (W.til j))] nm77 = some r0 := hr0
          simpa [alook] using hr0.symm
        subst hr0
        have ems : W.ms 1 j q r = [(dk j, ⟨W.fX j, q.1, q.2, 1⟩), (dk (j + 2), ⟨W.fY j, r.1, r.2, 0⟩)] := rfl
        have emp : W.mp 1 j = [(nm77, fwdR 5 (dk j) (dk (j + 2)) nm77 A (W.til j))] := rfl
        rw [ems] at hx hy hHw
        rw [emp] at hHw
        have hx : x = _ := (Option.some.inj ((alook2 hne).1.symm.trans hx)).symm
        have hy : y = _ := (Option.some.inj ((alook2 hne).2.symm.trans hy)).symm
        subst hx
        subst hy
        simp only [fwdR] at hHw
        rw [aput2' hne, filt1] at hHw
        exact ⟨((a2, c2), (a1, c1)), he, trivial, hHw, hk⟩
    repeat (refine cY rfl rfl rfl (by first|((first|apply qrm|apply qmi|apply qci|apply qcb|apply qn_z2|apply qep|apply qmv|apply qas|apply qlc|apply qla|apply qfa|apply qic|apply qix|apply qpk|apply qls|apply qni|apply qad|apply qln|apply qge|apply qxt|apply qsb|apply qep)<;>(first|exact rfl|assumption|exact Ar.mk (by omega)|exact dct (by first|assumption|omega)|exact dcf (by first|assumption|omega)|exact List.not_mem_nil|apply dc_length|apply hc_length|apply pc_length|apply prc_length|exact (Int.toNat_of_nonneg (by omega)).symm|fail))|fail) ?_)
    refine Der.fin (fun w5 hk5 _ hH5 => ?_)
    clear hri hq13
    repeat (first|apply cA|apply cB|apply cD|apply cE|apply cF|apply cG|apply cH|apply cJ|apply cN|refine cQ rfl ?_|apply cU|refine cV rfl rfl rfl rfl (by first|((first|apply qrm|apply qmi|apply qci|apply qcb|apply qn_z2|apply qep|apply qmv|apply qas|apply qlc|apply qla|apply qfa|apply qic|apply qix|apply qpk|apply qls|apply qni|apply qad|apply qln|apply qge|apply qxt|apply qsb|apply qep)<;>(first|exact rfl|assumption|exact Ar.mk (by omega)|exact dct (by first|assumption|omega)|exact dcf (by first|assumption|omega)|exact List.not_mem_nil|apply dc_length|apply hc_length|apply pc_length|apply prc_length|exact (Int.toNat_of_nonneg (by omega)).symm|fail))|fail) ?_)
    refine dA rfl (by exact rho_of rfl) rfl ?_
    repeat (first|apply cA|apply cB|apply cD|apply cE|apply cF|apply cG|apply cH|apply cJ|apply cN|refine cQ rfl ?_|apply cU|refine cV rfl rfl rfl rfl (by first|((first|apply qrm|apply qmi|apply qci|apply qcb|apply qn_z2|apply qep|apply qmv|apply qas|apply qlc|apply qla|apply qfa|apply qic|apply qix|apply qpk|apply qls|apply qni|apply qad|apply qln|apply qge|apply qxt|apply qsb|apply qep)<;>(first|exact rfl|assumption|exact Ar.mk (by omega)|exact dct (by first|assumption|omega)|exact dcf (by first|assumption|omega)|exact List.not_mem_nil|apply dc_length|apply hc_length|apply pc_length|apply prc_length|exact (Int.toNat_of_nonneg (by omega)).symm|fail))|fail) ?_)
    refine NG.round j (by (repeat' (first | exact True.intro | exact rfl | refine And.intro ?_ ?_))) ⟨by omega, hk4.trans_new hk5 (new2 (by omega) (by omega)), hS'.other hHi.sh hHi.pr hk5, hH.turn (f' := fun m => if j ≤ m then 2 else 1) hap hiL (by rw [hB]; exact hk5) ?_ (fun m hm => ?_)⟩ (by omega)
    · simp only [Nat.le_refl, if_true]
      rw [hB]
      exact ⟨_, _, hH5⟩
    · by_cases e : j ≤ m
      · rw [if_pos e, if_pos (by omega)]
      · rw [if_neg e, if_neg (by omega)]
  have hk00 : k = 0 := by omega
  subst hk00
  have g1 : ¬ (0 : Int) ≤ ((0 : Nat) : Int) - 1 := by omega
  repeat (first|apply cA|apply cB|apply cD|apply cE|apply cF|apply cG|apply cH|apply cJ|apply cN|refine cQ rfl ?_|apply cU|refine cV rfl rfl rfl rfl (by first|((first|apply qrm|apply qmi|apply qci|apply qcb|apply qn_z2|apply qep|apply qmv|apply qas|apply qlc|apply qla|apply qfa|apply qic|apply qix|apply qpk|apply qls|apply qni|apply qad|apply qln|apply qge|apply qxt|apply qsb|apply qep)<;>(first|exact rfl|assumption|exact Ar.mk (by omega)|exact dct (by first|assumption|omega)|exact dcf (by first|assumption|omega)|exact List.not_mem_nil|apply dc_length|apply hc_length|apply pc_length|apply prc_length|exact (Int.toNat_of_nonneg (by omega)).symm|fail))|fail) ?_)
  refine dA rfl (by exact rho_of rfl) rfl ?_
  have hH : Hubs W (fun _ => 2) L w4 := hH.mono (fun _ _ => by simp)
  clear g1 hk hk0
  obtain ⟨b12, o12, rfl, hr0⟩ := hS.at (i := 0) (by omega)
  obtain ⟨q0, r0, hH0⟩ := hH 0 (by omega)
  generalize hB0 : L[0] = B0 at hr0 hH0
  have hr0 : Row w4 b12 (o12 + 0 * 1) [.pointer (some ⟨B0.h, 0, none⟩)] := hr0
  have hne0 : dk 0 ≠ dk (0 + 2) := Rt.ne hW (W := W) (i := 0) (by show 0 < i; omega)
  have hLz : (0 : Int) < (L.length : Int) := by omega
  repeat (first|apply cA|apply cB|apply cD|apply cE|apply cF|apply cG|apply cH|apply cJ|apply cN|refine cQ rfl ?_|apply cU|refine cV rfl rfl rfl rfl (by first|((first|apply qrm|apply qmi|apply qci|apply qcb|apply qn_z2|apply qep|apply qmv|apply qas|apply qlc|apply qla|apply qfa|apply qic|apply qix|apply qpk|apply qls|apply qni|apply qad|apply qln|apply qge|apply qxt|apply qsb|apply qep)<;>(first|exact rfl|assumption|exact Ar.mk (by omega)|exact dct (by first|assumption|omega)|exact dcf (by first|assumption|omega)|exact List.not_mem_nil|apply dc_length|apply hc_length|apply pc_length|apply prc_length|exact (Int.toNat_of_nonneg (by omega)).symm|fail))|fail) ?_)
  refine cV rfl rfl rfl rfl (vals_build rfl (bd1 0)) ?_
  refine SG.call rfl rfl rfl (vs := [.pointer (some ⟨B0.h, 0, none⟩), dv (dk 0)]) (by repeat' (first | exact True.intro | exact rho_of rfl | refine And.intro ?_ ?_)) ((purse_some hH0 (dk 0) (alook2 hne0).1 (hH0.at' _ List.mem_cons_self) (hH0.few _ List.mem_cons_self)).mono (fun e w5 hh => ?_))
  obtain ⟨v, he, ⟨s21, rfl, ho21⟩, hk5⟩ := hh
  refine ⟨_, he, ?_⟩
  obtain ⟨a21, c21, rfl, _, _⟩ := Sl.own hc_length ho21 rfl
  clear hr0
  repeat (first|apply cA|apply cB|apply cD|apply cE|apply cF|apply cG|apply cH|apply cJ|apply cN|refine cQ rfl ?_|apply cU|refine cV rfl rfl rfl rfl (by first|((first|apply qrm|apply qmi|apply qci|apply qcb|apply qn_z2|apply qep|apply qmv|apply qas|apply qlc|apply qla|apply qfa|apply qic|apply qix|apply qpk|apply qls|apply qni|apply qad|apply qln|apply qge|apply qxt|apply qsb|apply qep)<;>(first|exact rfl|assumption|exact Ar.mk (by omega)|exact dct (by first|assumption|omega)|exact dcf (by first|assumption|omega)|exact List.not_mem_nil|apply dc_length|apply hc_length|apply pc_length|apply prc_length|exact (Int.toNat_of_nonneg (by omega)).symm|fail))|fail) ?_)
  refine SG.alloc rfl rfl rfl (fun b21 w6 hk6 hb21 hB21 => ?_)
  refine SG.setAll rfl rfl (by exact rho_of rfl) (by exact rho_of rfl) hB21 (pc_length _ _) rfl (pc_one _ _ _ _) (fun w7 hk7 hB21 => ?_)
  have k47 : Kp [] w4 w7 := hk5.trans (hk6.trans_new hk7 (new1 (by omega)))
  have q21 := pc_have hB21
  obtain ⟨⟨_, _, f2, f3⟩, _⟩ := Rt.fin (W := W) hW (i := 0) (by show 0 < i; omega)
  have f2 : (W.pX 2 0).h0 = 1000 - V := f2
  have f3 : (W.pX 2 0).h1 = 1000 + V := f3
  have q21 : Row w7 b21 9 (zc2 ((W.pX 2 0).h0, (W.pX 2 0).h1)) := q21
  rw [f2, f3] at q21
  have hS7 := hS.kp0 k47
  have hH7 := hH.kp0 k47
  have hzi : ((i : Int) - 1).toNat = i - 1 := by omega
  have hrl := (hS7.at (i := i - 1) (by omega))
  obtain ⟨b12', o12', e12, hrl⟩ := hrl
  cases e12
  obtain ⟨ql, rl, hHl⟩ := hH7 (i - 1) (by omega)
  generalize hBl : L[i - 1]'(by omega) = Bl at hrl hHl
  have hrl : Row w7 b12 (o12 + ((i : Int) - 1).toNat * 1) [.pointer (some ⟨Bl.h, 0, none⟩)] := by rw [hzi]; exact hrl
  have hnel : dk (i - 1) ≠ dk (i - 1 + 2) := Rt.ne hW (W := W) (i := i - 1) (by show i - 1 < i; omega)
  have ekl : i - 1 + 2 = i + 1 := by omega
  have hlk : alook (W.ms 2 (i - 1) ql rl) (dk (i + 1)) = some ⟨W.pY 2 (i - 1), rl.1, rl.2, 0⟩ := by rw [← ekl]; exact (alook2 hnel).2
  have hLz2 : (i : Int) - 1 < (L.length : Int) := by omega
  have hz0 : (0 : Int) ≤ (i : Int) - 1 := by omega
  repeat (first|apply cA|apply cB|apply cD|apply cE|apply cF|apply cG|apply cH|apply cJ|apply cN|refine cQ rfl ?_|apply cU|refine cV rfl rfl rfl rfl (by first|((first|apply qrm|apply qmi|apply qci|apply qcb|apply qn_z2|apply qep|apply qmv|apply qas|apply qlc|apply qla|apply qfa|apply qic|apply qix|apply qpk|apply qls|apply qni|apply qad|apply qln|apply qge|apply qxt|apply qsb|apply qep)<;>(first|exact rfl|assumption|exact Ar.mk (by omega)|exact dct (by first|assumption|omega)|exact dcf (by first|assumption|omega)|exact List.not_mem_nil|apply dc_length|apply hc_length|apply pc_length|apply prc_length|exact (Int.toNat_of_nonneg (by omega)).symm|fail))|fail) ?_)
  refine cV rfl rfl rfl rfl (vals_build rfl (bd1 (UInt8.ofNat (i + 1)))) ?_
  refine SG.call rfl rfl rfl (vs := [.pointer (some ⟨Bl.h, 0, none⟩), dv (dk (i + 1))]) (by repeat' (first | exact True.intro | exact rho_of rfl | refine And.intro ?_ ?_)) ((purse_some hHl (dk (i + 1)) hlk (hHl.at' _ (alook_mem hlk)) (hHl.few _ (alook_mem hlk))).mono (fun e w8 hh => ?_))
  obtain ⟨v, he, ⟨s23, rfl, ho23⟩, hk8⟩ := hh
  refine ⟨_, he, ?_⟩
  obtain ⟨a23, c23, rfl, _, _⟩ := Sl.own hc_length ho23 rfl
  clear hrl
  repeat (first|apply cA|apply cB|apply cD|apply cE|apply cF|apply cG|apply cH|apply cJ|apply cN|refine cQ rfl ?_|apply cU|refine cV rfl rfl rfl rfl (by first|((first|apply qrm|apply qmi|apply qci|apply qcb|apply qn_z2|apply qep|apply qmv|apply qas|apply qlc|apply qla|apply qfa|apply qic|apply qix|apply qpk|apply qls|apply qni|apply qad|apply qln|apply qge|apply qxt|apply qsb|apply qep)<;>(first|exact rfl|assumption|exact Ar.mk (by omega)|exact dct (by first|assumption|omega)|exact dcf (by first|assumption|omega)|exact List.not_mem_nil|apply dc_length|apply hc_length|apply pc_length|apply prc_length|exact (Int.toNat_of_nonneg (by omega)).symm|fail))|fail) ?_)
  refine SG.alloc rfl rfl rfl (fun b23 w9 hk9 hb23 hB23 => ?_)
  refine SG.setAll rfl rfl (by exact rho_of rfl) (by exact rho_of rfl) hB23 (pc_length _ _) rfl (pc_one _ _ _ _) (fun w10 hk10 hB23 => ?_)
  have k710 : Kp [] w7 w10 := hk8.trans (hk9.trans_new hk10 (new1 (by omega)))
  have q23 := pc_have hB23
  obtain ⟨_, ⟨_, _, f4, f5⟩⟩ := Rt.fin (W := W) hW (i := i - 1) (by show i - 1 < i; omega)
  have f4 : (W.pY 2 (i - 1)).h0 = 1000 - V := f4
  have f5 : (W.pY 2 (i - 1)).h1 = 1000 + V := f5
  have q23 : Row w10 b23 9 (zc2 ((W.pY 2 (i - 1)).h0, (W.pY 2 (i - 1)).h1)) := q23
  rw [f4, f5] at q23
  have q21 := q21.kp0 k710
  have hS10 := hS7.kp0 k710
  have hH10 := hH7.kp0 k710
  have fit : Z2.Fit (1000 - V, 1000 + V) := ⟨⟨by omega, by omega⟩, ⟨by omega, by omega⟩⟩
  have heq : ((1000 - V, 1000 + V) : Z2) = (1000 - V, 1000 + V) := rfl
  repeat (first | first|apply cA|apply cB|apply cD|apply cE|apply cF|apply cG|apply cH|apply cJ|apply cN|refine cQ rfl ?_|apply cU|refine cV rfl rfl rfl rfl (by first|((first|apply qrm|apply qmi|apply qci|apply qcb|apply qn_z2|apply qep|apply qmv|apply qas|apply qlc|apply qla|apply qfa|apply qic|apply qix|apply qpk|apply qls|apply qni|apply qad|apply qln|apply qge|apply qxt|apply qsb|apply qep)<;>(first|exact rfl|assumption|exact Ar.mk (by omega)|exact dct (by first|assumption|omega)|exact dcf (by first|assumption|omega)|exact List.not_mem_nil|apply dc_length|apply hc_length|apply pc_length|apply prc_length|exact (Int.toNat_of_nonneg (by omega)).symm|fail))|fail) ?_ | refine cX rfl rfl ?_)
  refine cV rfl rfl rfl rfl (vals_build rfl (bz2 (1000 - V) (1000 + V))) ?_
  repeat (first | first|apply cA|apply cB|apply cD|apply cE|apply cF|apply cG|apply cH|apply cJ|apply cN|refine cQ rfl ?_|apply cU|refine cV rfl rfl rfl rfl (by first|((first|apply qrm|apply qmi|apply qci|apply qcb|apply qn_z2|apply qep|apply qmv|apply qas|apply qlc|apply qla|apply qfa|apply qic|apply qix|apply qpk|apply qls|apply qni|apply qad|apply qln|apply qge|apply qxt|apply qsb|apply qep)<;>(first|exact rfl|assumption|exact Ar.mk (by omega)|exact dct (by first|assumption|omega)|exact dcf (by first|assumption|omega)|exact List.not_mem_nil|apply dc_length|apply hc_length|apply pc_length|apply prc_length|exact (Int.toNat_of_nonneg (by omega)).symm|fail))|fail) ?_ | refine cX rfl rfl ?_)
  refine cV rfl rfl rfl rfl (vals_build rfl (bz2 (1000 - V) (1000 + V))) ?_
  repeat (first | first|apply cA|apply cB|apply cD|apply cE|apply cF|apply cG|apply cH|apply cJ|apply cN|refine cQ rfl ?_|apply cU|refine cV rfl rfl rfl rfl (by first|((first|apply qrm|apply qmi|apply qci|apply qcb|apply qn_z2|apply qep|apply qmv|apply qas|apply qlc|apply qla|apply qfa|apply qic|apply qix|apply qpk|apply qls|apply qni|apply qad|apply qln|apply qge|apply qxt|apply qsb|apply qep)<;>(first|exact rfl|assumption|exact Ar.mk (by omega)|exact dct (by first|assumption|omega)|exact dcf (by first|assumption|omega)|exact List.not_mem_nil|apply dc_length|apply hc_length|apply pc_length|apply prc_length|exact (Int.toNat_of_nonneg (by omega)).symm|fail))|fail) ?_ | refine cX rfl rfl ?_)
  refine dA rfl (by exact rho_of rfl) rfl ?_
  have k10 := (hk4.trans k47).trans k710
  clear q21 q23 heq hk5 hk6 hk7 hk8 hk9 hk10 hLz hLz2 hz0 hS7 hH7 hS hH hH0 hHl
  repeat (first|apply cA|apply cB|apply cD|apply cE|apply cF|apply cG|apply cH|apply cJ|apply cN|refine cQ rfl ?_|apply cU|refine cV rfl rfl rfl rfl (by first|((first|apply qrm|apply qmi|apply qci|apply qcb|apply qn_z2|apply qep|apply qmv|apply qas|apply qlc|apply qla|apply qfa|apply qic|apply qix|apply qpk|apply qls|apply qni|apply qad|apply qln|apply qge|apply qxt|apply qsb|apply qep)<;>(first|exact rfl|assumption|exact Ar.mk (by omega)|exact dct (by first|assumption|omega)|exact dcf (by first|assumption|omega)|exact List.not_mem_nil|apply dc_length|apply hc_length|apply pc_length|apply prc_length|exact (Int.toNat_of_nonneg (by omega)).symm|fail))|fail) ?_)
  refine CG.loop (X := Nat) (fun k => [(9, .int .i64 (i : Int)), (12, .slice (some ⟨b12, o12, none⟩) L.length c12), (25, .int .i64 (k : Int))]) (fun k w' => k ≤ i ∧ Kp [] w10 w') (fun k => i - k) 0 ⟨Nat.zero_le _, Kp.refl _ _⟩ (by (repeat' (first | exact True.intro | exact rfl | refine And.intro ?_ ?_))) ?_
  rintro k w11 ⟨hk, hk11⟩
  by_cases hlt : k < i
  · have g1 : (k : Int) < (i : Int) := by omega
    have hkL : k < L.length := by omega
    obtain ⟨b12', o12', e12, hri⟩ := (hS10.kp0 hk11).at hkL
    cases e12
    obtain ⟨q, r, hHi⟩ := hH10 k hkL
    have hHi := hHi.kp0 hk11
    generalize hB : L[k] = B at hri hHi
    have hri : Row w11 b12 (o12 + k * 1) [.pointer (some ⟨B.h, 0, none⟩)] := hri
    obtain ⟨y1, y2, y3⟩ := Rt.worth (W := W) hW (i := k) hlt q r
    have hw := worth_spec hHi (by show 2 ≤ 16; decide) y1
    rw [y2, y3] at hw
    repeat (first|apply cA|apply cB|apply cD|apply cE|apply cF|apply cG|apply cH|apply cJ|apply cN|refine cQ rfl ?_|apply cU|refine cV rfl rfl rfl rfl (by first|((first|apply qrm|apply qmi|apply qci|apply qcb|apply qn_z2|apply qep|apply qmv|apply qas|apply qlc|apply qla|apply qfa|apply qic|apply qix|apply qpk|apply qls|apply qni|apply qad|apply qln|apply qge|apply qxt|apply qsb|apply qep)<;>(first|exact rfl|assumption|exact Ar.mk (by omega)|exact dct (by first|assumption|omega)|exact dcf (by first|assumption|omega)|exact List.not_mem_nil|apply dc_length|apply hc_length|apply pc_length|apply prc_length|exact (Int.toNat_of_nonneg (by omega)).symm|fail))|fail) ?_)
    refine cZ rfl (by exact rho_of rfl) rfl ?_
    repeat (first|apply cA|apply cB|apply cD|apply cE|apply cF|apply cG|apply cH|apply cJ|apply cN|refine cQ rfl ?_|apply cU|refine cV rfl rfl rfl rfl (by first|((first|apply qrm|apply qmi|apply qci|apply qcb|apply qn_z2|apply qep|apply qmv|apply qas|apply qlc|apply qla|apply qfa|apply qic|apply qix|apply qpk|apply qls|apply qni|apply qad|apply qln|apply qge|apply qxt|apply qsb|apply qep)<;>(first|exact rfl|assumption|exact Ar.mk (by omega)|exact dct (by first|assumption|omega)|exact dcf (by first|assumption|omega)|exact List.not_mem_nil|apply dc_length|apply hc_length|apply pc_length|apply prc_length|exact (Int.toNat_of_nonneg (by omega)).symm|fail))|fail) ?_)
    refine SG.ret rfl rfl rfl (vs := [.pointer (some ⟨B.h, 0, none⟩)]) (by repeat' (first | exact True.intro | exact rho_of rfl | refine And.intro ?_ ?_)) hw (fun w12 hk12 => ?_)
    have hri2 := hri.kp0 hk12
    clear hri
    repeat (first | first|apply cA|apply cB|apply cD|apply cE|apply cF|apply cG|apply cH|apply cJ|apply cN|refine cQ rfl ?_|apply cU|refine cV rfl rfl rfl rfl (by first|((first|apply qrm|apply qmi|apply qci|apply qcb|apply qn_z2|apply qep|apply qmv|apply qas|apply qlc|apply qla|apply qfa|apply qic|apply qix|apply qpk|apply qls|apply qni|apply qad|apply qln|apply qge|apply qxt|apply qsb|apply qep)<;>(first|exact rfl|assumption|exact Ar.mk (by omega)|exact dct (by first|assumption|omega)|exact dcf (by first|assumption|omega)|exact List.not_mem_nil|apply dc_length|apply hc_length|apply pc_length|apply prc_length|exact (Int.toNat_of_nonneg (by omega)).symm|fail))|fail) ?_ | refine cX rfl rfl ?_)
    refine SG.call rfl rfl rfl (vs := [.pointer (some ⟨B.h, 0, none⟩)]) (by repeat' (first | exact True.intro | exact rho_of rfl | refine And.intro ?_ ?_)) ((pairs_spec (hHi.kp0 hk12) (by show 0 ≤ 1000; decide)).mono (fun e w13 hh => ?_))
    obtain ⟨v, he, ho, hk13⟩ := hh
    refine ⟨v, he, ?_⟩
    have ho : w13.ownsRow w12.heap.size 54 27 v 0 (flt prc []) := ho
    obtain ⟨a, c, rfl, _, _⟩ := Sl.own prc_length ho rfl
    clear hri2
    repeat (first | first|apply cA|apply cB|apply cD|apply cE|apply cF|apply cG|apply cH|apply cJ|apply cN|refine cQ rfl ?_|apply cU|refine cV rfl rfl rfl rfl (by first|((first|apply qrm|apply qmi|apply qci|apply qcb|apply qn_z2|apply qep|apply qmv|apply qas|apply qlc|apply qla|apply qfa|apply qic|apply qix|apply qpk|apply qls|apply qni|apply qad|apply qln|apply qge|apply qxt|apply qsb|apply qep)<;>(first|exact rfl|assumption|exact Ar.mk (by omega)|exact dct (by first|assumption|omega)|exact dcf (by first|assumption|omega)|exact List.not_mem_nil|apply dc_length|apply hc_length|apply pc_length|apply prc_length|exact (Int.toNat_of_nonneg (by omega)).symm|fail))|fail) ?_ | refine cX rfl rfl ?_)
    refine dA rfl (by exact rho_of rfl) rfl ?_
    repeat (first|apply cA|apply cB|apply cD|apply cE|apply cF|apply cG|apply cH|apply cJ|apply cN|refine cQ rfl ?_|apply cU|refine cV rfl rfl rfl rfl (by first|((first|apply qrm|apply qmi|apply qci|apply qcb|apply qn_z2|apply qep|apply qmv|apply qas|apply qlc|apply qla|apply qfa|apply qic|apply qix|apply qpk|apply qls|apply qni|apply qad|apply qln|apply qge|apply qxt|apply qsb|apply qep)<;>(first|exact rfl|assumption|exact Ar.mk (by omega)|exact dct (by first|assumption|omega)|exact dcf (by first|assumption|omega)|exact List.not_mem_nil|apply dc_length|apply hc_length|apply pc_length|apply prc_length|exact (Int.toNat_of_nonneg (by omega)).symm|fail))|fail) ?_)
    refine NG.round (k + 1) (by (repeat' (first | exact True.intro | exact rfl | refine And.intro ?_ ?_))) ⟨by omega, (hk11.trans hk12).trans hk13⟩ (by omega)
  have g1 : ¬ (k : Int) < (i : Int) := by omega
  repeat (first|apply cA|apply cB|apply cD|apply cE|apply cF|apply cG|apply cH|apply cJ|apply cN|refine cQ rfl ?_|apply cU|refine cV rfl rfl rfl rfl (by first|((first|apply qrm|apply qmi|apply qci|apply qcb|apply qn_z2|apply qep|apply qmv|apply qas|apply qlc|apply qla|apply qfa|apply qic|apply qix|apply qpk|apply qls|apply qni|apply qad|apply qln|apply qge|apply qxt|apply qsb|apply qep)<;>(first|exact rfl|assumption|exact Ar.mk (by omega)|exact dct (by first|assumption|omega)|exact dcf (by first|assumption|omega)|exact List.not_mem_nil|apply dc_length|apply hc_length|apply pc_length|apply prc_length|exact (Int.toNat_of_nonneg (by omega)).symm|fail))|fail) ?_)
  refine dA rfl (by exact rho_of rfl) rfl ?_
  repeat (first|apply cA|apply cB|apply cD|apply cE|apply cF|apply cG|apply cH|apply cJ|apply cN|refine cQ rfl ?_|apply cU|refine cV rfl rfl rfl rfl (by first|((first|apply qrm|apply qmi|apply qci|apply qcb|apply qn_z2|apply qep|apply qmv|apply qas|apply qlc|apply qla|apply qfa|apply qic|apply qix|apply qpk|apply qls|apply qni|apply qad|apply qln|apply qge|apply qxt|apply qsb|apply qep)<;>(first|exact rfl|assumption|exact Ar.mk (by omega)|exact dct (by first|assumption|omega)|exact dcf (by first|assumption|omega)|exact List.not_mem_nil|apply dc_length|apply hc_length|apply pc_length|apply prc_length|exact (Int.toNat_of_nonneg (by omega)).symm|fail))|fail) ?_)
  refine SG.ret rfl rfl rfl (vs := []) (by repeat' (first | exact True.intro | exact rho_of rfl | refine And.intro ?_ ?_)) (known_spec w11) (fun w12 hk12 => ?_)
  repeat (first|apply cA|apply cB|apply cD|apply cE|apply cF|apply cG|apply cH|apply cJ|apply cN|refine cQ rfl ?_|apply cU|refine cV rfl rfl rfl rfl (by first|((first|apply qrm|apply qmi|apply qci|apply qcb|apply qn_z2|apply qep|apply qmv|apply qas|apply qlc|apply qla|apply qfa|apply qic|apply qix|apply qpk|apply qls|apply qni|apply qad|apply qln|apply qge|apply qxt|apply qsb|apply qep)<;>(first|exact rfl|assumption|exact Ar.mk (by omega)|exact dct (by first|assumption|omega)|exact dcf (by first|assumption|omega)|exact List.not_mem_nil|apply dc_length|apply hc_length|apply pc_length|apply prc_length|exact (Int.toNat_of_nonneg (by omega)).symm|fail))|fail) ?_)
  refine ret1 (Or.inl rfl) Try.results3 (by first | exact ResV.tmp rfl | exact ResV.agg rfl rfl (by assumption) (by first | exact dc_length _ | exact nc_length _ | exact rc_length _ _ _ | exact ec_length _ | exact dl_length _ _ _ _ | rfl) | exact ResV.cell rfl rfl (by assumption)) ?_
  exact ⟨rfl, ((k2.trans k10).trans hk11).trans hk12⟩
end Go.Proofs.Ytajllbdeoopimaa

namespace Go.Proofs.Ytajllbdeoopimaa
open Go.ChangeShapes Go.WideShapes Go.ChangeAt Go.RowKit
set_option linter.unusedVariables false
set_option maxRecDepth 100000 in
theorem hubHops_lifted (os : Os) (started : os.Started) (H : Type) (enc : TypeId × Value → H) :
    ReturnsInHanded {} Try.checked os 3 .any (Rows.hubHopsSpec.pre6 enc Try.prog Try.f3 Rows.hubHopsRow.domain false) (Rows.hubHopsSpec.post enc Try.prog Try.f3 false true false false) := by
  refine returnsInHanded_of_change (C := Try.checked) own started (by kernel_rfl) Try.func3
    (ChangeSpec.witness6 (enc := enc) (C := Try.checked) false ⟨#[], #[.int .u8 0, .int .u16 0, .int .u16 0, .int .u16 0], []⟩ 8 (by kernel_rfl) (by kernel_rfl) (by kernel_rfl) (by kernel_rfl)) ?_
  intro W base args ds gs before hval0 hW hcnd _
  have hval : ∀ (j : Nat) t v, Try.f3.params[j]? = some t → args[j]? = some v → Value.okWide Try.prog W .any base t v := hval0
  have hW' : DataW.Whole enc Try.prog Try.f3.params.toList Rows.hubHopsSpec.vars false W args.toList ds gs before := hW
  obtain ⟨p, q, hA0, hV, rfl, hfz, hnd⟩ := hW
  have hA : DataW.TrodAll enc Try.prog W 0 (fun _ => true) true Try.f3.params.toList args.toList ds p := hA0
  rw [Try.params3] at hA hval
  obtain ⟨v0, v1, v2, v3, d0, d1, d2, d3, p0, p1, p2, p3, rfl, rfl, rfl, h0, h1, h2, h3⟩ := trodAll_four hA
  obtain ⟨x0, rfl, hd0, _, wf0⟩ := open_int Try.underlying5 (hval 0 5 v0 rfl rfl) h0
  obtain ⟨u0, rfl⟩ := byte_of wf0
  obtain ⟨x1, rfl, hd1, _, wf1⟩ := open_int Try.underlying22 (hval 1 22 v1 rfl rfl) h1
  obtain ⟨x2, rfl, hd2, _, wf2⟩ := open_int Try.underlying22 (hval 2 22 v2 rfl rfl) h2
  obtain ⟨x3, rfl, hd3, _, wf3⟩ := open_int Try.underlying22 (hval 3 22 v3 rfl rfl) h3
  refine (hops_walk W u0 x1 x2 x3 (u16_of wf1) (u16_of wf2) (u16_of wf3)).mono fun e W' ⟨he, hk⟩ => ⟨_, he, ?_⟩
  exact law_post laidOut (by rw [Try.params3]; exact of_decide_eq_true (by kernel_rfl)) rfl hW' rfl (by kernel_rfl) Try.underlying4 hk
theorem hubHops_holds : Rows.HubHopsSaid :=
  OpenClaim.holds_of_wide 3 Try.f3 rfl rfl rfl rfl rfl rfl rfl ⟨rfl, rfl, rfl, rfl, rfl⟩ rfl rfl rfl rfl rfl (by kernel_rfl) Try.func3 (by kernel_rfl)
    (of_decide_eq_true (by kernel_rfl)) (by unfold Func.isWrapper; first | (rw [if_pos (by decide +kernel)]; kernel_rfl) | (rw [if_neg (by decide +kernel)]; exact ⟨rfl, rfl⟩))
    (fun os started H enc _ => hubHops_lifted os started H enc)
end Go.Proofs.Ytajllbdeoopimaa
