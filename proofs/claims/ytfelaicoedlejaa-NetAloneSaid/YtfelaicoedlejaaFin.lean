/-
  Entering a function, coming out of it.
-/
import Derived.Test.YtfelaicoedlejaaBytes
namespace Go.Proofs.Ytfelaicoedlejaa
set_option linter.unusedVariables false

section
variable {P : Program} {n : Nat} {Q : Exit → Act → World → Prop} {L : Env} {w : World}

def argEnv : Nat → List Value → Env
  | _, [] => []
  | i, v :: vs => (i, v) :: argEnv (i + 1) vs
theorem look_argEnv : ∀ (vs : List Value) (i t : Nat) (v : Value), look (argEnv i vs) t = some v → i ≤ t ∧ vs[t - i]? = some v
  | [], i, t, v, h => by simp [argEnv, look] at h
  | u :: vs, i, t, v, h => by
    simp only [argEnv] at h
    by_cases e : i = t
    · subst e
      rw [look_here] at h
      cases h
      simp
    · rw [look_ne e] at h
      obtain ⟨h1, h2⟩ := look_argEnv vs (i + 1) t v h
      refine ⟨by omega, ?_⟩
      have : t - i = (t - (i + 1)) + 1 := by omega
      rw [this, List.getElem?_cons_succ]
      exact h2
theorem enterL {f : FuncId} {fn : Func} {c : Code} {args : List Value} {R : Ending → World → Prop} (hf : P.funcs[f]? = some fn) (hb : fn.body = some c) (hn : fn.ntmps = n) (hm : Nat.ble args.length n = true)
    (h : CG P n c (bodyPost P fn R) (argEnv 0 args) w) : Calls P f args.toArray w R :=
  enter hf hb n hn (by simpa [Nat.ble_eq] using hm) (argEnv 0 args) (fun t v hv => by
    have := (look_argEnv args 0 t v hv).2
    simpa using this) h
theorem enter0 {f : FuncId} {fn : Func} {c : Code} {R : Ending → World → Prop} (hf : P.funcs[f]? = some fn) (hb : fn.body = some c) (hn : fn.ntmps = n)
    (h : CG P n c (bodyPost P fn R) [] w) : Calls P f #[] w R := enterL (args := []) hf hb hn rfl h
theorem enter1 {f : FuncId} {fn : Func} {c : Code} {a : Value} {R : Ending → World → Prop} (hf : P.funcs[f]? = some fn) (hb : fn.body = some c) (hn : fn.ntmps = n) (hm : Nat.ble 1 n = true)
    (h : CG P n c (bodyPost P fn R) [(0, a)] w) : Calls P f #[a] w R := enterL (args := [a]) hf hb hn hm h
theorem enter2 {f : FuncId} {fn : Func} {c : Code} {a b : Value} {R : Ending → World → Prop} (hf : P.funcs[f]? = some fn) (hb : fn.body = some c) (hn : fn.ntmps = n) (hm : Nat.ble 2 n = true)
    (h : CG P n c (bodyPost P fn R) [(0, a), (1, b)] w) : Calls P f #[a, b] w R := enterL (args := [a, b]) hf hb hn hm h
theorem enter3 {f : FuncId} {fn : Func} {c : Code} {a b d : Value} {R : Ending → World → Prop} (hf : P.funcs[f]? = some fn) (hb : fn.body = some c) (hn : fn.ntmps = n) (hm : Nat.ble 3 n = true)
    (h : CG P n c (bodyPost P fn R) [(0, a), (1, b), (2, d)] w) : Calls P f #[a, b, d] w R := enterL (args := [a, b, d]) hf hb hn hm h
theorem enter4 {f : FuncId} {fn : Func} {c : Code} {a b d e : Value} {R : Ending → World → Prop} (hf : P.funcs[f]? = some fn) (hb : fn.body = some c) (hn : fn.ntmps = n) (hm : Nat.ble 4 n = true)
    (h : CG P n c (bodyPost P fn R) [(0, a), (1, b), (2, d), (3, e)] w) : Calls P f #[a, b, d, e] w R := enterL (args := [a, b, d, e]) hf hb hn hm h
theorem enter5 {f : FuncId} {fn : Func} {c : Code} {a b d e g : Value} {R : Ending → World → Prop} (hf : P.funcs[f]? = some fn) (hb : fn.body = some c) (hn : fn.ntmps = n) (hm : Nat.ble 5 n = true)
    (h : CG P n c (bodyPost P fn R) [(0, a), (1, b), (2, d), (3, e), (4, g)] w) : Calls P f #[a, b, d, e, g] w R := enterL (args := [a, b, d, e, g]) hf hb hn hm h

/-- One result's value. -/
def ResV (P : Program) (L : Env) (w : World) : ResultVar → Value → Prop
  | .tmp t, v => look L t = some v
  | .cell a T, v => ∃ ad, look L a = some (.pointer (some ad)) ∧ (loadVar T ad).run P w = .ok v w
def ResVs (P : Program) (L : Env) (w : World) : List ResultVar → List Value → Prop
  | [], [] => True
  | r :: rs, v :: vs => ResV P L w r v ∧ ResVs P L w rs vs
  | _, _ => False

theorem run_results {f : ResultVar → Sem Value} (hf : ∀ r v, ResV P L w r v → (f r).run P w = .ok v w) : ∀ (rs : List ResultVar) (vs : List Value), ResVs P L w rs vs → (rs.mapM f).run P w = .ok vs w
  | [], [], _ => rfl
  | [], _ :: _, h => h.elim
  | _ :: _, [], h => h.elim
  | r :: rs, v :: vs, ⟨h1, h2⟩ => by
    simp only [List.mapM_cons, Sem.run_bind, Sem.run_pure, Result.andThen, hf r v h1, run_results hf rs vs h2]

def retVal : List Value → Value
  | [v] => v
  | vs => .tuple vs.toArray
theorem ret_any {fn : Func} {R : Ending → World → Prop} {e : Exit} (he : e = .ret ∨ e = .normal) {rs : List ResultVar} (hrs : fn.results = rs.toArray) {vs : List Value} (h : ResVs P L w rs vs) (hR : R (.returned (retVal vs)) w) : NG n e (bodyPost P fn R) L w := by
  intro a ha
  have hrun : (results fn a.tmps).run P w = .ok (retVal vs) w := by
    unfold results
    rw [hrs]
    simp only [List.mapM_toArray, ← bind_pure_comp, Sem.run_bind, Result.andThen, Sem.run_pure]
    rw [run_results (P := P) (L := L) (w := w) ?_ rs vs h]
    rotate_left
    · intro r v hr
      cases r with
      | tmp t =>
        have := ha.slot t v hr
        simp [Array.getD_eq_getD_getElem?, this]
      | cell x t =>
        obtain ⟨ad, hl, hr⟩ := hr
        have := ha.slot x _ hl
        have hg : a.tmps.getD x undef = .pointer (some ad) := by simp [Array.getD_eq_getD_getElem?, this]
        have ha' : (asAddr (a.tmps.getD x undef)).run P w = .ok ad w := by rw [hg]; rfl
        simp only [Sem.run_bind, Result.andThen, ha', hr]
    cases vs with
    | nil => rfl
    | cons v vs =>
      cases vs with
      | nil => rfl
      | cons u vs => simp [retVal]
  rcases he with rfl | rfl
  · exact ⟨ha.defers, _, hrun, hR⟩
  · exact ⟨ha.defers, _, hrun, hR⟩
theorem ResV.tmp {t : Nat} {v : Value} (h : look L t = some v) : ResV P L w (.tmp t) v := h
theorem ResV.agg {t : Nat} {T : TypeId} {d : TypeDesc} {i : TypeInfo} [u : Ut P T d] [f : Inf P T i] {b off : Nat} {l : List Value} (h : look L t = some (.pointer (some ⟨b, off, none⟩))) (ha : aggB d = true) (hr : Row w b off l) (hl : l.length = i.size) : ResV P L w (.cell t T) (.agg l.toArray) := by
  refine ⟨_, h, ?_⟩
  have := run_loadAt_agg (P := P) (u := u) (f := f) ha hr hl
  simpa [Instr.loadAt, Instr.sureAddr] using this
theorem ResV.cell {t : Nat} {T : TypeId} {d : TypeDesc} [u : Ut P T d] {b off : Nat} {v : Value} (h : look L t = some (.pointer (some ⟨b, off, none⟩))) (ha : aggB d = false) (hr : Row w b off [v]) : ResV P L w (.cell t T) v := by
  refine ⟨_, h, ?_⟩
  have := run_loadAt_cell (P := P) (u := u) ha hr
  simpa [Instr.loadAt, Instr.sureAddr] using this
theorem ret0 {fn : Func} {R : Ending → World → Prop} {e : Exit} (he : e = .ret ∨ e = .normal) (hrs : fn.results = #[]) (hR : R (.returned (.tuple #[])) w) : NG n e (bodyPost P fn R) L w := ret_any he (rs := []) (vs := []) hrs True.intro hR
theorem ret1 {fn : Func} {R : Ending → World → Prop} {e : Exit} (he : e = .ret ∨ e = .normal) {r : ResultVar} (hrs : fn.results = #[r]) {v : Value} (h : ResV P L w r v) (hR : R (.returned v) w) : NG n e (bodyPost P fn R) L w := ret_any he (rs := [r]) (vs := [v]) hrs ⟨h, True.intro⟩ hR
theorem ret2 {fn : Func} {R : Ending → World → Prop} {e : Exit} (he : e = .ret ∨ e = .normal) {r r' : ResultVar} (hrs : fn.results = #[r, r']) {v v' : Value} (h : ResV P L w r v) (h' : ResV P L w r' v') (hR : R (.returned (.tuple #[v, v'])) w) : NG n e (bodyPost P fn R) L w := ret_any he (rs := [r, r']) (vs := [v, v']) hrs ⟨h, h', True.intro⟩ hR
theorem ret3 {fn : Func} {R : Ending → World → Prop} {e : Exit} (he : e = .ret ∨ e = .normal) {r r' r'' : ResultVar} (hrs : fn.results = #[r, r', r'']) {v v' v'' : Value} (h : ResV P L w r v) (h' : ResV P L w r' v') (h'' : ResV P L w r'' v'') (hR : R (.returned (.tuple #[v, v', v''])) w) : NG n e (bodyPost P fn R) L w := ret_any he (rs := [r, r', r'']) (vs := [v, v', v'']) hrs ⟨h, h', h'', True.intro⟩ hR
theorem CG.cond_t {c : Operand} {x y : Code} {b : Bool} (hk : known L c = true) (hc : rho L c = .bool b) (hb : b = true) (h : CG P n x Q L w) : CG P n (.cond c x y) Q L w := CG.cond hk hc (fun _ => h) (fun e => by rw [hb] at e; cases e)
theorem CG.cond_f {c : Operand} {x y : Code} {b : Bool} (hk : known L c = true) (hc : rho L c = .bool b) (hb : b = false) (h : CG P n y Q L w) : CG P n (.cond c x y) Q L w := CG.cond hk hc (fun e => by rw [hb] at e; cases e) (fun _ => h)
/-- Only the slots in ks are kept; L' is what they hold. -/
theorem CG.prune {c : Code} (ks : List Nat) {L' : Env} (he : kept ks L = L') (h : CG P n c Q L' w) : CG P n c Q L w := CG.keep ks (he ▸ h)
theorem NG.prune {e : Exit} (ks : List Nat) {L' : Env} (he : kept ks L = L') (h : NG n e Q L' w) : NG n e Q L w := NG.keep ks (he ▸ h)
end
end Go.Proofs.Ytfelaicoedlejaa
