/-
  Code over environments: sequences, tests, loops, returns; regions in text order.
-/
import Derived.Test.YtfelaicoedlejaaSound5
namespace Go.Proofs.Ytfelaicoedlejaa
set_option linter.unusedVariables false

section
variable {P : Program} {n : Nat} {Q : Exit → Act → World → Prop} {L : Env} {w : World}

/-- The code, begun with slots as L says, in w. -/
def CG (P : Program) (n : Nat) (c : Code) (Q : Exit → Act → World → Prop) (L : Env) (w : World) : Prop := ∀ a, Fits n a L → c.wp P Q a w
/-- What stands behind, by the exit e. -/
def NG (n : Nat) (e : Exit) (Q : Exit → Act → World → Prop) (L : Env) (w : World) : Prop := ∀ a, Fits n a L → Q e a w

theorem enter {f : FuncId} {fn : Func} {c : Code} {args : Array Value} {R : Ending → World → Prop} (hf : P.funcs[f]? = some fn) (hb : fn.body = some c) (m : Nat) (hn : fn.ntmps = m) (hm : args.size ≤ m)
    (L : Env) (hL : ∀ t v, look L t = some v → args[t]? = some v) (h : CG P m c (bodyPost P fn R) L w) : Calls P f args w R := by
  refine calls_of_wp hf hb (h _ ⟨fun t v hv => ?_, ?_, rfl⟩)
  · have := hL t v hv
    have hlt : t < args.size := (Array.getElem?_eq_some_iff.1 this).1
    simp [Array.getElem?_append_left hlt, this]
  · simp [hn]; omega

theorem CG.keep {c : Code} (ks : List Nat) (h : CG P n c Q (kept ks L) w) : CG P n c Q L w := fun a ha => h a (ha.keep ks)
theorem NG.keep {e : Exit} (ks : List Nat) (h : NG n e Q (kept ks L) w) : NG n e Q L w := fun a ha => h a (ha.keep ks)
theorem CG.sub {c : Code} {L' : Env} (h : CG P n c Q L' w) (hs : ∀ t v, look L' t = some v → look L t = some v) : CG P n c Q L w := fun a ha => h a (ha.sub hs)
theorem CG.skip (h : NG n .normal Q L w) : CG P n .skip Q L w := fun a ha => wp_skip (h a ha)
theorem CG.label {l : Nat} (h : NG n .normal Q L w) : CG P n (.label l) Q L w := fun a ha => wp_label (h a ha)
theorem CG.exit {id : Nat} (h : NG n (.exit id) Q L w) : CG P n (.exit id) Q L w := fun a ha => wp_exit (h a ha)
theorem CG.ret (h : NG n .ret Q L w) : CG P n .ret Q L w := fun a ha => wp_ret (h a ha)
theorem CG.seq {x y : Code} (h : CG P n x (Exit.then (y.wp P Q) Q) L w) : CG P n (.seq x y) Q L w := fun a ha => wp_seq (h a ha)
theorem CG.block {id : Nat} {c : Code} (h : CG P n c (Exit.inBlock id Q) L w) : CG P n (.block id c) Q L w := fun a ha => wp_block (h a ha)
theorem CG.scope {c : Code} (h : CG P n c (Exit.noGoto Q) L w) : CG P n (.scope c) Q L w := fun a ha => wp_scope_straight (h a ha)
theorem CG.cond {c : Operand} {x y : Code} {b : Bool} (hk : known L c = true) (hc : rho L c = .bool b) (h1 : b = true → CG P n x Q L w) (h2 : b = false → CG P n y Q L w) : CG P n (.cond c x y) Q L w :=
  fun a ha => wp_cond_split (t := b) (by rw [ha.eval hk, hc]) (fun h => h1 h a ha) (fun h => h2 h a ha)

/-- A cut: what is known behind x. -/
theorem CG.seq_cut {x y : Code} (M : Env → World → Prop) (h : CG P n x (Exit.then (fun a w => ∃ L, Fits n a L ∧ M L w) Q) L w) (h2 : ∀ L w, M L w → CG P n y Q L w) : CG P n (.seq x y) Q L w := by
  refine CG.seq (fun a ha => wp_mono (h a ha) (fun e a w hq => ?_))
  cases e <;> first | exact hq | (obtain ⟨L, h1, h2'⟩ := hq; exact h2 L w h2' a h1)
theorem NG.cut {M : Env → World → Prop} (h : M L w) : NG n .normal (Exit.then (fun a w => ∃ L, Fits n a L ∧ M L w) Q) L w := fun a ha => ⟨L, ha, h⟩

theorem NG.next {y : Code} (h : CG P n y Q L w) : NG n .normal (Exit.then (y.wp P Q) Q) L w := h
theorem NG.exit_then {K : Act → World → Prop} {id : Nat} (h : NG n (.exit id) Q L w) : NG n (.exit id) (Exit.then K Q) L w := h
theorem NG.ret_then {K : Act → World → Prop} (h : NG n .ret Q L w) : NG n .ret (Exit.then K Q) L w := h
theorem NG.ret_block {id : Nat} (h : NG n .ret Q L w) : NG n .ret (Exit.inBlock id Q) L w := h
theorem NG.normal_block {id : Nat} (h : NG n .normal Q L w) : NG n .normal (Exit.inBlock id Q) L w := h
theorem NG.exit_block {id id' : Nat} (hid : Nat.beq id id' = true) (h : NG n .normal Q L w) : NG n (.exit id) (Exit.inBlock id' Q) L w := fun a ha => by
  simp only [Exit.inBlock, Nat.eq_of_beq_eq_true hid, if_true]; exact h a ha
theorem NG.exit_other {id id' : Nat} (hid : Nat.beq id id' = false) (h : NG n (.exit id) Q L w) : NG n (.exit id) (Exit.inBlock id' Q) L w := fun a ha => by
  simp only [Exit.inBlock]; rw [if_neg (Nat.ne_of_beq_eq_false hid)]; exact h a ha
theorem NG.ret_scope (h : NG n .ret Q L w) : NG n .ret (Exit.noGoto Q) L w := h
theorem NG.normal_scope (h : NG n .normal Q L w) : NG n .normal (Exit.noGoto Q) L w := h
theorem NG.exit_scope {id : Nat} (h : NG n (.exit id) Q L w) : NG n (.exit id) (Exit.noGoto Q) L w := h

/-! loops -/
theorem exists_least {X : Type} (p : X → Prop) (μ : X → Nat) (h : ∃ x, p x) : ∃ x, p x ∧ ∀ y, p y → μ x ≤ μ y := by
  obtain ⟨x, hx⟩ := h
  have : ∀ m (x : X), p x → μ x = m → ∃ x, p x ∧ ∀ y, p y → μ x ≤ μ y := by
    intro m
    induction m using Nat.strongRecOn with
    | _ m ih =>
      intro x hx hm
      by_cases hy : ∃ y, p y ∧ μ y < μ x
      · obtain ⟨y, hy, hlt⟩ := hy
        exact ih (μ y) (by omega) y hy rfl
      · refine ⟨x, hx, fun y hpy => ?_⟩
        by_cases h : μ x ≤ μ y
        · exact h
        · exact absurd ⟨y, hpy, by omega⟩ hy
  exact this _ x hx rfl

open Classical in
noncomputable def leastOf {X : Type} (p : X → Prop) (μ : X → Nat) : Nat := if h : ∃ x, p x then μ (Classical.choose (exists_least p μ h)) else 0
theorem leastOf_le {X : Type} {p : X → Prop} {μ : X → Nat} {x : X} (hx : p x) : leastOf p μ ≤ μ x := by
  unfold leastOf
  have h : ∃ x, p x := ⟨x, hx⟩
  rw [dif_pos h]
  exact (Classical.choose_spec (exists_least p μ h)).2 x hx
theorem leastOf_at {X : Type} {p : X → Prop} {μ : X → Nat} (h : ∃ x, p x) : ∃ x, p x ∧ leastOf p μ = μ x := by
  unfold leastOf
  rw [dif_pos h]
  exact ⟨_, (Classical.choose_spec (exists_least p μ h)).1, rfl⟩

def SubE : Env → Env → Prop
  | [], _ => True
  | (s, v) :: M, L => look L s = some v ∧ SubE M L
theorem SubE.look : ∀ {M L : Env}, SubE M L → ∀ t v, look M t = some v → Go.Proofs.Ytfelaicoedlejaa.look L t = some v
  | [], _, _, t, v, h => by simp [Go.Proofs.Ytfelaicoedlejaa.look] at h
  | (s, u) :: M, L, hs, t, v, h => by
    by_cases e : s = t
    · subst e
      rw [look_here] at h
      cases h
      exact hs.1
    · rw [look_ne e] at h
      exact SubE.look hs.2 t v h
theorem NG.sub {e : Exit} (L' : Env) (hs : SubE L' L) (h : NG n e Q L' w) : NG n e Q L w := fun a ha => h a (ha.sub hs.look)
theorem CG.to {c : Code} (L' : Env) (hs : SubE L' L) (h : CG P n c Q L' w) : CG P n c Q L w := fun a ha => h a (ha.sub hs.look)
/-- A loop: X says where it stands; Lx, Wx what is known there; μ falls. -/
theorem CG.loop {X : Type} {c : Code} (Lx : X → Env) (Wx : X → World → Prop) (μ : X → Nat) (x0 : X) (h0 : Wx x0 w) (hL : SubE (Lx x0) L)
    (h : ∀ x w, Wx x w → CG P n c (Exit.then (fun a w => ∃ x', Fits n a (Lx x') ∧ Wx x' w ∧ μ x' < μ x) Q) (Lx x) w) : CG P n (.loop c) Q L w := by
  intro a ha
  refine wp_loop (fun a w => ∃ x, Fits n a (Lx x) ∧ Wx x w) (fun a w => leastOf (fun x => Fits n a (Lx x) ∧ Wx x w) μ) ⟨x0, ha.sub hL.look, h0⟩ ?_
  intro a w hI
  obtain ⟨x, ⟨hf, hw⟩, hm⟩ := leastOf_at (μ := μ) hI
  rw [hm]
  refine wp_mono (h x w hw a hf) (fun e a' w' hq => ?_)
  cases e <;> first | exact hq | skip
  obtain ⟨x', h1, h2, h3⟩ := hq
  exact ⟨⟨x', h1, h2⟩, Nat.lt_of_le_of_lt (leastOf_le ⟨h1, h2⟩) h3⟩
theorem NG.round {X : Type} {Lx : X → Env} {Wx : X → World → Prop} {μ : X → Nat} {x : X} (x' : X) (hL : SubE (Lx x') L) (hw : Wx x' w) (hμ : μ x' < μ x) :
    NG n .normal (Exit.then (fun a w => ∃ x', Fits n a (Lx x') ∧ Wx x' w ∧ μ x' < μ x) Q) L w := fun a ha => ⟨x', ha.sub hL.look, hw, hμ⟩

/-! a region in text order -/
def SG (P : Program) (n : Nat) (ops : List Oper) (Q : Exit → Act → World → Prop) (rest : List Oper) (L : Env) (w : World) : Prop := ∀ a, Fits n a L → wpList P ops.toArray Q rest a w

theorem CG.region {id : Nat} {ops : List Oper} (h : SG P n ops Q ops L w) : CG P n (.region id ops.toArray false) Q L w := fun a ha => wp_region_lit (h a ha)
theorem SG.nil {ops : List Oper} (h : NG n .normal Q L w) : SG P n ops Q [] L w := fun a ha => wpList_nil (h a ha)

theorem SG.op {ops : List Oper} {o : Oper} {rest : List Oper} (hd : o.dst.all (fun d => Nat.blt d n) = true) (hs : isSelect o.op = false) (hw : want ops L o = some true) (hk : o.op.operands.toList.all (known L) = true)
    (hr : OpRun P (rho L) o w (fun v w' => SG P n ops Q rest (addD o.dst v L) w')) : SG P n ops Q (o :: rest) L w := by
  intro a ha
  have hlk : ∀ t ∈ lks ops o, ∀ v, look L t = some v → a.tmps[t]? = some v := fun t _ v hv => ha.slot t v hv
  have hwn := wanted_of hlk hw
  refine wpList_step (fun K hK => ?_)
  rw [if_pos hwn]
  refine (OpRun.congr hs (eval_of hlk hk) hr).wp (fun v w' hsg => hK _ _ (hsg _ ?_))
  cases hdd : o.dst with
  | none => exact ha
  | some d =>
    rw [hdd] at hd
    exact ha.put d v (by simpa [Nat.blt_eq] using hd)
theorem SG.skip {ops : List Oper} {o : Oper} {rest : List Oper} (hd : o.dst.all (fun d => Nat.blt d n) = true) (hw : want ops L o = some false)
    (hr : SG P n ops Q rest (addD o.dst undef L) w) : SG P n ops Q (o :: rest) L w := by
  intro a ha
  have hlk : ∀ t ∈ lks ops o, ∀ v, look L t = some v → a.tmps[t]? = some v := fun t _ v hv => ha.slot t v hv
  have hwn := wanted_of hlk hw
  refine wpList_step (fun K hK => ?_)
  rw [if_neg (by rw [hwn]; simp)]
  refine hK _ _ (hr _ ?_)
  cases hdd : o.dst with
  | none => exact ha
  | some d =>
    rw [hdd] at hd
    exact ha.put d undef (by simpa [Nat.blt_eq] using hd)

/-! operations that only look -/
/-- The value, in every world that keeps w0's blocks but S and in which F holds; the world stays. -/
def Vals (P : Program) (S : List Nat) (w0 : World) (F : World → Prop) (L : Env) (o : Oper) (v : Value) : Prop := ∀ w, Kp S w0 w → F w → (execOp (rho L) o).run P w = .ok (.value v) w

theorem Der.val {S : List Nat} {w0 : World} {ops : List Oper} {gh : List Nat} {K : Env → (World → Prop) → (World → Prop) → Prop} {i : Nat} {ord : List Nat} {F R : World → Prop} {d : Nat} {op : Op} {ty : TypeId} {pos : String} {af : Array Edge} {g : Option (Nat × Bool)} {v : Value}
    (ho : ops[i]? = some ⟨some d, op, ty, pos, af, g⟩) (hw : want ops L ⟨some d, op, ty, pos, af, g⟩ = some true) (hk : op.operands.toList.all (known L) = true) (hv : Vals P S w0 F L ⟨some d, op, ty, pos, af, g⟩ v)
    (hd : Der P S w0 ops gh K ord ((d, v) :: L) F R) : Der P S w0 ops gh K (i :: ord) L F R :=
  ⟨_, ho, Or.inr (Or.inl ⟨hw, v, ⟨hk, fun w hkp hF => by unfold OpRun; rw [hv w hkp hF]; exact ⟨rfl, Kp.refl _ _⟩⟩, hd⟩)⟩
theorem Der.skip {S : List Nat} {w0 : World} {ops : List Oper} {gh : List Nat} {K : Env → (World → Prop) → (World → Prop) → Prop} {i : Nat} {ord : List Nat} {F R : World → Prop} {d : Nat} {op : Op} {ty : TypeId} {pos : String} {af : Array Edge} {g : Option (Nat × Bool)}
    (ho : ops[i]? = some ⟨some d, op, ty, pos, af, g⟩) (hw : want ops L ⟨some d, op, ty, pos, af, g⟩ = some false)
    (hd : Der P S w0 ops gh K ord ((d, undef) :: L) F R) : Der P S w0 ops gh K (i :: ord) L F R :=
  ⟨_, ho, Or.inl ⟨hw, hd⟩⟩
/-- An operation with a fixed value that may make blocks: a call, mostly. -/
theorem Der.run {S : List Nat} {w0 : World} {ops : List Oper} {gh : List Nat} {K : Env → (World → Prop) → (World → Prop) → Prop} {i : Nat} {ord : List Nat} {F R : World → Prop} {d : Nat} {op : Op} {ty : TypeId} {pos : String} {af : Array Edge} {g : Option (Nat × Bool)} (v : Value)
    (ho : ops[i]? = some ⟨some d, op, ty, pos, af, g⟩) (hw : want ops L ⟨some d, op, ty, pos, af, g⟩ = some true) (hk : op.operands.toList.all (known L) = true) (hv : ∀ w, Kp S w0 w → F w → OpRun P (rho L) ⟨some d, op, ty, pos, af, g⟩ w (fun v' w' => v' = v ∧ Kp [] w w'))
    (hd : Der P S w0 ops gh K ord ((d, v) :: L) F R) : Der P S w0 ops gh K (i :: ord) L F R :=
  ⟨_, ho, Or.inr (Or.inl ⟨hw, v, ⟨hk, hv⟩, hd⟩)⟩
theorem Der.ghost {S : List Nat} {w0 : World} {ops : List Oper} {gh : List Nat} {K : Env → (World → Prop) → (World → Prop) → Prop} {i : Nat} {ord : List Nat} {F R : World → Prop} {o : Oper} {X : Type} (val : X → Value) (F' R' : X → World → Prop)
    (ho : ops[i]? = some o) (hw : want ops L o = some true) (hg : gh.elem i = true) (hk : o.op.operands.toList.all (known L) = true) (hF : ∀ x, Stab S (F' x)) (hR : ∀ x, Stab [] (R' x))
    (hFs : Stab S F) (hv : ∀ w, Kp S w0 w → F w → R w → OpRun P (rho L) o w (fun v w' => ∃ x, v = val x ∧ F' x w' ∧ R' x w' ∧ Kp S w w'))
    (hd : ∀ x, Der P S w0 ops gh K ord (addD o.dst (val x) L) (fun w => F w ∧ F' x w) (R' x)) : Der P S w0 ops gh K (i :: ord) L F R :=
  ⟨_, ho, Or.inr (Or.inr (Or.inr ⟨hw, by rw [List.elem_eq_mem] at hg; exact of_decide_eq_true hg, X, val, F', R', ⟨hk, hF, hR, fun w h1 h2 h3 => (hv w h1 h2 h3).mono (fun v w' ⟨x, g1, g2, g3, g4⟩ => ⟨x, g1, ⟨hFs _ _ g4 h2, g2⟩, g3, h1.trans g4⟩)⟩, hd⟩))⟩
/-- An operation that looks at the resource. -/
theorem Der.valR {S : List Nat} {w0 : World} {ops : List Oper} {gh : List Nat} {K : Env → (World → Prop) → (World → Prop) → Prop} {i : Nat} {ord : List Nat} {F R : World → Prop} {d : Nat} {op : Op} {ty : TypeId} {pos : String} {af : Array Edge} {g : Option (Nat × Bool)} {v : Value}
    (ho : ops[i]? = some ⟨some d, op, ty, pos, af, g⟩) (hw : want ops L ⟨some d, op, ty, pos, af, g⟩ = some true) (hg : gh.elem (i + 1000) = true) (hk : op.operands.toList.all (known L) = true) (hv : ∀ w, Kp S w0 w → F w → R w → (execOp (rho L) ⟨some d, op, ty, pos, af, g⟩).run P w = .ok (.value v) w)
    (hd : Der P S w0 ops gh K ord ((d, v) :: L) F R) : Der P S w0 ops gh K (i :: ord) L F R :=
  ⟨_, ho, Or.inr (Or.inr (Or.inl ⟨hw, by rw [List.elem_eq_mem] at hg; exact of_decide_eq_true hg, v, ⟨hk, fun w hkp hF hR => by unfold OpRun; rw [hv w hkp hF hR]; exact ⟨rfl, Kp.refl _ _⟩⟩, hd⟩))⟩
/-- .. that may turn what the region itself has made. -/
theorem Der.ghostN {S : List Nat} {w0 : World} {ops : List Oper} {gh : List Nat} {K : Env → (World → Prop) → (World → Prop) → Prop} {i : Nat} {ord : List Nat} {F R : World → Prop} {o : Oper} {X : Type} (val : X → Value) (F' R' : X → World → Prop)
    (ho : ops[i]? = some o) (hw : want ops L o = some true) (hg : gh.elem i = true) (hk : o.op.operands.toList.all (known L) = true) (hF : ∀ x, Stab S (F' x)) (hR : ∀ x, Stab [] (R' x))
    (hv : ∀ w, Kp S w0 w → F w → R w → OpRun P (rho L) o w (fun v w' => ∃ x, v = val x ∧ (F w' ∧ F' x w') ∧ R' x w' ∧ Kp S w0 w'))
    (hd : ∀ x, Der P S w0 ops gh K ord (addD o.dst (val x) L) (fun w => F w ∧ F' x w) (R' x)) : Der P S w0 ops gh K (i :: ord) L F R :=
  ⟨_, ho, Or.inr (Or.inr (Or.inr ⟨hw, by rw [List.elem_eq_mem] at hg; exact of_decide_eq_true hg, X, val, F', R', ⟨hk, hF, hR, hv⟩, hd⟩))⟩

theorem SG.val {ops : List Oper} {rest : List Oper} {d : Nat} {op : Op} {ty : TypeId} {pos : String} {af : Array Edge} {g : Option (Nat × Bool)} {v : Value}
    (hd : Nat.blt d n = true) (hs : isSelect op = false) (hw : want ops L ⟨some d, op, ty, pos, af, g⟩ = some true) (hk : op.operands.toList.all (known L) = true) (hv : Vals P [] w (fun _ => True) L ⟨some d, op, ty, pos, af, g⟩ v)
    (hr : SG P n ops Q rest ((d, v) :: L) w) : SG P n ops Q (⟨some d, op, ty, pos, af, g⟩ :: rest) L w := by
  refine SG.op (by simpa using hd) hs hw hk ?_
  unfold OpRun
  rw [hv w (Kp.refl _ _) trivial]
  exact hr

/-- A region that draws, with nothing that turns old blocks but S's resource. -/
theorem CG.draw {id : Nat} {ops : List Oper} (hm : P.follows .mixedOrders = true) (ord gh : List Nat) (vs : List Vr) (S : List Nat) (R : World → Prop)
    (hc : chk n ops ord gh (vsS vs) = true) (hS : ∀ x ∈ S, x < w.heap.size) (hva : ∀ x ∈ vs, dstOf ops x.al = some x.d) (hR0 : R w) (hRs : Stab [] R) (hvR : vs = [] ∨ ∀ w, R w)
    (h : Der P S w ops gh (KFin n S w P ops Q vs) ord L (fun _ => True) R) : CG P n (.region id ops.toArray true) Q L w :=
  fun a ha => region_any hm ord gh vs S R hc ha hS hva hR0 hRs hvR h
/-- .. without variables and mutable things. -/
theorem CG.draw0 {id : Nat} {ops : List Oper} (hm : P.follows .mixedOrders = true) (ord gh : List Nat) (hc : chk n ops ord gh [] = true)
    (h : Der P [] w ops gh (KFin n [] w P ops Q []) ord L (fun _ => True) (fun _ => True)) : CG P n (.region id ops.toArray true) Q L w :=
  CG.draw hm ord gh [] [] (fun _ => True) hc (by simp) (by simp) trivial (fun _ _ _ _ => trivial) (Or.inl rfl) h
/-- A region that draws, whose operations from k on stand behind all others. -/
theorem CG.tail {id : Nat} {ops : List Oper} (hm : P.follows .mixedOrders = true) (k : Nat) (ord : List Nat) (hc : chkT n ops ord [] k = true)
    (h : Der P [] w ops [] (KTail n [] w P ops Q k) ord L (fun _ => True) (fun _ => True)) : CG P n (.region id ops.toArray true) Q L w :=
  fun a ha => region_tail hm k ord [] [] (fun _ => True) hc ha trivial (fun _ _ _ _ => trivial) h
/-- .. with ghosts. -/
theorem CG.tailg {id : Nat} {ops : List Oper} (hm : P.follows .mixedOrders = true) (k : Nat) (ord gh : List Nat) (S : List Nat) (R : World → Prop) (hc : chkT n ops ord gh k = true) (hR0 : R w) (hRs : Stab [] R)
    (h : Der P S w ops gh (KTail n S w P ops Q k) ord L (fun _ => True) R) : CG P n (.region id ops.toArray true) Q L w :=
  fun a ha => region_tail hm k ord gh S R hc ha hR0 hRs h
theorem Der.tl {S : List Nat} {w0 : World} {ops : List Oper} {gh : List Nat} {F R : World → Prop} {k : Nat} (h : ∀ w', Kp S w0 w' → F w' → R w' → SG P n ops Q (ops.drop k) L w') : Der P S w0 ops gh (KTail n S w0 P ops Q k) [] L F R := h
theorem Der.choose {Y : Type} {S : List Nat} {w0 : World} {ops : List Oper} {K : Y → Env → (World → Prop) → (World → Prop) → Prop} : ∀ {ord : List Nat} {L : Env} {F R : World → Prop}, Der P S w0 ops [] (fun L F R => ∃ y, K y L F R) ord L F R → ∃ y, Der P S w0 ops [] (K y) ord L F R
  | [], _, _, _, h => h
  | i :: ord, L, F, R, ⟨o, ho, h⟩ => by
    rcases h with ⟨hw, hd⟩ | ⟨hw, v, hp, hd⟩ | ⟨_, hg, _⟩ | ⟨_, hg, _⟩
    · obtain ⟨y, hy⟩ := Der.choose hd
      exact ⟨y, o, ho, Or.inl ⟨hw, hy⟩⟩
    · obtain ⟨y, hy⟩ := Der.choose hd
      exact ⟨y, o, ho, Or.inr (Or.inl ⟨hw, v, hp, hy⟩)⟩
    · cases hg
    · cases hg

/-- Where the region makes and fills variables: what they come to hold is told at the end. -/
def KV (n : Nat) (w0 : World) (P : Program) (ops : List Oper) (Q : Exit → Act → World → Prop) (vss : List (Nat × Nat × Nat × Operand)) (L : Env) (F R : World → Prop) : Prop :=
  ∃ vs : List Vr, vsS vs = vss ∧ KFin n [] w0 P ops Q vs L F R
theorem CG.drawv {id : Nat} {ops : List Oper} (hm : P.follows .mixedOrders = true) (ord : List Nat) (vss : List (Nat × Nat × Nat × Operand)) (hc : chk n ops ord [] vss = true) (hva : vss.all (fun v => (dstOf ops v.1) == some v.2.2.1) = true)
    (h : Der P [] w ops [] (KV n w P ops Q vss) ord L (fun _ => True) (fun _ => True)) : CG P n (.region id ops.toArray true) Q L w := by
  obtain ⟨vs, hd⟩ := Der.choose h
  by_cases hv : vsS vs = vss
  · subst hv
    have hd' : Der P [] w ops [] (KFin n [] w P ops Q vs) ord L (fun _ => True) (fun _ => True) := by
      have mono : ∀ {ord : List Nat} {L : Env} {F R : World → Prop}, Der P [] w ops [] (fun L F R => vsS vs = vsS vs ∧ KFin n [] w P ops Q vs L F R) ord L F R → Der P [] w ops [] (KFin n [] w P ops Q vs) ord L F R := by
        intro ord
        induction ord with
        | nil => intro L F R h; exact h.2
        | cons i ord ih =>
          intro L F R ⟨o, ho, h⟩
          rcases h with ⟨hw, hd⟩ | ⟨hw, v, hp, hd⟩ | ⟨_, hg, _⟩ | ⟨_, hg, _⟩
          · exact ⟨o, ho, Or.inl ⟨hw, ih hd⟩⟩
          · exact ⟨o, ho, Or.inr (Or.inl ⟨hw, v, hp, ih hd⟩)⟩
          · cases hg
          · cases hg
      exact mono hd
    refine CG.draw hm ord [] vs [] (fun _ => True) hc (by simp) (fun x hx => ?_) trivial (fun _ _ _ _ => trivial) (Or.inr fun _ => trivial) hd'
    have := List.all_eq_true.1 hva (x.al, x.pt, x.d, x.x) (List.mem_map.2 ⟨x, hx, rfl⟩)
    simpa using this
  · exfalso
    have bad : ∀ {ord : List Nat} {L : Env} {F R : World → Prop}, Der P [] w ops [] (fun L F R => vsS vs = vss ∧ KFin n [] w P ops Q vs L F R) ord L F R → False := by
      intro ord
      induction ord with
      | nil => intro L F R h; exact hv h.1
      | cons i ord ih =>
        intro L F R ⟨o, ho, h⟩
        rcases h with ⟨hw, hd⟩ | ⟨hw, v, hp, hd⟩ | ⟨_, hg, _⟩ | ⟨_, hg, _⟩
        · exact ih hd
        · exact ih hd
        · cases hg
        · cases hg
    exact bad hd

theorem KFin.mk0 {S : List Nat} {w0 : World} {ops : List Oper} {F R : World → Prop} (h : ∀ w', Kp S w0 w' → F w' → R w' → NG n .normal Q L w') : KFin n S w0 P ops Q [] L F R :=
  ⟨by simp, fun β a w' hf => h w' hf.kp hf.hF hf.hR a (by simpa using hf.fits)⟩
theorem KFin.mk1 {S : List Nat} {w0 : World} {ops : List Oper} {F R : World → Prop} {v : Vr} (hv : VrOk P ops L v) (h : ∀ b w', Kp S w0 w' → F w' → R w' → w0.heap.size ≤ b → Blk w' b (.cells v.c v.T) → NG n .normal Q ((v.d, .pointer (some ⟨b, 0, none⟩)) :: L) w') : KFin n S w0 P ops Q [v] L F R :=
  ⟨by simpa using hv, fun β a w' hf => h (β v.al) w' hf.kp hf.hF hf.hR (hf.vw v (by simp)).1 (hf.vw v (by simp)).2 a (by simpa using hf.fits)⟩
theorem KFin.mk2 {S : List Nat} {w0 : World} {ops : List Oper} {F R : World → Prop} {v u : Vr} (hv : VrOk P ops L v) (hu : VrOk P ops L u) (hne : Nat.beq v.al u.al = false)
    (h : ∀ b c w', Kp S w0 w' → F w' → R w' → w0.heap.size ≤ b → w0.heap.size ≤ c → b ≠ c → Blk w' b (.cells v.c v.T) → Blk w' c (.cells u.c u.T) → NG n .normal Q ((v.d, .pointer (some ⟨b, 0, none⟩)) :: (u.d, .pointer (some ⟨c, 0, none⟩)) :: L) w') : KFin n S w0 P ops Q [v, u] L F R :=
  ⟨by simpa using ⟨hv, hu⟩, fun β a w' hf => h (β v.al) (β u.al) w' hf.kp hf.hF hf.hR (hf.vw v (by simp)).1 (hf.vw u (by simp)).1 (hf.vd v (by simp) u (by simp) (Nat.ne_of_beq_eq_false hne)) (hf.vw v (by simp)).2 (hf.vw u (by simp)).2 a (by simpa using hf.fits)⟩

theorem Der.done {S : List Nat} {w0 : World} {ops : List Oper} {gh : List Nat} {K : Env → (World → Prop) → (World → Prop) → Prop} {F R : World → Prop} (h : K L F R) : Der P S w0 ops gh K [] L F R := h
theorem Der.one {w0 : World} {ops : List Oper} {F R : World → Prop} {al pt d : Nat} {T : TypeId} {x : Operand} {z c : Array Value} (hv : VrOk P ops L ⟨al, pt, d, T, x, z, c⟩) (h : ∀ b w', Kp [] w0 w' → w0.heap.size ≤ b → Blk w' b (.cells c T) → NG n .normal Q ((d, .pointer (some ⟨b, 0, none⟩)) :: L) w') :
    Der P [] w0 ops [] (KV n w0 P ops Q [(al, pt, d, x)]) [] L F R :=
  ⟨[⟨al, pt, d, T, x, z, c⟩], rfl, KFin.mk1 hv (fun b w' hk _ _ hb hB => h b w' hk hb hB)⟩
theorem Der.two {w0 : World} {ops : List Oper} {F R : World → Prop} {al pt d : Nat} {T : TypeId} {x : Operand} {z c : Array Value} {al' pt' d' : Nat} {T' : TypeId} {x' : Operand} {z' c' : Array Value} (hv : VrOk P ops L ⟨al, pt, d, T, x, z, c⟩) (hu : VrOk P ops L ⟨al', pt', d', T', x', z', c'⟩) (hne : Nat.beq al al' = false)
    (h : ∀ b b' w', Kp [] w0 w' → w0.heap.size ≤ b → w0.heap.size ≤ b' → b ≠ b' → Blk w' b (.cells c T) → Blk w' b' (.cells c' T') → NG n .normal Q ((d, .pointer (some ⟨b, 0, none⟩)) :: (d', .pointer (some ⟨b', 0, none⟩)) :: L) w') :
    Der P [] w0 ops [] (KV n w0 P ops Q [(al, pt, d, x), (al', pt', d', x')]) [] L F R :=
  ⟨[⟨al, pt, d, T, x, z, c⟩, ⟨al', pt', d', T', x', z', c'⟩], rfl, KFin.mk2 hv hu hne (fun b c w' hk _ _ hb hc hbc hB hC => h b c w' hk hb hc hbc hB hC)⟩
theorem Der.fin {S : List Nat} {w0 : World} {ops : List Oper} {gh : List Nat} {F R : World → Prop} (h : ∀ w', Kp S w0 w' → F w' → R w' → NG n .normal Q L w') : Der P S w0 ops gh (KFin n S w0 P ops Q []) [] L F R := KFin.mk0 h

end
end Go.Proofs.Ytfelaicoedlejaa
