/-
  The derivation serves for every order of a region that draws.
-/
import Derived.Test.YtfelaicoedlejaaRegion
namespace Go.Proofs.Ytfelaicoedlejaa
set_option linter.unusedVariables false

structure Vr where
  al : Nat
  pt : Nat
  d : Nat
  T : TypeId
  x : Operand
  z : Array Value
  c : Array Value

def lks (ops : List Oper) (o : Oper) : List Nat := o.looksAt ops.toArray
def dstOf (ops : List Oper) (i : Nat) : Option Nat := (ops[i]?).bind (·.dst)

def nodupB : List Nat → Bool
  | [] => true
  | x :: l => !l.elem x && nodupB l
theorem nodup_of_B : ∀ (l : List Nat), nodupB l = true → l.Nodup
  | [], _ => List.nodup_nil
  | x :: l, h => by
    simp only [nodupB, Bool.and_eq_true, Bool.not_eq_true'] at h
    refine List.nodup_cons.2 ⟨fun hm => ?_, nodup_of_B l h.2⟩
    have h1 := h.1
    rw [List.elem_eq_mem] at h1
    exact absurd hm (of_decide_eq_false h1)

/-- The order of the derivation: reads and writes of one slot stand one behind the other. -/
def ordOk (ops : List Oper) (gh : List Nat) (vd : List Nat) : List Nat → List Nat → Bool
  | _, [] => true
  | pre, i :: rest =>
    ((ops[i]?).map fun o => (lks ops o).all fun t =>
      pre.all (fun j => !(dstOf ops j == some t) || anc ops i j) && rest.all (fun j => !(dstOf ops j == some t) || anc ops j i) && !vd.elem t).getD false &&
    (!gh.elem i || (rest.all (fun j => anc ops j i) && pre.all (fun j => !gh.elem (j + 1000) || anc ops i j))) && ordOk ops gh vd (i :: pre) rest

def opTmp : Operand → List Nat
  | .tmp t => [t]
  | _ => []

def chk (n : Nat) (ops : List Oper) (ord gh : List Nat) (vs : List (Nat × Nat × Nat × Operand)) : Bool :=
  ops.all (fun o => !isSelect o.op) && ops.all (fun o => o.dst.all (fun d => Nat.blt d n)) && nodupB (ops.filterMap (·.dst)) &&
  (List.range ops.length).all (fun i => ord.elem i || vs.any (fun v => Nat.beq v.1 i || Nat.beq v.2.1 i)) && nodupB ord &&
  ordOk ops gh (vs.map (·.2.2.1)) [] ord && ord.all (fun i => Nat.blt i ops.length) &&
  ((List.range ops.length).all fun i => ((ops[i]?).map fun o => (edges o).all (fun e => Nat.blt e i)).getD false) &&
  nodupB (vs.map (·.1) ++ vs.map (·.2.1) ++ ord) &&
  vs.all (fun v => anc ops v.2.1 v.1 && (opTmp v.2.2.2).all (fun t => !(vs.map (·.2.2.1)).elem t && ord.all (fun j => !(dstOf ops j == some t) || anc ops v.2.1 j))) &&
  (vs.isEmpty || gh.isEmpty)

theorem countP_lt {p q : Nat → Bool} : ∀ (l : List Nat) (h : ∀ x, q x = true → p x = true) (i : Nat), i ∈ l → p i = true → q i = false → l.countP q < l.countP p
  | [], _, _, hi, _, _ => by cases hi
  | y :: l, h, i, hi, hp, hq => by
    have hle : ∀ (m : List Nat), m.countP q ≤ m.countP p := fun m => List.countP_mono_left (fun x _ => h x)
    rw [List.countP_cons, List.countP_cons]
    by_cases e : y = i
    · subst e
      have := hle l
      simp [hp, hq]
      omega
    · have hm : i ∈ l := by
        rcases List.mem_cons.1 hi with h | h
        · exact absurd h.symm e
        · exact h
      have := countP_lt l h i hm hp hq
      by_cases hqy : q y = true
      · simp [hqy, h y hqy]; omega
      · simp [hqy]; omega

section
variable {P : Program} {n : Nat} {ops : List Oper} {Q : Exit → Act → World → Prop} {S : List Nat} {w0 : World} {L0 : Env} {ord0 gh : List Nat} {vs : List Vr}

def vsS (vs : List Vr) : List (Nat × Nat × Nat × Operand) := vs.map (fun v => (v.al, v.pt, v.d, v.x))

def Obl (P : Program) (S : List Nat) (w0 : World) (ops : List Oper) (gh : List Nat) (L0 : Env) (F R : World → Prop) (e : Ent) (post : List Ent) : Prop :=
  (want ops (env L0 post) e.o = some true ∧ Plain P S w0 F (env L0 post) e.o e.v) ∨ (want ops (env L0 post) e.o = some false ∧ e.v = undef) ∨ (want ops (env L0 post) e.o = some true ∧ (e.i + 1000) ∈ gh ∧ RPlain P S w0 F R (env L0 post) e.o e.v)

theorem Obl.mono {F F' R R' : World → Prop} {e : Ent} {post : List Ent} (h : Obl P S w0 ops gh L0 F R e post) (hF : ∀ w, F' w → F w) (hR : (e.i + 1000) ∉ gh) : Obl P S w0 ops gh L0 F' R' e post := by
  rcases h with ⟨h1, h2, h3⟩ | h | ⟨_, h, _⟩
  · exact Or.inl ⟨h1, h2, fun w hk hf => h3 w hk (hF w hf)⟩
  · exact Or.inr (Or.inl h)
  · exact absurd h hR

/-- What is asked of a variable that the region makes and fills. -/
structure VrOk (P : Program) (ops : List Oper) (L : Env) (v : Vr) : Prop where
  al : ∃ oa, ops[v.al]? = some oa ∧ oa.op = .alloc v.T ∧ oa.dst = some v.d ∧ oa.guard = none
  pt : ∃ op, ops[v.pt]? = some op ∧ op.op = .store v.T (.tmp v.d) v.x ∧ op.dst = none ∧ op.guard = none
  kn : known L v.x = true
  runAl : ∀ w : World, (Instr.alloc v.T true (.tuple #[])).run P w = .ok (.pointer (some ⟨w.heap.size, 0, none⟩)) { w with heap := w.heap.push (.cells v.z v.T) }
  runPt : ∀ (w : World) (b : Nat), Blk w b (.cells v.z v.T) → (Instr.storeAt v.T (.pointer (some ⟨b, 0, none⟩)) (rho L v.x)).run P w = .ok () { w with heap := w.heap.setIfInBounds b (.cells v.c v.T) }

/-- What is known where the region ends. -/
structure Fin (n : Nat) (S : List Nat) (w0 : World) (vs : List Vr) (L : Env) (F R : World → Prop) (β : Nat → Nat) (a : Act) (w : World) : Prop where
  fits : Fits n a (vs.map (fun v => (v.d, Value.pointer (some ⟨β v.al, 0, none⟩))) ++ L)
  kp : Kp S w0 w
  hF : F w
  hR : R w
  vw : ∀ v ∈ vs, w0.heap.size ≤ β v.al ∧ Blk w (β v.al) (.cells v.c v.T)
  vd : ∀ v ∈ vs, ∀ v' ∈ vs, v.al ≠ v'.al → β v.al ≠ β v'.al

structure St (P : Program) (n : Nat) (ops : List Oper) (gh : List Nat) (S : List Nat) (w0 : World) (L0 : Env) (ord0 : List Nat) (vs : List Vr)
    (D : Nat → Bool) (Dv : List Ent) (ord : List Nat) (F R : World → Prop) (β : Nat → Nat) (a : Act) (w : World) : Prop where
  closed : ∀ (i : Nat) (o : Oper), ops[i]? = some o → D i = true → ∀ e ∈ edges o, D e = true
  fresh : ∀ i ∈ ord, D i = false
  idx : (Dv.map (·.i)).reverse ++ ord = ord0
  ent : ∀ e ∈ Dv, ops[e.i]? = some e.o
  obl : ∀ pre e post, Dv = pre ++ e :: post → D e.i = false → Obl P S w0 ops gh L0 F R e post
  size : a.tmps.size = n
  defers : a.defers = []
  frame : ∀ t v, curv L0 D Dv t = some v → (∀ x ∈ vs, x.d ≠ t) → a.tmps[t]? = some v
  vfr : ∀ x ∈ vs, D x.al = true → a.tmps[x.d]? = some (.pointer (some ⟨β x.al, 0, none⟩))
  kp : Kp S w0 w
  hF : F w
  hR : R w
  vw : ∀ x ∈ vs, D x.al = true → w0.heap.size ≤ β x.al ∧ Blk w (β x.al) (.cells (if D x.pt = true then x.c else x.z) x.T)
  vd : ∀ x ∈ vs, ∀ y ∈ vs, D x.al = true → D y.al = true → x.al ≠ y.al → β x.al ≠ β y.al

theorem wanted_of {L : Env} {a : Act} {o : Oper} {r : Bool} (hL : ∀ t ∈ lks ops o, ∀ v, look L t = some v → a.tmps[t]? = some v) (h : want ops L o = some r) :
    Region.wanted o (yielded ops.toArray a.tmps) = r := by
  unfold want at h
  unfold Region.wanted
  cases hg : o.guard with
  | none => simp [hg] at h; simp [h]
  | some jb =>
    obtain ⟨j, b⟩ := jb
    simp only [hg] at h
    cases hd : (ops[j]?).bind (·.dst) with
    | none => simp [hd] at h
    | some d =>
      simp only [hd] at h
      have hmem : d ∈ lks ops o := by
        unfold lks Oper.looksAt
        simp only [hg, List.getElem?_toArray, hd]
        simp
      cases hl : look L d with
      | none => simp [hl] at h
      | some v =>
        have hv := hL d hmem v hl
        simp only [hl] at h
        simp only [yielded, List.getElem?_toArray, hd, Option.bind_some, hv]
        cases v <;> simp at h ⊢ <;> simp_all

theorem eval_of {L : Env} {a : Act} {o : Oper} (hL : ∀ t ∈ lks ops o, ∀ v, look L t = some v → a.tmps[t]? = some v) (hk : o.op.operands.toList.all (known L) = true) :
    ∀ x ∈ o.op.operands, rho L x = a.eval x := by
  intro x hx
  have hkx : known L x = true := List.all_eq_true.1 hk x (by simpa using hx)
  cases x with
  | tmp t =>
    have hmem : t ∈ lks ops o := by
      unfold lks Oper.looksAt
      simp only [List.mem_append, List.mem_filterMap]
      exact Or.inl ⟨.tmp t, by simpa using hx, rfl⟩
    simp only [known, Option.isSome_iff_exists] at hkx
    obtain ⟨v, hv⟩ := hkx
    have := hL t hmem v hv
    simp [Act.eval, rho, hv, Array.getD_eq_getD_getElem?, this]
  | _ => rfl

/-! what the check says -/
structure Chk (n : Nat) (ops : List Oper) (ord gh : List Nat) (vs : List (Nat × Nat × Nat × Operand)) : Prop where
  sel : ∀ o ∈ ops, isSelect o.op = false
  dlt : ∀ o ∈ ops, ∀ d, o.dst = some d → d < n
  one : ∀ (i j : Nat) (oi oj : Oper) (t : Nat), ops[i]? = some oi → ops[j]? = some oj → oi.dst = some t → oj.dst = some t → i = j
  nodup : ord.Nodup
  ok : ordOk ops gh (vs.map (·.2.2.1)) [] ord = true
  lt : ∀ i ∈ ord, i < ops.length
  ed : ∀ (i : Nat) (o : Oper), ops[i]? = some o → ∀ e ∈ edges o, e < i
  nd : (vs.map (·.1) ++ vs.map (·.2.1) ++ ord).Nodup
  va : ∀ v ∈ vs, anc ops v.2.1 v.1 = true
  vx : ∀ v ∈ vs, ∀ t ∈ opTmp v.2.2.2, (∀ u ∈ vs, u.2.2.1 ≠ t) ∧ ∀ j ∈ ord, dstOf ops j = some t → anc ops v.2.1 j = true
  ng : vs = [] ∨ gh = []

theorem nodup_filterMap_inj : ∀ (l : List Oper), (l.filterMap (·.dst)).Nodup → ∀ (i j : Nat) (oi oj : Oper) (t : Nat), l[i]? = some oi → l[j]? = some oj → oi.dst = some t → oj.dst = some t → i = j
  | [], _, _, _, _, _, _, h, _, _, _ => by simp at h
  | o :: l, hn, i, j, oi, oj, t, hi, hj, di, dj => by
    have hmem : ∀ (k : Nat) (ok : Oper), l[k]? = some ok → ok.dst = some t → t ∈ l.filterMap (·.dst) := fun k ok hk hd =>
      List.mem_filterMap.2 ⟨ok, List.mem_of_getElem? hk, hd⟩
    have hn' : (l.filterMap (·.dst)).Nodup := by
      rw [List.filterMap_cons] at hn
      split at hn
      · exact hn
      · exact (List.nodup_cons.1 hn).2
    have hno : o.dst = some t → t ∉ l.filterMap (·.dst) := fun h => by
      rw [List.filterMap_cons, h] at hn
      exact (List.nodup_cons.1 hn).1
    cases i with
    | zero =>
      simp at hi
      subst hi
      cases j with
      | zero => rfl
      | succ j =>
        simp only [List.getElem?_cons_succ] at hj
        exact absurd (hmem j oj hj dj) (hno di)
    | succ i =>
      simp only [List.getElem?_cons_succ] at hi
      cases j with
      | zero =>
        simp at hj
        subst hj
        exact absurd (hmem i oi hi di) (hno dj)
      | succ j =>
        simp only [List.getElem?_cons_succ] at hj
        rw [nodup_filterMap_inj l hn' i j oi oj t hi hj di dj]

theorem Chk.of {vs : List (Nat × Nat × Nat × Operand)} (h : chk n ops ord0 gh vs = true) : Chk n ops ord0 gh vs := by
  simp only [chk, Bool.and_eq_true] at h
  obtain ⟨⟨⟨⟨⟨⟨⟨⟨⟨⟨h1, h2⟩, h3⟩, h4⟩, h5⟩, h6⟩, h7⟩, h8⟩, h9⟩, h10⟩, h11⟩ := h
  refine ⟨fun o ho => ?_, fun o ho d hd => ?_, nodup_filterMap_inj ops (nodup_of_B _ h3), nodup_of_B _ h5, h6, fun i hi => ?_, fun i o ho e he => ?_, nodup_of_B _ h9, fun v hv => ?_, fun v hv t ht => ?_, ?_⟩
  · simpa using List.all_eq_true.1 h1 o ho
  · have := List.all_eq_true.1 h2 o ho
    rw [hd] at this
    simpa [Nat.blt_eq] using this
  · simpa [Nat.blt_eq] using List.all_eq_true.1 h7 i hi
  · have := List.all_eq_true.1 h8 i (by simpa using (List.getElem?_eq_some_iff.1 ho).1)
    rw [ho] at this
    simp only [Option.map_some, Option.getD_some] at this
    simpa [Nat.blt_eq] using List.all_eq_true.1 this e he
  · have := List.all_eq_true.1 h10 v hv
    simp only [Bool.and_eq_true] at this
    exact this.1
  · have := List.all_eq_true.1 h10 v hv
    simp only [Bool.and_eq_true] at this
    have := List.all_eq_true.1 this.2 t ht
    simp only [Bool.and_eq_true, Bool.not_eq_true'] at this
    refine ⟨fun u hu e => ?_, fun j hj hd => ?_⟩
    · have h1 := this.1
      rw [List.elem_eq_mem] at h1
      exact absurd (List.mem_map.2 ⟨u, hu, e⟩) (of_decide_eq_false h1)
    · have := List.all_eq_true.1 this.2 j hj
      simpa [hd] using this
  · simp only [Bool.or_eq_true, List.isEmpty_iff] at h11
    exact h11

theorem cover_of {vs : List (Nat × Nat × Nat × Operand)} (h : chk n ops ord0 gh vs = true) : ∀ i, i < ops.length → i ∈ ord0 ∨ ∃ v ∈ vs, v.1 = i ∨ v.2.1 = i := by
  simp only [chk, Bool.and_eq_true] at h
  obtain ⟨⟨⟨⟨⟨⟨⟨⟨⟨⟨h1, h2⟩, h3⟩, h4⟩, h5⟩, h6⟩, h7⟩, h8⟩, h9⟩, h10⟩, h11⟩ := h
  intro i hi
  have := List.all_eq_true.1 h4 i (by simpa using hi)
  simp only [Bool.or_eq_true, List.any_eq_true] at this
  rcases this with h | ⟨v, hv, h⟩
  · left; rw [List.elem_eq_mem] at h; exact of_decide_eq_true h
  · right
    refine ⟨v, hv, ?_⟩
    rcases h with h | h
    · left; exact Nat.eq_of_beq_eq_true h
    · right; exact Nat.eq_of_beq_eq_true h

/-- What 'ordOk' says of an entry. -/
theorem ordOk_spec {vd : List Nat} : ∀ (pre l : List Nat), ordOk ops gh vd pre l = true → ∀ (l1 : List Nat) (i : Nat) (l2 : List Nat), l = l1 ++ i :: l2 → ∀ o, ops[i]? = some o →
    (∀ t ∈ lks ops o, (∀ j, j ∈ pre ∨ j ∈ l1 → dstOf ops j = some t → anc ops i j = true) ∧ (∀ j ∈ l2, dstOf ops j = some t → anc ops j i = true) ∧ t ∉ vd) ∧ (i ∈ gh → (∀ j ∈ l2, anc ops j i = true) ∧ ∀ j, j ∈ pre ∨ j ∈ l1 → (j + 1000) ∈ gh → anc ops i j = true)
  | pre, [], _, l1, i, l2, h, _, _ => by simp at h
  | pre, k :: l, hk, [], i, l2, h, o, ho => by
    simp only [List.nil_append, List.cons.injEq] at h
    obtain ⟨rfl, rfl⟩ := h
    simp only [ordOk, Bool.and_eq_true, ho, Option.map_some, Option.getD_some] at hk
    obtain ⟨⟨h1, h2⟩, _⟩ := hk
    refine ⟨fun t ht => ?_, fun hg => ?_⟩
    · have := List.all_eq_true.1 h1 t ht
      simp only [Bool.and_eq_true, Bool.not_eq_true'] at this
      refine ⟨fun j hj hd => ?_, fun j hj hd => ?_, fun hm => ?_⟩
      · rcases hj with hj | hj
        · simpa [hd] using List.all_eq_true.1 this.1.1 j hj
        · cases hj
      · simpa [hd] using List.all_eq_true.1 this.1.2 j hj
      · have h1 := this.2
        rw [List.elem_eq_mem] at h1
        exact absurd hm (of_decide_eq_false h1)
    · simp only [Bool.or_eq_true, Bool.not_eq_true'] at h2
      rcases h2 with h2 | h2
      · rw [List.elem_eq_mem] at h2
        exact absurd hg (of_decide_eq_false h2)
      · simp only [Bool.and_eq_true] at h2
        refine ⟨fun j hj => List.all_eq_true.1 h2.1 j hj, fun j hj hr => ?_⟩
        rcases hj with hj | hj
        · have := List.all_eq_true.1 h2.2 j hj
          have hr' : gh.elem (j + 1000) = true := by rw [List.elem_eq_mem]; exact decide_eq_true hr
          simpa only [hr', Bool.not_true, Bool.false_or] using this
        · cases hj
  | pre, k :: l, hk, m :: l1, i, l2, h, o, ho => by
    simp only [List.cons_append, List.cons.injEq] at h
    obtain ⟨rfl, rfl⟩ := h
    simp only [ordOk, Bool.and_eq_true] at hk
    obtain ⟨h1, h2⟩ := ordOk_spec (k :: pre) _ hk.2 l1 i l2 rfl o ho
    refine ⟨fun t ht => ?_, fun hg => ⟨(h2 hg).1, fun j hj hr => (h2 hg).2 j (by
      rcases hj with hj | hj
      · exact Or.inl (by simp [hj])
      · rcases List.mem_cons.1 hj with rfl | hj
        · exact Or.inl (by simp)
        · exact Or.inr hj) hr⟩⟩
    obtain ⟨a1, a2, a3⟩ := h1 t ht
    refine ⟨fun j hj hd => a1 j ?_ hd, a2, a3⟩
    rcases hj with hj | hj
    · exact Or.inl (by simp [hj])
    · rcases List.mem_cons.1 hj with rfl | hj
      · exact Or.inl (by simp)
      · exact Or.inr hj

end
end Go.Proofs.Ytfelaicoedlejaa
