/-
  The derivation serves for every order of a region that draws: the steps.
-/
import Derived.Test.YtfelaicoedlejaaSound
namespace Go.Proofs.Ytfelaicoedlejaa
set_option linter.unusedVariables false

section
variable {P : Program} {n : Nat} {ops : List Oper} {Q : Exit → Act → World → Prop} {S : List Nat} {w0 : World} {L0 : Env} {ord0 gh : List Nat} {vs : List Vr}
variable {D : Nat → Bool} {Dv : List Ent} {ord : List Nat} {F R : World → Prop} {β : Nat → Nat} {a : Act} {w : World}

def KFin (n : Nat) (S : List Nat) (w0 : World) (P : Program) (ops : List Oper) (Q : Exit → Act → World → Prop) (vs : List Vr) (L : Env) (F R : World → Prop) : Prop :=
  (∀ v ∈ vs, VrOk P ops L v) ∧ ∀ β a w, Fin n S w0 vs L F R β a w → Q .normal a w

theorem St.mem_idx (h : St P n ops gh S w0 L0 ord0 vs D Dv ord F R β a w) {i : Nat} (hi : i ∈ ord0) : (∃ e ∈ Dv, e.i = i) ∨ i ∈ ord := by
  rw [← h.idx, List.mem_append, List.mem_reverse, List.mem_map] at hi
  exact hi

theorem St.ent_ord (h : St P n ops gh S w0 L0 ord0 vs D Dv ord F R β a w) {e : Ent} (he : e ∈ Dv) : e.i ∈ ord0 := by
  rw [← h.idx, List.mem_append, List.mem_reverse, List.mem_map]
  exact Or.inl ⟨e, he, rfl⟩

theorem St.uniq (c : Chk n ops ord0 gh (vsS vs)) (h : St P n ops gh S w0 L0 ord0 vs D Dv ord F R β a w) : ∀ e ∈ Dv, ∀ e' ∈ Dv, e.i = e'.i → e = e' := by
  have hn : (Dv.map (·.i)).Nodup := by
    have := c.nodup
    rw [← h.idx] at this
    have := (List.nodup_append.1 this).1
    rw [← List.reverse_reverse (Dv.map (·.i))]
    exact (List.pairwise_reverse.2 (this.imp (fun hh => hh.symm)))
  have key : ∀ (l : List Ent), (l.map (·.i)).Nodup → ∀ e ∈ l, ∀ e' ∈ l, e.i = e'.i → e = e' := by
    intro l
    induction l with
    | nil => intro _ e he; cases he
    | cons x l ih =>
      intro hn e he e' he' hi
      rw [List.map_cons, List.nodup_cons] at hn
      rcases List.mem_cons.1 he with h1 | h1
      · rcases List.mem_cons.1 he' with h2 | h2
        · rw [h1, h2]
        · exact absurd (List.mem_map.2 ⟨e', h2, by rw [← hi, h1]⟩) hn.1
      · rcases List.mem_cons.1 he' with h2 | h2
        · exact absurd (List.mem_map.2 ⟨e, h1, by rw [hi, h2]⟩) hn.1
        · exact ih hn.2 e h1 e' h2 hi
  exact key Dv hn

theorem St.one (c : Chk n ops ord0 gh (vsS vs)) (h : St P n ops gh S w0 L0 ord0 vs D Dv ord F R β a w) : OneWriter Dv := by
  have hn : (Dv.map (·.i)).Nodup := by
    have := c.nodup
    rw [← h.idx] at this
    have := (List.nodup_append.1 this).1
    rw [← List.reverse_reverse (Dv.map (·.i))]
    exact (List.pairwise_reverse.2 (this.imp (fun hh => hh.symm)))
  unfold OneWriter
  rw [List.Nodup, List.pairwise_map] at hn
  refine List.Pairwise.imp_of_mem ?_ hn
  intro x y hx hy hne t hxt hyt
  exact hne (c.one x.i y.i x.o y.o t (h.ent x hx) (h.ent y hy) hxt hyt)

/-- The slots at which an entry that is not done yet looks hold what the derivation knew of them. -/
theorem St.looks (c : Chk n ops ord0 gh (vsS vs)) (h : St P n ops gh S w0 L0 ord0 vs D Dv ord F R β a w) {pre post : List Ent} {e : Ent} (hD : Dv = pre ++ e :: post)
    (hnd : D e.i = false) (hr : ∀ j, anc ops e.i j = true → D j = true) : ∀ t ∈ lks ops e.o, ∀ v, look (env L0 post) t = some v → a.tmps[t]? = some v := by
  intro t ht v hv
  have heD : e ∈ Dv := by rw [hD]; simp
  have hord : ord0 = (post.map (·.i)).reverse ++ e.i :: ((pre.map (·.i)).reverse ++ ord) := by
    rw [← h.idx, hD]
    simp
  obtain ⟨hs, _⟩ := ordOk_spec [] ord0 c.ok _ e.i _ hord e.o (h.ent e heD)
  obtain ⟨h1, h2, h3⟩ := hs t ht
  refine h.frame t v ?_ (fun x hx hxt => h3 ?_)
  · rw [hD, curv_at pre post (by rw [← hD]; exact h.one c)]
    · exact hv
    · intro q hq hqt
      refine hr q.i (h1 q.i (Or.inr ?_) ?_)
      · rw [List.mem_reverse]; exact List.mem_map.2 ⟨q, hq, rfl⟩
      · simp [dstOf, h.ent q (by rw [hD]; simp [hq]), hqt]
    · intro q hq hqt
      have ha : anc ops q.i e.i = true := h2 q.i (by rw [List.mem_append, List.mem_reverse]; exact Or.inl (List.mem_map.2 ⟨q, hq, rfl⟩)) (by simp [dstOf, h.ent q (by rw [hD]; simp [hq]), hqt])
      cases hq' : D q.i with
      | false => rfl
      | true =>
        have hqo := h.ent q (by rw [hD]; simp [hq])
        have := anc_closed h.closed q.i q.o hqo (h.closed q.i q.o hqo hq') e.i ha
        rw [hnd] at this
        cases this
    · intro _; exact hnd
  · rw [← hxt]
    exact List.mem_map.2 ⟨(x.al, x.pt, x.d, x.x), List.mem_map.2 ⟨x, hx, rfl⟩, rfl⟩

theorem setD_closed (hc : ∀ (i : Nat) (o : Oper), ops[i]? = some o → D i = true → ∀ e ∈ edges o, D e = true) {i : Nat} {o : Oper} (ho : ops[i]? = some o) (he : ∀ e ∈ edges o, D e = true) :
    ∀ (j : Nat) (o : Oper), ops[j]? = some o → setD D i j = true → ∀ e ∈ edges o, setD D i e = true := by
  intro j oj hj hd e hem
  by_cases hji : j = i
  · subst hji
    rw [ho] at hj
    cases hj
    exact setD_of (he e hem)
  · rw [setD_ne hji] at hd
    exact setD_of (hc j oj hj hd e hem)

theorem vs_lt (c : Chk n ops ord0 gh (vsS vs)) {x : Vr} (hx : x ∈ vs) {i : Nat} (hi : i ∈ ord0) : x.al ≠ i ∧ x.pt ≠ i := by
  have hn := c.nd
  rw [List.nodup_append] at hn
  have h1 : (x.al, x.pt, x.d, x.x) ∈ vsS vs := List.mem_map.2 ⟨x, hx, rfl⟩
  exact ⟨fun e => hn.2.2 x.al (List.mem_append.2 (Or.inl (List.mem_map.2 ⟨_, h1, rfl⟩))) i hi e, fun e => hn.2.2 x.pt (List.mem_append.2 (Or.inr (List.mem_map.2 ⟨_, h1, rfl⟩))) i hi e⟩

/-- An entry has been done. -/
theorem St.did (c : Chk n ops ord0 gh (vsS vs)) (h : St P n ops gh S w0 L0 ord0 vs D Dv ord F R β a w) (hFs : Stab S F) (hRs : Stab [] R) (hva : ∀ x ∈ vs, dstOf ops x.al = some x.d) {e : Ent} (he : e ∈ Dv) (hnd : D e.i = false)
    (hed : ∀ j ∈ edges e.o, D j = true) {w' : World} (hk : Kp [] w w') : St P n ops gh S w0 L0 ord0 vs (setD D e.i) Dv ord F R β (a.put e.o.dst e.v) w' := by
  have heo := h.ent e he
  have hdn : ∀ d, e.o.dst = some d → d < n := c.dlt e.o (List.mem_of_getElem? heo)
  have hvd : ∀ x ∈ vs, e.o.dst ≠ some x.d := by
    intro x hx hd
    have h1 := hva x hx
    unfold dstOf at h1
    cases hx1 : ops[x.al]? with
    | none => rw [hx1] at h1; simp at h1
    | some oa =>
      rw [hx1] at h1
      exact (vs_lt c hx (h.ent_ord he)).1 (c.one x.al e.i oa e.o x.d hx1 heo h1 hd)
  refine ⟨setD_closed h.closed heo hed, fun i hi => ?_, h.idx, h.ent, fun pre q post hD hq => ?_, ?_, ?_, fun t v hv ht => ?_, fun x hx hd => ?_, h.kp.trans hk.any, hFs _ _ hk.any h.hF, hRs _ _ hk h.hR, fun x hx hd => ?_, fun x hx y hy hdx hdy => ?_⟩
  · rw [setD_ne]
    · exact h.fresh i hi
    · intro e1
      have hn := c.nodup
      rw [← h.idx, List.nodup_append] at hn
      exact hn.2.2 e.i (by rw [List.mem_reverse]; exact List.mem_map.2 ⟨e, he, rfl⟩) i hi e1.symm
  · by_cases hqe : q.i = e.i
    · rw [hqe, setD_same] at hq; cases hq
    · rw [setD_ne hqe] at hq
      exact h.obl pre q post hD hq
  · cases hd : e.o.dst <;> simp [Act.put, h.size]
  · cases hd : e.o.dst <;> simp [Act.put, h.defers]
  · rw [curv_upd Dv (h.one c) he (fun q hq hi => h.uniq c q hq e he hi)] at hv
    by_cases hd : e.o.dst = some t
    · rw [if_pos hd] at hv
      cases hv
      rw [hd]
      simp [Act.put, h.size, hdn t hd]
    · rw [if_neg hd] at hv
      have := h.frame t v hv ht
      cases hd' : e.o.dst with
      | none => exact this
      | some d =>
        have hne : d ≠ t := fun e1 => hd (by rw [hd', e1])
        simp only [Act.put]
        rw [Array.getElem?_setIfInBounds_ne hne]
        exact this
  · rw [setD_ne (vs_lt c hx (h.ent_ord he)).1] at hd
    have := h.vfr x hx hd
    cases hd' : e.o.dst with
    | none => exact this
    | some d =>
      have hne : d ≠ x.d := fun e1 => hvd x hx (by rw [hd', e1])
      simp only [Act.put]
      rw [Array.getElem?_setIfInBounds_ne hne]
      exact this
  · rw [setD_ne (vs_lt c hx (h.ent_ord he)).1] at hd
    rw [setD_ne (vs_lt c hx (h.ent_ord he)).2]
    obtain ⟨h1, h2⟩ := h.vw x hx hd
    exact ⟨h1, h2.kp0 hk⟩
  · rw [setD_ne (vs_lt c hx (h.ent_ord he)).1] at hdx
    rw [setD_ne (vs_lt c hy (h.ent_ord he)).1] at hdy
    exact h.vd x hx y hy hdx hdy

/-- The derivation goes on by an operation whose value is known: nothing has run. -/
theorem St.adv1 (c : Chk n ops ord0 gh (vsS vs)) {i : Nat} (h : St P n ops gh S w0 L0 ord0 vs D Dv (i :: ord) F R β a w) {o : Oper} {v : Value} (ho : ops[i]? = some o)
    (hob : Obl P S w0 ops gh L0 F R ⟨i, o, v⟩ Dv) : St P n ops gh S w0 L0 ord0 vs D (⟨i, o, v⟩ :: Dv) ord F R β a w := by
  have hi : D i = false := h.fresh i (by simp)
  refine ⟨h.closed, fun j hj => h.fresh j (by simp [hj]), ?_, fun e he => ?_, fun pre e post hD hnd => ?_, h.size, h.defers, fun t u hu ht => ?_, h.vfr, h.kp, h.hF, h.hR, h.vw, h.vd⟩
  · rw [← h.idx]; simp
  · rcases List.mem_cons.1 he with rfl | he
    · exact ho
    · exact h.ent e he
  · cases pre with
    | nil =>
      simp only [List.nil_append, List.cons.injEq] at hD
      obtain ⟨rfl, rfl⟩ := hD
      exact hob
    | cons p pre =>
      simp only [List.cons_append, List.cons.injEq] at hD
      exact h.obl pre e post hD.2 hnd
  · refine h.frame t u ?_ ht
    simp only [curv] at hu
    by_cases hd : o.dst = some t
    · rw [if_pos hd, if_neg (by simp [hi])] at hu
      rw [curv_none Dv, hu]
      intro e he het
      have h1 := c.one e.i i e.o o t (h.ent e he) ho het hd
      have hn := c.nodup
      rw [← h.idx, List.nodup_append] at hn
      exact hn.2.2 e.i (by rw [List.mem_reverse]; exact List.mem_map.2 ⟨e, he, rfl⟩) i (by simp) h1
    · rw [if_neg hd] at hu
      exact hu

def Norm (P : Program) (S : List Nat) (w0 : World) (ops : List Oper) (gh : List Nat) (K : Env → (World → Prop) → (World → Prop) → Prop) (ord : List Nat) (L : Env) (F R : World → Prop) : Prop :=
  (ord = [] ∧ K L F R) ∨ ∃ i ord' o, ord = i :: ord' ∧ ops[i]? = some o ∧ want ops L o = some true ∧ i ∈ gh ∧ ∃ (X : Type) (val : X → Value) (F' R' : X → World → Prop), Ghost P S w0 F R L o X val F' R' ∧
          ∀ x, Der P S w0 ops gh K ord' (addD o.dst (val x) L) (fun w => F w ∧ F' x w) (R' x)

theorem St.adv (c : Chk n ops ord0 gh (vsS vs)) {K : Env → (World → Prop) → (World → Prop) → Prop} : ∀ (ord : List Nat) (Dv : List Ent), St P n ops gh S w0 L0 ord0 vs D Dv ord F R β a w → Der P S w0 ops gh K ord (env L0 Dv) F R →
    ∃ Dv' ord', St P n ops gh S w0 L0 ord0 vs D Dv' ord' F R β a w ∧ Norm P S w0 ops gh K ord' (env L0 Dv') F R
  | [], Dv, h, hd => ⟨Dv, [], h, Or.inl ⟨rfl, hd⟩⟩
  | i :: ord, Dv, h, hd => by
    obtain ⟨o, ho, hd⟩ := hd
    rcases hd with ⟨hw, hd⟩ | ⟨hw, v, hp, hd⟩ | ⟨hw, hr, v, hp, hd⟩ | ⟨hw, hg, X, val, F', R', hgh, hd⟩
    · exact St.adv c ord (⟨i, o, undef⟩ :: Dv) (h.adv1 c ho (Or.inr (Or.inl ⟨hw, rfl⟩))) hd
    · exact St.adv c ord (⟨i, o, v⟩ :: Dv) (h.adv1 c ho (Or.inl ⟨hw, hp⟩)) hd
    · exact St.adv c ord (⟨i, o, v⟩ :: Dv) (h.adv1 c ho (Or.inr (Or.inr ⟨hw, hr, hp⟩))) hd
    · exact ⟨Dv, i :: ord, h, Or.inr ⟨i, ord, o, rfl, ho, hw, hg, X, val, F', R', hgh, hd⟩⟩

/-- A ghost has run. -/
theorem St.ghost (c : Chk n ops ord0 gh (vsS vs)) (hv0 : vs = []) {i : Nat} (h : St P n ops gh S w0 L0 ord0 vs D Dv (i :: ord) F R β a w) (hFs : Stab S F) {o : Oper} (ho : ops[i]? = some o)
    (hed : ∀ j ∈ edges o, D j = true) (hgi : i ∈ gh) {v : Value} {w' : World} {F' R' : World → Prop} (hk : Kp S w0 w') (hF' : F w' ∧ F' w') (hR' : R' w') :
    St P n ops gh S w0 L0 ord0 vs (setD D i) (⟨i, o, v⟩ :: Dv) ord (fun w => F w ∧ F' w) R' β (a.put o.dst v) w' := by
  subst hv0
  have hi : D i = false := h.fresh i (by simp)
  have hn := c.nodup
  rw [← h.idx, List.nodup_append] at hn
  have hDvi : ∀ e ∈ Dv, e.i ≠ i := fun e he => hn.2.2 e.i (by rw [List.mem_reverse]; exact List.mem_map.2 ⟨e, he, rfl⟩) i (by simp)
  refine ⟨setD_closed h.closed ho hed, fun j hj => ?_, ?_, fun e he => ?_, fun pre e post hD hnd => ?_, ?_, ?_, fun t u hu ht => ?_, (by simp), hk, hF', hR', (by simp), (by simp)⟩
  · rw [setD_ne]
    · exact h.fresh j (by simp [hj])
    · intro e1
      have := hn.2.1
      rw [List.nodup_cons] at this
      exact this.1 (e1 ▸ hj)
  · rw [← h.idx]; simp
  · rcases List.mem_cons.1 he with rfl | he
    · exact ho
    · exact h.ent e he
  · cases pre with
    | nil =>
      simp only [List.nil_append, List.cons.injEq] at hD
      obtain ⟨rfl, rfl⟩ := hD
      simp only [setD_same] at hnd
      cases hnd
    | cons p pre =>
      simp only [List.cons_append, List.cons.injEq] at hD
      have hem : e ∈ Dv := by rw [hD.2]; simp
      rw [setD_ne (hDvi e hem)] at hnd
      refine (h.obl pre e post hD.2 hnd).mono (fun w hw => hw.1) (fun hr => ?_)
      have hord : ord0 = (Dv.map (·.i)).reverse ++ i :: ord := h.idx.symm
      have hs := ((ordOk_spec [] ord0 c.ok _ i _ hord o ho).2 hgi).2 e.i (Or.inr (by rw [List.mem_reverse]; exact List.mem_map.2 ⟨e, hem, rfl⟩)) hr
      have := anc_closed h.closed i o ho hed e.i hs
      rw [this] at hnd
      cases hnd
  · cases hd : o.dst <;> simp [Act.put, h.size]
  · cases hd : o.dst <;> simp [Act.put, h.defers]
  · simp only [curv, setD_same, if_true] at hu
    rw [curv_setD Dv hDvi] at hu
    by_cases hd : o.dst = some t
    · rw [if_pos hd] at hu
      cases hu
      rw [hd]
      simp [Act.put, h.size, c.dlt o (List.mem_of_getElem? ho) t hd]
    · rw [if_neg hd] at hu
      have := h.frame t u hu ht
      cases hd' : o.dst with
      | none => exact this
      | some d =>
        have hne : d ≠ t := fun e1 => hd (by rw [hd', e1])
        simp only [Act.put]
        rw [Array.getElem?_setIfInBounds_ne hne]
        exact this

end
end Go.Proofs.Ytfelaicoedlejaa
