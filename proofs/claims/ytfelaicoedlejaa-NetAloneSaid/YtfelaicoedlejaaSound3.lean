/-
  The derivation serves for every order of a region that draws: variables, and the whole.
-/
import Derived.Test.YtfelaicoedlejaaSound2
namespace Go.Proofs.Ytfelaicoedlejaa
set_option linter.unusedVariables false

section
variable {P : Program} {n : Nat} {ops : List Oper} {Q : Exit → Act → World → Prop} {S : List Nat} {w0 : World} {L0 : Env} {ord0 gh : List Nat} {vs : List Vr}
variable {D : Nat → Bool} {Dv : List Ent} {ord : List Nat} {F R : World → Prop} {β : Nat → Nat} {a : Act} {w : World}

def updN (β : Nat → Nat) (i b : Nat) (j : Nat) : Nat := if j = i then b else β j
theorem updN_ne {β : Nat → Nat} {i b j : Nat} (h : j ≠ i) : updN β i b j = β j := by simp [updN, h]
theorem updN_same {β : Nat → Nat} {i b : Nat} : updN β i b i = b := by simp [updN]

theorem vs_al (c : Chk n ops ord0 gh (vsS vs)) {x y : Vr} (hx : x ∈ vs) (hy : y ∈ vs) : x.al ≠ y.pt := by
  have hn := c.nd
  rw [List.nodup_append, List.nodup_append] at hn
  have h1 : (x.al, x.pt, x.d, x.x) ∈ vsS vs := List.mem_map.2 ⟨x, hx, rfl⟩
  have h2 : (y.al, y.pt, y.d, y.x) ∈ vsS vs := List.mem_map.2 ⟨y, hy, rfl⟩
  exact hn.1.2.2 x.al (List.mem_map.2 ⟨_, h1, rfl⟩) y.pt (List.mem_map.2 ⟨_, h2, rfl⟩)

theorem map_inj_of_nodup {α : Type} (f : α → Nat) : ∀ (l : List α), (l.map f).Nodup → ∀ x ∈ l, ∀ y ∈ l, f x = f y → x = y
  | [], _, x, hx, _, _, _ => by cases hx
  | z :: l, hn, x, hx, y, hy, h => by
    rw [List.map_cons, List.nodup_cons] at hn
    rcases List.mem_cons.1 hx with h1 | h1
    · rcases List.mem_cons.1 hy with h2 | h2
      · rw [h1, h2]
      · exact absurd (List.mem_map.2 ⟨y, h2, by rw [← h, h1]⟩) hn.1
    · rcases List.mem_cons.1 hy with h2 | h2
      · exact absurd (List.mem_map.2 ⟨x, h1, by rw [h, h2]⟩) hn.1
      · exact map_inj_of_nodup f l hn.2 x h1 y h2 h

theorem vs_inj_al (c : Chk n ops ord0 gh (vsS vs)) {x y : Vr} (hx : x ∈ vs) (hy : y ∈ vs) (h : x.al = y.al) : x = y := by
  have hn := c.nd
  rw [List.nodup_append, List.nodup_append] at hn
  have h1 := hn.1.1
  unfold vsS at h1
  rw [List.map_map] at h1
  exact map_inj_of_nodup _ vs h1 x hx y hy h
theorem vs_inj_pt (c : Chk n ops ord0 gh (vsS vs)) {x y : Vr} (hx : x ∈ vs) (hy : y ∈ vs) (h : x.pt = y.pt) : x = y := by
  have hn := c.nd
  rw [List.nodup_append, List.nodup_append] at hn
  have h1 := hn.1.2.1
  unfold vsS at h1
  rw [List.map_map] at h1
  exact map_inj_of_nodup _ vs h1 x hx y hy h

/-- A variable has been made. -/
theorem St.made (c : Chk n ops ord0 gh (vsS vs)) (h : St P n ops gh S w0 L0 ord0 vs D Dv ord F R β a w) (hFs : Stab S F) (hRs : Stab [] R) (hva : ∀ x ∈ vs, dstOf ops x.al = some x.d)
    {x : Vr} (hx : x ∈ vs) (hnd : D x.al = false) (hnp : D x.pt = false) {o : Oper} (ho : ops[x.al]? = some o) (hed : ∀ j ∈ edges o, D j = true) (hdst : o.dst = some x.d) :
    St P n ops gh S w0 L0 ord0 vs (setD D x.al) Dv ord F R (updN β x.al w.heap.size) (a.put o.dst (.pointer (some ⟨w.heap.size, 0, none⟩))) { w with heap := w.heap.push (.cells x.z x.T) } := by
  have hk : Kp [] w { w with heap := w.heap.push (.cells x.z x.T) } := Kp.push w _ rfl
  have hdn : x.d < n := c.dlt o (List.mem_of_getElem? ho) x.d hdst
  have hDvi : ∀ e ∈ Dv, e.i ≠ x.al := fun e he => (vs_lt c hx (h.ent_ord he)).1.symm
  refine ⟨setD_closed h.closed ho hed, fun i hi => ?_, h.idx, h.ent, fun pre q post hD hq => ?_, ?_, ?_, fun t v hv ht => ?_, fun y hy hd => ?_, h.kp.trans hk.any, hFs _ _ hk.any h.hF, hRs _ _ hk h.hR, fun y hy hd => ?_, fun y hy z hz hdy hdz hne => ?_⟩
  · rw [setD_ne]
    · exact h.fresh i hi
    · have : i ∈ ord0 := by rw [← h.idx]; simp [hi]
      exact (vs_lt c hx this).1.symm
  · rw [setD_ne (hDvi q (by rw [hD]; simp))] at hq
    exact h.obl pre q post hD hq
  · rw [hdst]; simp [Act.put, h.size]
  · rw [hdst]; simp [Act.put, h.defers]
  · rw [curv_setD Dv hDvi] at hv
    have := h.frame t v hv ht
    rw [hdst]
    simp only [Act.put]
    rw [Array.getElem?_setIfInBounds_ne (ht x hx)]
    exact this
  · rw [hdst]
    simp only [Act.put]
    by_cases e : y.al = x.al
    · have := vs_inj_al c hy hx e
      subst this
      rw [updN_same]
      simp [h.size, hdn]
    · rw [setD_ne e] at hd
      rw [updN_ne e]
      have hxy : x.d ≠ y.d := by
        intro e1
        have h1 := hva y hy
        unfold dstOf at h1
        cases hy1 : ops[y.al]? with
        | none => rw [hy1] at h1; simp at h1
        | some oy =>
          rw [hy1] at h1
          exact e (c.one y.al x.al oy o y.d hy1 ho h1 (by rw [hdst, e1]))
      rw [Array.getElem?_setIfInBounds_ne hxy]
      exact h.vfr y hy hd
  · by_cases e : y.al = x.al
    · have := vs_inj_al c hy hx e
      subst this
      rw [updN_same, setD_ne (vs_al c hy hy).symm, hnp]
      exact ⟨h.kp.size, Blk.push w _⟩
    · rw [setD_ne e] at hd
      rw [updN_ne e, setD_ne (vs_al c hx hy).symm]
      obtain ⟨h1, h2⟩ := h.vw y hy hd
      exact ⟨h1, h2.kp0 hk⟩
  · by_cases e : y.al = x.al
    · have hz' : z.al ≠ x.al := fun e1 => hne (e.trans e1.symm)
      rw [setD_ne hz'] at hdz
      rw [e, updN_same, updN_ne hz']
      exact Nat.ne_of_gt (h.vw z hz hdz).2.lt
    · rw [setD_ne e] at hdy
      by_cases e' : z.al = x.al
      · rw [e', updN_same, updN_ne e]
        exact Nat.ne_of_lt (h.vw y hy hdy).2.lt
      · rw [setD_ne e'] at hdz
        rw [updN_ne e, updN_ne e']
        exact h.vd y hy z hz hdy hdz hne

/-- A variable has been filled. -/
theorem St.filled (c : Chk n ops ord0 gh (vsS vs)) (h : St P n ops gh S w0 L0 ord0 vs D Dv ord F R β a w) (hF1 : ∀ w, F w) (hR1 : ∀ w, R w) (hS : ∀ x ∈ S, x < w0.heap.size)
    {x : Vr} (hx : x ∈ vs) (had : D x.al = true) (hnp : D x.pt = false) {o : Oper} (ho : ops[x.pt]? = some o) (hed : ∀ j ∈ edges o, D j = true) (hdst : o.dst = none) :
    St P n ops gh S w0 L0 ord0 vs (setD D x.pt) Dv ord F R β (a.put o.dst undef) { w with heap := w.heap.setIfInBounds (β x.al) (.cells x.c x.T) } := by
  obtain ⟨hb0, hb⟩ := h.vw x hx had
  rw [hnp] at hb
  simp only [Bool.false_eq_true, if_false] at hb
  have hk : Kp [β x.al] w { w with heap := w.heap.setIfInBounds (β x.al) (.cells x.c x.T) } := Kp.set w hb rfl rfl
  have hDvi : ∀ e ∈ Dv, e.i ≠ x.pt := fun e he => (vs_lt c hx (h.ent_ord he)).2.symm
  rw [hdst]
  refine ⟨setD_closed h.closed ho hed, fun i hi => ?_, h.idx, h.ent, fun pre q post hD hq => ?_, h.size, h.defers, fun t v hv ht => ?_, fun y hy hd => ?_, h.kp.trans_new hk ?_, hF1 _, hR1 _, fun y hy hd => ?_, fun y hy z hz hdy hdz hne => ?_⟩
  · rw [setD_ne]
    · exact h.fresh i hi
    · have : i ∈ ord0 := by rw [← h.idx]; simp [hi]
      exact (vs_lt c hx this).2.symm
  · rw [setD_ne (hDvi q (by rw [hD]; simp))] at hq
    exact h.obl pre q post hD hq
  · rw [curv_setD Dv hDvi] at hv
    exact h.frame t v hv ht
  · rw [setD_ne (vs_al c hy hx)] at hd
    exact h.vfr y hy hd
  · intro i hi
    simp only [List.mem_singleton] at hi
    exact Or.inr (hi ▸ hb0)
  · rw [setD_ne (vs_al c hy hx)] at hd
    obtain ⟨h1, h2⟩ := h.vw y hy hd
    refine ⟨h1, ?_⟩
    by_cases e : y.al = x.al
    · have := vs_inj_al c hy hx e
      subst this
      rw [setD_same]
      exact hb.set _
    · have hpt : y.pt ≠ x.pt := fun e1 => e (by rw [vs_inj_pt c hy hx e1])
      rw [setD_ne hpt]
      exact h2.kp hk (by simp only [List.mem_singleton]; exact h.vd y hy x hx hd had e)
  · rw [setD_ne (vs_al c hy hx)] at hdy
    rw [setD_ne (vs_al c hz hx)] at hdz
    exact h.vd y hy z hz hdy hdz hne

end
end Go.Proofs.Ytfelaicoedlejaa
