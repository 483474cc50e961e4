/-
  The rule for effects that stand beside one another.
-/
import Derived.Test.YtfelaicoedlejaaFree
namespace Go.Proofs.Ytfelaicoedlejaa
set_option linter.unusedVariables false

def ordX (ops : List Oper) (gi : List Nat) : List Nat → List Nat → Bool
  | _, [] => true
  | pre, i :: rest =>
    ((ops[i]?).map fun o => (lks ops o).all fun t => pre.all (fun j => !(dstOf ops j == some t) || anc ops i j) && rest.all (fun j => !(dstOf ops j == some t) || anc ops j i)).getD false &&
    (!gi.elem i || rest.all (fun j => gi.elem j || anc ops j i)) && ordX ops gi (i :: pre) rest
def chkX (n : Nat) (ops : List Oper) (ord gi : List Nat) (k : Nat) : Bool :=
  ops.all (fun o => !isSelect o.op) && ops.all (fun o => o.dst.all (fun d => Nat.blt d n)) && nodupB (ops.filterMap (·.dst)) &&
  (List.range k).all (fun i => ord.elem i) && nodupB ord && ordX ops gi [] ord && ord.all (fun i => Nat.blt i k) && Nat.ble k ops.length &&
  ((List.range ops.length).all fun i => ((ops[i]?).map fun o => (edges o).all (fun e => Nat.blt e i)).getD false) &&
  ((List.range ops.length).all fun i => Nat.blt i k || (List.range i).all (fun j => anc ops i j)) && gi.all (fun i => ord.elem i)

section
variable {P : Program} {n : Nat} {ops : List Oper} {Q : Exit → Act → World → Prop} {w0 : World} {L0 : Env} {G : List (Nat × GD)} {ord gi : List Nat} {k : Nat}

theorem ordX_spec : ∀ (rest pre : List Nat), ordX ops gi pre rest = true → ∀ A r B, rest = A ++ r :: B → ∀ o, ops[r]? = some o →
    (∀ t ∈ lks ops o, (∀ j, j ∈ A ∨ j ∈ pre → dstOf ops j = some t → anc ops r j = true) ∧ (∀ j ∈ B, dstOf ops j = some t → anc ops j r = true)) ∧ (gi.elem r = true → ∀ j ∈ B, gi.elem j = true ∨ anc ops j r = true)
  | [], _, _, A, r, B, h, _, _ => by cases A <;> simp at h
  | i :: rest, pre, h, A, r, B, he, o, ho => by
    simp only [ordX, Bool.and_eq_true] at h
    obtain ⟨⟨h1, h2⟩, h3⟩ := h
    cases A with
    | nil =>
      simp only [List.nil_append, List.cons.injEq] at he
      obtain ⟨rfl, rfl⟩ := he
      rw [ho] at h1
      simp only [Option.map_some, Option.getD_some] at h1
      refine ⟨fun t ht => ?_, fun hg j hj => ?_⟩
      · have := List.all_eq_true.1 h1 t ht
        simp only [Bool.and_eq_true] at this
        refine ⟨fun j hj hd => ?_, fun j hj hd => ?_⟩
        · rcases hj with hj | hj
          · cases hj
          · have := List.all_eq_true.1 this.1 j hj
            simpa [hd] using this
        · have := List.all_eq_true.1 this.2 j hj
          simpa [hd] using this
      · rw [hg] at h2
        simp only [Bool.not_true, Bool.false_or] at h2
        have := List.all_eq_true.1 h2 j hj
        simpa using this
    | cons a A =>
      simp only [List.cons_append, List.cons.injEq] at he
      obtain ⟨rfl, rfl⟩ := he
      obtain ⟨g1, g2⟩ := ordX_spec _ (i :: pre) h3 A r B rfl o ho
      refine ⟨fun t ht => ⟨fun j hj hd => (g1 t ht).1 j ?_ hd, (g1 t ht).2⟩, g2⟩
      rcases hj with hj | hj
      · rcases List.mem_cons.1 hj with rfl | hj
        · exact Or.inr (by simp)
        · exact Or.inl hj
      · exact Or.inr (by simp [hj])

structure ChkX (n : Nat) (ops : List Oper) (ord gi : List Nat) (k : Nat) : Prop where
  sel : ∀ o ∈ ops, isSelect o.op = false
  dlt : ∀ o ∈ ops, ∀ d, o.dst = some d → d < n
  one : ∀ (i j : Nat) (oi oj : Oper) (t : Nat), ops[i]? = some oi → ops[j]? = some oj → oi.dst = some t → oj.dst = some t → i = j
  cover : ∀ i, i < k → i ∈ ord
  nodup : ord.Nodup
  ok : ordX ops gi [] ord = true
  lt : ∀ i ∈ ord, i < k
  le : k ≤ ops.length
  ed : ∀ (i : Nat) (o : Oper), ops[i]? = some o → ∀ e ∈ edges o, e < i
  tl : ∀ i, i < ops.length → k ≤ i → ∀ j, j < i → anc ops i j = true
  gi : ∀ i ∈ gi, i ∈ ord
theorem ChkX.of (h : chkX n ops ord gi k = true) : ChkX n ops ord gi k := by
  simp only [chkX, Bool.and_eq_true] at h
  obtain ⟨⟨⟨⟨⟨⟨⟨⟨⟨⟨h1, h2⟩, h3⟩, h4⟩, h5⟩, h6⟩, h7⟩, h8⟩, h9⟩, h10⟩, h11⟩ := h
  refine ⟨fun o ho => ?_, fun o ho d hd => ?_, nodup_filterMap_inj ops (nodup_of_B _ h3), fun i hi => ?_, nodup_of_B _ h5, h6, fun i hi => ?_, by simpa [Nat.ble_eq] using h8, fun i o ho e he => ?_, fun i hi hk j hj => ?_, fun i hi => ?_⟩
  · simpa using List.all_eq_true.1 h1 o ho
  · have := List.all_eq_true.1 h2 o ho
    rw [hd] at this
    simpa [Nat.blt_eq] using this
  · have := List.all_eq_true.1 h4 i (by simpa using hi)
    rw [List.elem_eq_mem] at this
    exact of_decide_eq_true this
  · simpa [Nat.blt_eq] using List.all_eq_true.1 h7 i hi
  · have := List.all_eq_true.1 h9 i (by simpa using (List.getElem?_eq_some_iff.1 ho).1)
    rw [ho] at this
    simp only [Option.map_some, Option.getD_some] at this
    simpa [Nat.blt_eq] using List.all_eq_true.1 this e he
  · have := List.all_eq_true.1 h10 i (by simpa using hi)
    simp only [Bool.or_eq_true, Nat.blt_eq] at this
    rcases this with h | h
    · omega
    · exact List.all_eq_true.1 h j (by simpa using hj)
  · have := List.all_eq_true.1 h11 i hi
    rw [List.elem_eq_mem] at this
    exact of_decide_eq_true this

theorem isGh_iff : ∀ {G : List (Nat × GD)} {i : Nat}, isGh G i = (G.map (·.1)).elem i
  | [], i => rfl
  | (j, d) :: G, i => by
    have ih := isGh_iff (G := G) (i := i)
    unfold isGh at *
    simp only [gdLook, List.map_cons, List.elem_cons]
    by_cases e : j = i
    · subst e; simp
    · have h1 : Nat.beq j i = false := by rw [← Bool.not_eq_true, Nat.beq_eq]; exact e
      have h2 : (i == j) = false := by simp; exact fun h => e h.symm
      rw [h1, h2]
      simpa using ih

/-- What is so on the way. -/
structure StX (P : Program) (n : Nat) (ops : List Oper) (w0 : World) (L0 : Env) (G : List (Nat × GD)) (K : Env → List Fact → Prop) (ord : List Nat) (D : Nat → Bool) (V : Nat → Value) (ξ : (i : Nat) → (gdOf G i).X) (a : Act) (w : World) : Prop where
  closed : ∀ (i : Nat) (o : Oper), ops[i]? = some o → D i = true → ∀ e ∈ edges o, D e = true
  size : a.tmps.size = n
  defers : a.defers = []
  slot : ∀ (i : Nat) (o : Oper) (d : Nat), ops[i]? = some o → D i = true → o.dst = some d → a.tmps[d]? = some (gave G V ξ i)
  old : ∀ t v, look L0 t = some v → (∀ (i : Nat) (o : Oper), ops[i]? = some o → D i = true → o.dst ≠ some t) → a.tmps[t]? = some v
  kp : Kp [] w0 w
  ph : ∀ i, isGh G i = true → D i = true → (gdOf G i).phi (ξ i) w
  live : Live P w0 ops G K D V ξ ord L0 []

theorem StX.looks {K : Env → List Fact → Prop} {D : Nat → Bool} {V : Nat → Value} {ξ : (i : Nat) → (gdOf G i).X} {a : Act} {w : World} (c : ChkX n ops ord gi k) (hst : StX P n ops w0 L0 G K ord D V ξ a w) (htl : ∀ i, i < ops.length → k ≤ i → D i = false)
    {r : Nat} {o : Oper} {A B : List Nat} {L' : Env} (he : ord = A ++ r :: B) (ho : ops[r]? = some o) (hdr : D r = false) (hanc : ∀ j, anc ops r j = true → D j = true) (hway : Way ops G L0 D V ξ (A.reverse ++ []) L') :
    ∀ t ∈ lks ops o, ∀ v, look L' t = some v → a.tmps[t]? = some v := by
  intro t ht v hv
  obtain ⟨g1, _⟩ := ordX_spec ord [] c.ok A r B he o ho
  rcases hway t v hv with ⟨j, hj, h1, h2⟩ | ⟨h1, h2⟩
  · have hjA : j ∈ A := by simpa using hj
    have hdj := hanc j ((g1 t ht).1 j (Or.inl hjA) h1)
    unfold dstOf at h1
    cases hoj : ops[j]? with
    | none => rw [hoj] at h1; simp at h1
    | some oj =>
      rw [hoj] at h1
      simp only [Option.bind_some] at h1
      rw [hst.slot j oj t hoj hdj h1, h2 hdj]
  · refine hst.old t v h2 (fun i oi hoi hdi e => ?_)
    have hil := (List.getElem?_eq_some_iff.1 hoi).1
    have hik : i < k := by
      by_cases h : i < k
      · exact h
      · rw [htl i hil (by omega)] at hdi; cases hdi
    have hio := c.cover i hik
    have hdi' : dstOf ops i = some t := by simp [dstOf, hoi, e]
    rw [he] at hio
    rcases List.mem_append.1 hio with hA | hB
    · exact h1 i (by simpa using hA) hdi'
    · rcases List.mem_cons.1 hB with rfl | hB
      · rw [hdr] at hdi; cases hdi
      · have h3 := (g1 t ht).2 i hB hdi'
        have := anc_closed hst.closed i oi hoi (hst.closed i oi hoi hdi) r h3
        rw [hdr] at this
        cases this

theorem gave_updV {V : Nat → Value} {ξ : (i : Nat) → (gdOf G i).X} {r i : Nat} {v : Value} (h : i ≠ r) : gave G (updV V r v) ξ i = gave G V ξ i := by simp [gave, updV, h]
theorem gave_updX {V : Nat → Value} {ξ : (i : Nat) → (gdOf G i).X} {r i : Nat} {x : (gdOf G r).X} (h : i ≠ r) : gave G V (updX ξ r x) i = gave G V ξ i := by simp [gave, updX_ne h]

theorem put_slot {a : Act} {n : Nat} {dst : Option Nat} {v : Value} (hs : a.tmps.size = n) (t : Nat) (u : Value) (h : a.tmps[t]? = some u) (hne : dst ≠ some t) : (a.put dst v).tmps[t]? = some u := by
  cases dst with
  | none => exact h
  | some d =>
    have : d ≠ t := fun e => hne (by rw [e])
    simp only [Act.put]
    rw [Array.getElem?_setIfInBounds_ne this]
    exact h
theorem put_here {a : Act} {n d : Nat} {v : Value} (hs : a.tmps.size = n) (hd : d < n) : (a.put (some d) v).tmps[d]? = some v := by simp [Act.put, hs, hd]

/-- One is done. -/
theorem StX.did {K : Env → List Fact → Prop} {D : Nat → Bool} {V V' : Nat → Value} {ξ ξ' : (i : Nat) → (gdOf G i).X} {a : Act} {w w' : World} (c : ChkX n ops ord gi k) (hst : StX P n ops w0 L0 G K ord D V ξ a w) {r : Nat} {o : Oper} {v : Value} (ho : ops[r]? = some o) (hed : ∀ e ∈ edges o, D e = true)
    (hk : Kp [] w w') (hstab : ∀ i x, Stab [] ((gdOf G i).phi x)) (hv : gave G V' ξ' r = v) (hoth : ∀ i, i ≠ r → gave G V' ξ' i = gave G V ξ i) (hx : ∀ i, i ≠ r → ξ' i = ξ i) (hr : isGh G r = true → (gdOf G r).phi (ξ' r) w') (hlive : Live P w0 ops G K (setD D r) V' ξ' ord L0 []) :
    StX P n ops w0 L0 G K ord (setD D r) V' ξ' (a.put o.dst v) w' := by
  refine ⟨fun i oi hoi hdi e he => ?_, ?_, ?_, fun i oi d hoi hdi hd => ?_, fun t u hu hno => ?_, hst.kp.trans hk, fun i hg hdi => ?_, hlive⟩
  · by_cases hir : i = r
    · subst hir
      rw [ho] at hoi
      cases hoi
      exact setD_of (hed e he)
    · rw [setD_ne hir] at hdi
      exact setD_of (hst.closed i oi hoi hdi e he)
  · cases hdd : o.dst with
    | none => exact hst.size
    | some d => simp [Act.put, hst.size]
  · cases hdd : o.dst <;> exact hst.defers
  · by_cases hir : i = r
    · subst hir
      rw [ho] at hoi
      cases hoi
      rw [hd, hv]
      exact put_here hst.size (c.dlt o (List.mem_of_getElem? ho) d hd)
    · rw [setD_ne hir] at hdi
      rw [hoth i hir]
      exact put_slot hst.size d _ (hst.slot i oi d hoi hdi hd) (fun e => hir (c.one i r oi o d hoi ho hd e))
  · refine put_slot hst.size t u (hst.old t u hu (fun i oi hoi hdi => hno i oi hoi (setD_of hdi))) (hno r o ho setD_same)
  · by_cases hir : i = r
    · subst hir
      exact hr hg
    · rw [setD_ne hir] at hdi
      rw [hx i hir]
      exact hstab i _ w w' hk (hst.ph i hg hdi)

def KX (n : Nat) (w0 : World) (P : Program) (ops : List Oper) (Q : Exit → Act → World → Prop) (k : Nat) (L : Env) (Γ : List Fact) : Prop :=
  ∀ w', Kp [] w0 w' → (∀ p ∈ Γ, p.2 w') → ∀ a, Fits n a L → wpList P ops.toArray Q (ops.drop k) a w'

theorem StX.wpAny (c : ChkX n ops ord (G.map (·.1)) k) (hstab : ∀ i x, Stab [] ((gdOf G i).phi x)) : ∀ (fuel : Nat) (listed : Array Bool) (V : Nat → Value) (ξ : (i : Nat) → (gdOf G i).X) (a : Act) (w : World),
    listed.size = ops.length → StX P n ops w0 L0 G (KX n w0 P ops Q k) ord (fun j => listed.getD j true) V ξ a w → (∀ i, i < ops.length → k ≤ i → listed.getD i true = false) →
    (List.range ops.length).countP (fun i => !listed.getD i true) = fuel → Go.wpAny P .any ops.toArray Q fuel listed a w := by
  have hfin : ∀ (listed : Array Bool) (V : Nat → Value) (ξ : (i : Nat) → (gdOf G i).X) (a : Act) (w : World), StX P n ops w0 L0 G (KX n w0 P ops Q k) ord (fun j => listed.getD j true) V ξ a w → (∀ i, i < ops.length → k ≤ i → listed.getD i true = false) → (∀ i, i < k → listed.getD i true = true) → wpList P ops.toArray Q (ops.drop k) a w := by
    intro listed V ξ a w hst htl hpre
    obtain ⟨L', Γ', h1, h2, h3⟩ := Live.done (L0 := L0) (pre := []) hst.ph (fun i hi => hpre i (c.lt i hi)) Way.nil (by simp) hst.live
    refine h3 w hst.kp h2 a ⟨fun t v hv => ?_, hst.size, hst.defers⟩
    rcases h1 t v hv with ⟨j, hj, g1, g2⟩ | ⟨g1, g2⟩
    · have hjo : j ∈ ord := by simpa using hj
      have hdj := hpre j (c.lt j hjo)
      unfold dstOf at g1
      cases hoj : ops[j]? with
      | none => rw [hoj] at g1; simp at g1
      | some oj =>
        rw [hoj] at g1
        simp only [Option.bind_some] at g1
        rw [hst.slot j oj t hoj hdj g1, g2 hdj]
    · refine hst.old t v g2 (fun i oi hoi hdi e => ?_)
      have hil := (List.getElem?_eq_some_iff.1 hoi).1
      have hik : i < k := by
        by_cases h : i < k
        · exact h
        · simp only [htl i hil (by omega)] at hdi; cases hdi
      exact g1 i (by simpa using c.cover i hik) (by simp [dstOf, hoi, e])
  intro fuel
  induction fuel with
  | zero =>
    intro listed V ξ a w hsz hst htl hcnt
    rw [List.countP_eq_zero] at hcnt
    have hall : ∀ i, i < ops.length → listed.getD i true = true := fun i hi => by simpa using hcnt i (by simpa using hi)
    have hle := c.le
    have hk : k = ops.length := by
      by_cases h : k < ops.length
      · have := htl k h (Nat.le_refl _)
        rw [hall k h] at this
        cases this
      · omega
    exact wpAny_tail c.ed 0 k listed a w (by omega) hsz c.tl hst.closed (fun i hi => by rw [hall i hi]; simp; omega) (hfin listed V ξ a w hst htl (fun i hi => hall i (by omega)))
  | succ fuel ih =>
    intro listed V ξ a w hsz hst htl hcnt
    have hle := c.le
    by_cases hpre : ∀ i, i < k → listed.getD i true = true
    · have hdec : ∀ i, i < ops.length → listed.getD i true = decide (i < k) := by
        intro i hi
        by_cases hik : i < k
        · rw [hpre i hik]; simp [hik]
        · rw [htl i hi (by omega)]; simp [hik]
      have hm : k + (fuel + 1) = ops.length := by
        have : (List.range ops.length).countP (fun i => !listed.getD i true) = ops.length - k := by
          have e1 : (List.range ops.length).countP (fun i => !listed.getD i true) = (List.range ops.length).countP (fun i => !decide (i < k)) := by
            apply List.countP_congr
            intro i hi
            rw [hdec i (by simpa using hi)]
          rw [e1]
          have : ops.length = k + (ops.length - k) := by omega
          rw [this, List.range_add, List.countP_append, List.countP_map]
          have h1 : (List.range k).countP (fun i => !decide (i < k)) = 0 := by
            rw [List.countP_eq_zero]; intro i hi; simp at hi; simp [hi]
          have h2 : (List.range (ops.length - k)).countP ((fun i => !decide (i < k)) ∘ fun x => k + x) = (List.range (ops.length - k)).length := by
            rw [List.countP_eq_length]; intro i hi; simp
          rw [h1, h2]
          simp
        omega
      exact wpAny_tail c.ed (fuel + 1) k listed a w hm hsz c.tl hst.closed hdec (hfin listed V ξ a w hst htl hpre)
    · constructor
      · intro hr
        exfalso
        apply hpre
        intro i
        induction i using Nat.strongRecOn with
        | _ i ihi =>
          intro hik
          cases hd : listed.getD i true with
          | true => rfl
          | false =>
            exfalso
            have : i ∈ Region.ready .any ops.toArray listed := by
              refine (ready_iff hsz).2 ⟨ops[i], by simp, hd, fun e he => ?_⟩
              have hei := c.ed i ops[i] (by simp) e he
              have := ihi e hei (by omega)
              simp only [Array.getD_eq_getD_getElem?] at this ⊢
              rw [Array.getElem?_eq_getElem (by omega)] at this ⊢
              exact this
            rw [hr] at this
            cases this
      · intro i hi
        obtain ⟨o, ho, hnd, hed'⟩ := (ready_iff hsz).1 hi
        have hil : i < ops.length := (List.getElem?_eq_some_iff.1 ho).1
        have hed : ∀ e ∈ edges o, listed.getD e true = true := by
          intro e he
          have := hed' e he
          simp only [Array.getD_eq_getD_getElem?] at this ⊢
          cases h : listed[e]? with
          | none => rfl
          | some b => rw [h] at this; exact this
        have hanc : ∀ j, anc ops i j = true → listed.getD j true = true := anc_closed hst.closed i o ho hed
        have hsz' : (listed.setIfInBounds i true).size = ops.length := by simp [hsz]
        have hset : (fun j => (listed.setIfInBounds i true).getD j true) = setD (fun j => listed.getD j true) i := funext fun j => getD_set (by omega)
        by_cases hik : i < k
        · have htl' : ∀ j, j < ops.length → k ≤ j → (listed.setIfInBounds i true).getD j true = false := by
            intro j hj hkj
            rw [getD_set (by omega), setD_ne (by omega)]
            exact htl j hj hkj
          have hcnt' : (List.range ops.length).countP (fun j => !(listed.setIfInBounds i true).getD j true) = fuel := by
            have key : ∀ (l : List Nat), l.Nodup → i ∈ l → l.countP (fun j => !listed.getD j true) = l.countP (fun j => !(listed.setIfInBounds i true).getD j true) + 1 := by
              intro l
              induction l with
              | nil => intro _ h; cases h
              | cons y l ihl =>
                intro hnl hm
                rw [List.nodup_cons] at hnl
                rw [List.countP_cons, List.countP_cons]
                by_cases e : y = i
                · subst e
                  have hsame : l.countP (fun j => !listed.getD j true) = l.countP (fun j => !(listed.setIfInBounds y true).getD j true) := by
                    apply List.countP_congr
                    intro j hj
                    rw [getD_set (by omega), setD_ne (show j ≠ y from fun e1 => hnl.1 (e1 ▸ hj))]
                  rw [hsame, getD_set (by omega), setD_same, hnd]
                  simp
                · have hm' : i ∈ l := by
                    rcases List.mem_cons.1 hm with h | h
                    · exact absurd h.symm e
                    · exact h
                  rw [ihl hnl.2 hm', getD_set (by omega), setD_ne e]
                  omega
            have := key (List.range ops.length) List.nodup_range (by simpa using hil)
            omega
          have hio := c.cover i hik
          cases hg : isGh G i with
          | false =>
            have hgd : ∀ g A B, ord = A ++ g :: B → i ∈ B → isGh G g = true → listed.getD g true = true := by
              intro g A B he hb hgg
              have hgo : g ∈ ord := by rw [he]; simp
              have hgl : g < ops.length := Nat.lt_of_lt_of_le (c.lt g hgo) hle
              obtain ⟨_, g2⟩ := ordX_spec ord [] c.ok A g B he ops[g] (by simp [hgl])
              rcases g2 (by rw [← isGh_iff]; exact hgg) i hb with h | h
              · rw [← isGh_iff, hg] at h; cases h
              · exact hanc g h
            obtain ⟨o', L', Γ', A, B, e1, e2, e3, e4, e5⟩ := Live.plain (D := fun j => listed.getD j true) hg hnd c.nodup hio hgd Way.nil (by simp) hst.ph hst.live
            have heo : o = o' := Option.some.inj (ho.symm.trans e2)
            subst heo
            have hlk := hst.looks c htl e1 ho hnd hanc e3
            rcases e5 with ⟨hw, hl⟩ | ⟨hw, v, hkn, hrun, hl⟩
            · refine wpOp_of ho (wanted_of hlk hw) (fun h => by cases h) (fun _ => ?_)
              refine ih _ (updV V i undef) ξ _ w hsz' ?_ htl' hcnt'
              rw [hset]
              exact hst.did c ho hed (Kp.refl _ _) hstab (by simp [gave, hg, updV]) (fun j hj => gave_updV hj) (fun j hj => rfl) (fun h => by rw [hg] at h; cases h) hl
            · refine wpOp_of ho (wanted_of hlk hw) (fun _ => ?_) (fun h => by cases h)
              have hr := hrun w hst.kp (fun p hp ha => e4 p hp (hanc p.1 ha))
              have hr' := OpRun.congr (c.sel o (List.mem_of_getElem? ho)) (eval_of hlk hkn) hr
              refine hr'.wp (fun v' w' ⟨h1, h2⟩ => ?_)
              subst h1
              refine ih _ (updV V i v') ξ _ w' hsz' ?_ htl' hcnt'
              rw [hset]
              exact hst.did c ho hed h2 hstab (by simp [gave, hg, updV]) (fun j hj => gave_updV hj) (fun j hj => rfl) (fun h => by rw [hg] at h; cases h) hl
          | true =>
            obtain ⟨o', L', Γ', A, B, e1, e2, e3, e4, hw, hkn, hrun⟩ := Live.effect (D := fun j => listed.getD j true) hg hnd hst.ph c.nodup hio Way.nil (by simp) hst.live
            have heo : o = o' := Option.some.inj (ho.symm.trans e2)
            subst heo
            have hlk := hst.looks c htl e1 ho hnd hanc e3
            refine wpOp_of ho (wanted_of hlk hw) (fun _ => ?_) (fun h => by cases h)
            have hr := hrun w hst.kp (fun p hp ha => e4 p hp (hanc p.1 ha))
            have hr' := OpRun.congr (c.sel o (List.mem_of_getElem? ho)) (eval_of hlk hkn) hr
            refine hr'.wp (fun v' w' ⟨x, h1, h2, h3⟩ => ?_)
            subst h1
            refine ih _ V (updX ξ i x) _ w' hsz' ?_ htl' hcnt'
            rw [hset]
            exact hst.did c ho hed h3 hstab (by simp [gave, hg, updX_same]) (fun j hj => gave_updX hj) (fun j hj => updX_ne hj) (fun _ => by rw [updX_same]; exact h2) (Live.effected hg hnd x c.nodup hst.live)
        · exfalso
          apply hpre
          intro j hj
          exact hanc j (c.tl i hil (by omega) j (by omega))

theorem CG.free {id : Nat} (hm : P.follows .mixedOrders = true) (k : Nat) (ord : List Nat) (G : List (Nat × GD)) (hc : chkX n ops ord (G.map (·.1)) k = true) (hstab : ∀ p ∈ G, ∀ x, Stab [] (p.2.phi x))
    (h : DerX P w0 ops G (KX n w0 P ops Q k) ord L0 []) : CG P n (.region id ops.toArray true) Q L0 w0 := by
  intro a ha
  have c := ChkX.of hc
  refine wp_region_any hm ?_
  have hget : ∀ j, (Array.replicate ops.toArray.size false).getD j true = !decide (j < ops.length) := by
    intro j
    simp [Array.getD_eq_getD_getElem?, Array.getElem?_replicate]
    split <;> simp_all
  have hstab' : ∀ i x, Stab [] ((gdOf G i).phi x) := by
    have : ∀ (G : List (Nat × GD)), (∀ p ∈ G, ∀ x, Stab [] (p.2.phi x)) → ∀ i, ∀ x, Stab [] ((gdOf G i).phi x) := by
      intro G
      induction G with
      | nil => intro _ i x w w' _ _; exact trivial
      | cons p G ih =>
        intro h i
        obtain ⟨j, d⟩ := p
        have e : gdOf ((j, d) :: G) i = (if Nat.beq j i = true then d else gdOf G i) := by
          unfold gdOf
          simp only [gdLook]
          cases Nat.beq j i <;> rfl
        by_cases hb : Nat.beq j i = true
        · rw [e, if_pos hb]
          exact h (j, d) (by simp)
        · rw [e, if_neg hb]
          exact ih (fun q hq => h q (by simp [hq])) i
    exact this G hstab
  refine StX.wpAny (w0 := w0) (L0 := L0) (G := G) c hstab' _ _ (fun _ => undef) (fun i => (gdOf G i).x0) a _ (by simp) ?_ ?_ ?_
  · have hD : (fun j => (Array.replicate ops.toArray.size false).getD j true) = fun j => !decide (j < ops.length) := funext hget
    rw [hD]
    refine ⟨fun i o ho hd => ?_, ha.size, ha.defers, fun i o d ho hd => ?_, fun t v hv _ => ha.slot t v hv, (Kp.refl [] w0).drew, fun i hg hd => ?_, ?_⟩
    · simp [(List.getElem?_eq_some_iff.1 ho).1] at hd
    · simp [(List.getElem?_eq_some_iff.1 ho).1] at hd
    · rw [isGh_iff, List.elem_eq_mem] at hg
      have := c.lt i (c.gi i (of_decide_eq_true hg))
      have hle := c.le
      have hil : i < ops.length := by omega
      simp [hil] at hd
    · refine Live.congr (fun i hi => ⟨?_, rfl, rfl⟩) h
      have h1 := c.lt i hi
      have hle := c.le
      have hil : i < ops.length := by omega
      simp [hil]
  · intro i hi _
    rw [hget]; simp [hi]
  · have : (List.range ops.length).countP (fun i => !(Array.replicate ops.toArray.size false).getD i true) = (List.range ops.length).length := by
      rw [List.countP_eq_length]
      intro i hi
      rw [hget]
      simp at hi
      simp [hi]
    rw [this]
    simp
end
end Go.Proofs.Ytfelaicoedlejaa
