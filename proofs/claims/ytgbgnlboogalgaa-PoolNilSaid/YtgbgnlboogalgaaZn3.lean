import Derived.Test.YtgbgnlboogalgaaZn2
namespace Go.Proofs.Ytgbgnlboogalgaa
set_option linter.unusedVariables false
def giR (G : List RE) : List Nat := (G.map (·.i)).filter (fun i => Nat.blt i 1000)
theorem isR_iff {G : List RE} {i : Nat} (hi : i < 1000) : isR G i = (giR G).elem i := by
  rw [Bool.eq_iff_iff, List.elem_eq_mem, decide_eq_true_iff]
  unfold isR giR
  rw [List.any_eq_true, List.mem_filter, List.mem_map]
  constructor
  · rintro ⟨e, he, h⟩
    exact ⟨⟨e, he, by simpa using h⟩, by simp [Nat.blt_eq, hi]⟩
  · rintro ⟨⟨e, he, h⟩, _⟩
    exact ⟨e, he, by simp [h]⟩
theorem befs_len : ∀ (r : List Oper) (acc : List Nat), (befs r acc).length = acc.length + r.length
  | [], acc => by simp [befs]
  | o :: r, acc => by simp only [befs]; rw [befs_len r]; simp; omega
/-- Where nothing is done the values don't count. -/
theorem LiveR.anyV {P : Program} {S : List Nat} {w0 : World} {ops : List Oper} {G : List RE} {K : Env → Gm → Prop} {D : Nat → Bool} {V V' : Nat → Value} : ∀ {ord : List Nat} {L : Env} {Γ : Gm}, (∀ i ∈ ord, D i = false) → LiveR P S w0 ops G K D V ord L Γ → LiveR P S w0 ops G K D V' ord L Γ
  | [], _, _, _, h => h
  | i :: ord, L, Γ, he, ⟨o, ho, h⟩ => by
    have e1 := he i (by simp)
    have he' : ∀ j ∈ ord, D j = false := fun j hj => he j (by simp [hj])
    refine ⟨o, ho, ?_⟩
    rcases h with ⟨hg, h⟩ | ⟨hg, h⟩
    · refine Or.inl ⟨hg, ?_⟩
      rcases h with ⟨hd, h⟩ | ⟨hd, hw, h⟩ | ⟨hd, hw, v, hk, hc, h⟩
      · rw [e1] at hd; cases hd
      · exact Or.inr (Or.inl ⟨hd, hw, LiveR.anyV he' h⟩)
      · exact Or.inr (Or.inr ⟨hd, hw, v, hk, hc, LiveR.anyV he' h⟩)
    · refine Or.inr ⟨hg, ?_⟩
      rcases h with ⟨hd, h⟩ | ⟨hd, hw, hk, hc, h⟩
      · rw [e1] at hd; cases hd
      · exact Or.inr ⟨hd, hw, hk, hc, fun x => LiveR.anyV he' (h x)⟩
section
variable {P : Program} {n : Nat} {S : List Nat} {ops : List Oper} {Q : Exit → Act → World → Prop} {w0 : World} {L0 : Env} {G : List RE} {Γ0 : Gm} {ord : List Nat} {k : Nat}
structure StR (P : Program) (n : Nat) (S : List Nat) (ops : List Oper) (w0 : World) (L0 : Env) (G : List RE) (Γ0 : Gm) (K : Env → Gm → Prop) (ord : List Nat) (D : Nat → Bool) (V : Nat → Value) (a : Act) (w : World) : Prop where
  closed : ∀ (i : Nat) (o : Oper), ops[i]? = some o → D i = true → ∀ e ∈ edges o, D e = true
  size : a.tmps.size = n
  defers : a.defers = []
  slot : ∀ (i : Nat) (o : Oper) (d : Nat), ops[i]? = some o → D i = true → o.dst = some d → a.tmps[d]? = some (V i)
  old : ∀ t v, look L0 t = some v → (∀ (i : Nat) (o : Oper), ops[i]? = some o → D i = true → o.dst ≠ some t) → a.tmps[t]? = some v
  ok : SOk S w0 G D V w
  ini : ∀ p ∈ Γ0, V p.1 = p.2 ∧ D p.1 = true ∧ ops.length ≤ p.1
  live : LiveR P S w0 ops G K D V ord L0 Γ0
theorem StR.looks {K : Env → Gm → Prop} {D : Nat → Bool} {V : Nat → Value} {a : Act} {w : World} (c : ChkX n ops ord (giR G) k) (hst : StR P n S ops w0 L0 G Γ0 K ord D V a w) (htl : ∀ i, i < ops.length → k ≤ i → D i = false)
    {r : Nat} {o : Oper} {A B : List Nat} {L' : Env} (he : ord = A ++ r :: B) (ho : ops[r]? = some o) (hdr : D r = false) (hanc : ∀ j, anc ops r j = true → D j = true) (hway : WayR ops L0 D V (A.reverse ++ []) L') :
    ∀ t ∈ lks ops o, ∀ v, look L' t = some v → a.tmps[t]? = some v := by
  intro t ht v hv
  obtain ⟨g1, _⟩ := ordX_spec ord [] c.ok A r B he o ho
  rcases hway t v hv with ⟨j, hj, h1, h2⟩ | ⟨h1, h2⟩
  · have hjA : j ∈ A := by simpa using hj
    have hdj := hanc j ((g1 t ht).1 j (Or.inl hjA) h1)
    unfold dstOf at h1
    cases hoj : ops[j]? with
    | none => rw [hoj] at h1; simp at h1
    | some oj =>
      rw [hoj] at h1
      simp only [Option.bind_some] at h1
      rw [hst.slot j oj t hoj hdj h1, h2 hdj]
  · refine hst.old t v h2 (fun i oi hoi hdi e => ?_)
    have hil := (List.getElem?_eq_some_iff.1 hoi).1
    have hik : i < k := by
      by_cases h : i < k
      · exact h
      · rw [htl i hil (by omega)] at hdi; cases hdi
    have hio := c.cover i hik
    have hdi' : dstOf ops i = some t := by simp [dstOf, hoi, e]
    rw [he] at hio
    rcases List.mem_append.1 hio with hA | hB
    · exact h1 i (by simpa using hA) hdi'
    · rcases List.mem_cons.1 hB with rfl | hB
      · rw [hdr] at hdi; cases hdi
      · have h3 := (g1 t ht).2 i hB hdi'
        have := anc_closed hst.closed i oi hoi (hst.closed i oi hoi hdi) r h3
        rw [hdr] at this
        cases this
/-- One is done. -/
theorem StR.did {K : Env → Gm → Prop} {D : Nat → Bool} {V : Nat → Value} {a : Act} {w w' : World} (c : ChkX n ops ord (giR G) k) (hst : StR P n S ops w0 L0 G Γ0 K ord D V a w) {r : Nat} {o : Oper} {v : Value} (ho : ops[r]? = some o) (hed : ∀ e ∈ edges o, D e = true)
    (hok : SOk S w0 G (setD D r) (updR V r v) w') (hlive : LiveR P S w0 ops G K (setD D r) (updR V r v) ord L0 Γ0) :
    StR P n S ops w0 L0 G Γ0 K ord (setD D r) (updR V r v) (a.put o.dst v) w' := by
  have hrl := (List.getElem?_eq_some_iff.1 ho).1
  refine ⟨fun i oi hoi hdi e he => ?_, ?_, ?_, fun i oi d hoi hdi hd => ?_, fun t u hu hno => ?_, hok, fun p hp => ?_, hlive⟩
  · by_cases hir : i = r
    · subst hir
      rw [ho] at hoi
      cases hoi
      exact setD_of (hed e he)
    · rw [setD_ne hir] at hdi
      exact setD_of (hst.closed i oi hoi hdi e he)
  · cases hdd : o.dst with
    | none => exact hst.size
    | some d => simp [Act.put, hst.size]
  · cases hdd : o.dst <;> exact hst.defers
  · by_cases hir : i = r
    · subst hir
      rw [ho] at hoi
      cases hoi
      rw [hd, updR_same]
      exact put_here hst.size (c.dlt o (List.mem_of_getElem? ho) d hd)
    · rw [setD_ne hir] at hdi
      rw [updR_ne hir]
      exact put_slot hst.size d _ (hst.slot i oi d hoi hdi hd) (fun e => hir (c.one i r oi o d hoi ho hd e))
  · refine put_slot hst.size t u (hst.old t u hu (fun i oi hoi hdi => hno i oi hoi (setD_of hdi))) (hno r o ho setD_same)
  · obtain ⟨h1, h2, h3⟩ := hst.ini p hp
    exact ⟨by rw [updR_ne (by omega)]; exact h1, setD_of h2, h3⟩
def KR (n : Nat) (S : List Nat) (w0 : World) (P : Program) (ops : List Oper) (Q : Exit → Act → World → Prop) (k : Nat) (G : List RE) (L : Env) (Γ : Gm) : Prop :=
  ∀ w' V, SOk S w0 G (fun _ => true) V w' → (∀ p ∈ Γ, V p.1 = p.2) → SG P n ops Q (ops.drop k) L w'
theorem StR.wpAny (c : ChkX n ops ord (giR G) k) (hG : ∀ e ∈ G, e.Ok) (hlen : ops.length ≤ 1000) : ∀ (fuel : Nat) (listed : Array Bool) (V : Nat → Value) (a : Act) (w : World),
    listed.size = ops.length → StR P n S ops w0 L0 G Γ0 (KR n S w0 P ops Q k G) ord (fun j => listed.getD j true) V a w → (∀ i, i < ops.length → k ≤ i → listed.getD i true = false) →
    (List.range ops.length).countP (fun i => !listed.getD i true) = fuel → Go.wpAny P .any ops.toArray Q fuel listed a w := by
  have hfin : ∀ (listed : Array Bool) (V : Nat → Value) (a : Act) (w : World), listed.size = ops.length → StR P n S ops w0 L0 G Γ0 (KR n S w0 P ops Q k G) ord (fun j => listed.getD j true) V a w → (∀ i, i < ops.length → k ≤ i → listed.getD i true = false) → (∀ i, i < k → listed.getD i true = true) → wpList P ops.toArray Q (ops.drop k) a w := by
    intro listed V a w hsz hst htl hpre
    obtain ⟨L', Γ', h1, h2, h3⟩ := LiveR.done (L0 := L0) (pre := []) (fun i hi => hpre i (c.lt i hi)) WayR.nil (fun p hp => (hst.ini p hp).1) hst.live
    refine h3 w V (hst.ok.congr (fun e he => ⟨?_, rfl⟩)) h2 a ⟨fun t v hv => ?_, hst.size, hst.defers⟩
    · by_cases h : e.i < 1000
      · have hg : (giR G).elem e.i = true := by
          rw [← isR_iff h]
          exact List.any_eq_true.2 ⟨e, he, by simp⟩
        rw [List.elem_eq_mem] at hg
        exact hpre _ (c.lt _ (c.gi _ (of_decide_eq_true hg)))
      · simp [Array.getD_eq_getD_getElem?, Array.getElem?_eq_none (show listed.size ≤ e.i by omega)]
    · rcases h1 t v hv with ⟨j, hj, g1, g2⟩ | ⟨g1, g2⟩
      · have hjo : j ∈ ord := by simpa using hj
        have hdj := hpre j (c.lt j hjo)
        unfold dstOf at g1
        cases hoj : ops[j]? with
        | none => rw [hoj] at g1; simp at g1
        | some oj =>
          rw [hoj] at g1
          simp only [Option.bind_some] at g1
          rw [hst.slot j oj t hoj hdj g1, g2 hdj]
      · refine hst.old t v g2 (fun i oi hoi hdi e => ?_)
        have hil := (List.getElem?_eq_some_iff.1 hoi).1
        have hik : i < k := by
          by_cases h : i < k
          · exact h
          · simp only [htl i hil (by omega)] at hdi; cases hdi
        exact g1 i (by simpa using c.cover i hik) (by simp [dstOf, hoi, e])
  intro fuel
  induction fuel with
  | zero =>
    intro listed V a w hsz hst htl hcnt
    rw [List.countP_eq_zero] at hcnt
    have hall : ∀ i, i < ops.length → listed.getD i true = true := fun i hi => by simpa using hcnt i (by simpa using hi)
    have hle := c.le
    have hk : k = ops.length := by
      by_cases h : k < ops.length
      · have := htl k h (Nat.le_refl _)
        rw [hall k h] at this
        cases this
      · omega
    exact wpAny_tail c.ed 0 k listed a w (by omega) hsz c.tl hst.closed (fun i hi => by rw [hall i hi]; simp; omega) (hfin listed V a w hsz hst htl (fun i hi => hall i (by omega)))
  | succ fuel ih =>
    intro listed V a w hsz hst htl hcnt
    have hle := c.le
    by_cases hpre : ∀ i, i < k → listed.getD i true = true
    · have hdec : ∀ i, i < ops.length → listed.getD i true = decide (i < k) := by
        intro i hi
        by_cases hik : i < k
        · rw [hpre i hik]; simp [hik]
        · rw [htl i hi (by omega)]; simp [hik]
      have hm : k + (fuel + 1) = ops.length := by
        have := cnt_of hle hdec
        omega
      exact wpAny_tail c.ed (fuel + 1) k listed a w hm hsz c.tl hst.closed hdec (hfin listed V a w hsz hst htl hpre)
    · constructor
      · intro hr
        exfalso
        apply hpre
        intro i
        induction i using Nat.strongRecOn with
        | _ i ihi =>
          intro hik
          cases hd : listed.getD i true with
          | true => rfl
          | false =>
            exfalso
            have : i ∈ Region.ready .any ops.toArray listed := by
              refine (ready_iff hsz).2 ⟨ops[i], by simp, hd, fun e he => ?_⟩
              have hei := c.ed i ops[i] (by simp) e he
              have := ihi e hei (by omega)
              simp only [Array.getD_eq_getD_getElem?] at this ⊢
              rw [Array.getElem?_eq_getElem (by omega)] at this ⊢
              exact this
            rw [hr] at this
            cases this
      · intro i hi
        obtain ⟨o, ho, hnd, hed'⟩ := (ready_iff hsz).1 hi
        have hil : i < ops.length := (List.getElem?_eq_some_iff.1 ho).1
        have hed : ∀ e ∈ edges o, listed.getD e true = true := by
          intro e he
          have := hed' e he
          simp only [Array.getD_eq_getD_getElem?] at this ⊢
          cases h : listed[e]? with
          | none => rfl
          | some b => rw [h] at this; exact this
        have hanc : ∀ j, anc ops i j = true → listed.getD j true = true := anc_closed hst.closed i o ho hed
        have hsz' : (listed.setIfInBounds i true).size = ops.length := by simp [hsz]
        have hset : (fun j => (listed.setIfInBounds i true).getD j true) = setD (fun j => listed.getD j true) i := funext fun j => getD_set (by omega)
        have hini : ∀ p ∈ Γ0, listed.getD p.1 true = true ∧ V p.1 = p.2 := fun p hp => ⟨(hst.ini p hp).2.1, (hst.ini p hp).1⟩
        have hlater : ∀ j, anc ops j i = true → listed.getD j true = false := by
          intro j hj
          cases hd : listed.getD j true with
          | false => rfl
          | true =>
            exfalso
            by_cases hjl : j < ops.length
            · have hoj : ops[j]? = some ops[j] := by simp
              have := anc_closed hst.closed j ops[j] hoj (hst.closed j ops[j] hoj hd) i hj
              rw [hnd] at this
              cases this
            · unfold anc at hj
              rw [List.getD_eq_getElem?_getD, List.getElem?_eq_none (by rw [befs_len]; simp; omega)] at hj
              simp at hj
        by_cases hik : i < k
        · have htl' : ∀ j, j < ops.length → k ≤ j → (listed.setIfInBounds i true).getD j true = false := by
            intro j hj hkj
            rw [getD_set (by omega), setD_ne (by omega)]
            exact htl j hj hkj
          have hcnt' : (List.range ops.length).countP (fun j => !(listed.setIfInBounds i true).getD j true) = fuel := by
            have key : ∀ (l : List Nat), l.Nodup → i ∈ l → l.countP (fun j => !listed.getD j true) = l.countP (fun j => !(listed.setIfInBounds i true).getD j true) + 1 := by
              intro l
              induction l with
              | nil => intro _ h; cases h
              | cons y l ihl =>
                intro hnl hm
                rw [List.nodup_cons] at hnl
                rw [List.countP_cons, List.countP_cons]
                by_cases e : y = i
                · subst e
                  have hsame : l.countP (fun j => !listed.getD j true) = l.countP (fun j => !(listed.setIfInBounds y true).getD j true) := by
                    apply List.countP_congr
                    intro j hj
                    rw [getD_set (by omega), setD_ne (show j ≠ y from fun e1 => hnl.1 (e1 ▸ hj))]
                  rw [hsame, getD_set (by omega), setD_same, hnd]
                  simp
                · have hm' : i ∈ l := by
                    rcases List.mem_cons.1 hm with h | h
                    · exact absurd h.symm e
                    · exact h
                  rw [ihl hnl.2 hm', getD_set (by omega), setD_ne e]
                  omega
            have := key (List.range ops.length) List.nodup_range (by simpa using hil)
            omega
          have hio := c.cover i hik
          cases hg : isR G i with
          | false =>
            have hgd : ∀ g A B, ord = A ++ g :: B → i ∈ B → isR G g = true → listed.getD g true = true := by
              intro g A B he hb hgg
              have hgo : g ∈ ord := by rw [he]; simp
              have hgl : g < ops.length := Nat.lt_of_lt_of_le (c.lt g hgo) hle
              obtain ⟨_, g2⟩ := ordX_spec ord [] c.ok A g B he ops[g] (by simp [hgl])
              rcases g2 (by rw [← isR_iff (by omega)]; exact hgg) i hb with h | h
              · rw [← isR_iff (by omega), hg] at h; cases h
              · exact hanc g h
            obtain ⟨o', L', Γ', A, B, e1, e2, e3, e4, e5⟩ := LiveR.plain (D := fun j => listed.getD j true) hg hnd c.nodup hio hgd WayR.nil hini hst.live
            have heo : o = o' := Option.some.inj (ho.symm.trans e2)
            subst heo
            have hlk := hst.looks c htl e1 ho hnd hanc e3
            rcases e5 with ⟨hw, hl⟩ | ⟨hw, v, hkn, hrun, hl⟩
            · refine wpOp_of ho (wanted_of hlk hw) (fun h => by cases h) (fun _ => ?_)
              refine ih _ (updR V i undef) _ w hsz' ?_ htl' hcnt'
              rw [hset]
              exact hst.did c ho hed (hst.ok.congr (fun e he => ⟨(setD_ne (D := fun j => listed.getD j true) (isR_no hg he)).symm, (updR_ne (isR_no hg he)).symm⟩)) hl
            · refine wpOp_of ho (wanted_of hlk hw) (fun _ => ?_) (fun h => by cases h)
              have hr := hrun w hst.ok.kp (fun p hp ha e he hei => by
                obtain ⟨h1, h2⟩ := e4 p hp
                rw [← h2, ← hei]
                exact hst.ok.row e he (by rw [hei]; exact h1))
              have hr' := OpRun.congr (c.sel o (List.mem_of_getElem? ho)) (eval_of hlk hkn) hr
              refine hr'.wp (fun v' w' ⟨h1, h2⟩ => ?_)
              subst h1
              refine ih _ (updR V i v') _ w' hsz' ?_ htl' hcnt'
              rw [hset]
              exact hst.did c ho hed ((hst.ok.kp0 hG h2).congr (fun e he => ⟨(setD_ne (D := fun j => listed.getD j true) (isR_no hg he)).symm, (updR_ne (isR_no hg he)).symm⟩)) hl
          | true =>
            obtain ⟨o', L', Γ', A, B, e1, e2, e3, e4, hw, hkn, hrun, hl⟩ := LiveR.effect (D := fun j => listed.getD j true) hg hnd c.nodup hio WayR.nil (fun p hp _ => (hini p hp).2) hst.live
            have heo : o = o' := Option.some.inj (ho.symm.trans e2)
            subst heo
            have hlk := hst.looks c htl e1 ho hnd hanc e3
            refine wpOp_of ho (wanted_of hlk hw) (fun _ => ?_) (fun h => by cases h)
            have hr := hrun (fun j => listed.getD j true) V w hst.ok (fun p hp hs => by
              have hD : listed.getD p.1 true = true := by
                unfold sees at hs
                rw [Bool.or_eq_true] at hs
                rcases hs with hs | hs
                · have hs := Nat.le_of_ble_eq_true hs
                  simp [Array.getD_eq_getD_getElem?, Array.getElem?_eq_none (show listed.size ≤ p.1 by omega)]
                · exact hanc p.1 hs
              exact ⟨hD, e4 p hp hD⟩) hnd hlater
            have hr' := OpRun.congr (c.sel o (List.mem_of_getElem? ho)) (eval_of hlk hkn) hr
            refine hr'.wp (fun v' w' hok => ?_)
            refine ih _ (updR V i v') _ w' hsz' ?_ htl' hcnt'
            rw [hset]
            exact hst.did c ho hed hok (hl v')
        · exfalso
          apply hpre
          intro j hj
          exact hanc j (c.tl i hil (by omega) j (by omega))
/-- The rule, with slices that were there before (Γ0, their places from 1000 on). -/
theorem CG.rowsI {id : Nat} (hm : P.follows .mixedOrders = true) (k : Nat) (ord : List Nat) (G : List RE) (Γ0 : Gm) (S : List Nat) (V0 : Nat → Value) (hc : chkX n ops ord (giR G) k = true) (hlen : Nat.ble ops.length 1000 = true) (hG : ∀ e ∈ G, e.Ok)
    (h0 : ∀ w', Kp [] w0 w' → SOk S w0 G (fun j => Nat.ble 1000 j) V0 w') (hV : ∀ p ∈ Γ0, V0 p.1 = p.2 ∧ 1000 ≤ p.1)
    (h : DerR P S w0 ops G (KR n S w0 P ops Q k G) ord L0 Γ0) : CG P n (.region id ops.toArray true) Q L0 w0 := by
  intro a ha
  have c := ChkX.of hc
  have hlen := Nat.le_of_ble_eq_true hlen
  refine wp_region_any hm ?_
  have hget : ∀ j, (Array.replicate ops.toArray.size false).getD j true = !decide (j < ops.length) := by
    intro j
    simp [Array.getD_eq_getD_getElem?, Array.getElem?_replicate]
    split <;> simp_all
  refine StR.wpAny (S := S) (w0 := w0) (L0 := L0) (G := G) (Γ0 := Γ0) c hG hlen _ _ V0 a _ (by simp) ?_ ?_ ?_
  · have hD : (fun j => (Array.replicate ops.toArray.size false).getD j true) = fun j => !decide (j < ops.length) := funext hget
    rw [hD]
    refine ⟨fun i o ho hd => ?_, ha.size, ha.defers, fun i o d ho hd => ?_, fun t v hv _ => ha.slot t v hv, (h0 _ (Kp.refl [] w0).drew).congr (fun e he => ⟨?_, rfl⟩), fun p hp => ?_, ?_⟩
    · simp [(List.getElem?_eq_some_iff.1 ho).1] at hd
    · simp [(List.getElem?_eq_some_iff.1 ho).1] at hd
    · by_cases h : e.i < 1000
      · have hg : (giR G).elem e.i = true := by
          rw [← isR_iff h]
          exact List.any_eq_true.2 ⟨e, he, by simp⟩
        rw [List.elem_eq_mem] at hg
        have h1 := c.lt _ (c.gi _ (of_decide_eq_true hg))
        have h2 := c.le
        have h3 : e.i < ops.length := by omega
        have h4 : Nat.ble 1000 e.i = false := by
          rw [← Bool.not_eq_true, Nat.ble_eq]; omega
        simp [h3, h4]
      · have h3 : ¬ e.i < ops.length := by omega
        have h4 : Nat.ble 1000 e.i = true := by rw [Nat.ble_eq]; omega
        simp [h3, h4]
    · obtain ⟨h1, h2⟩ := hV p hp
      have h3 : ¬ p.1 < ops.length := by omega
      exact ⟨h1, by simp [h3], by omega⟩
    · refine LiveR.congr (fun i hi => ⟨?_, ?_⟩) (show LiveR P S w0 ops G (KR n S w0 P ops Q k G) (fun _ => false) V0 ord L0 Γ0 from ?_)
      · have h1 := c.lt i hi
        have hle := c.le
        have hil : i < ops.length := by omega
        simp [hil]
      · rfl
      · exact LiveR.anyV (fun _ _ => rfl) h
  · intro i hi _
    rw [hget]; simp [hi]
  · have : (List.range ops.length).countP (fun i => !(Array.replicate ops.toArray.size false).getD i true) = (List.range ops.length).length := by
      rw [List.countP_eq_length]
      intro i hi
      rw [hget]
      simp at hi
      simp [hi]
    rw [this]
    simp
theorem CG.rows {id : Nat} (hm : P.follows .mixedOrders = true) (k : Nat) (ord : List Nat) (G : List RE) (hc : chkX n ops ord (giR G) k = true) (hlen : Nat.ble ops.length 1000 = true) (hlow : G.all (fun e => Nat.blt e.i 1000) = true) (hG : ∀ e ∈ G, e.Ok)
    (h : DerR P [] w0 ops G (KR n [] w0 P ops Q k G) ord L0 []) : CG P n (.region id ops.toArray true) Q L0 w0 := by
  have hno : ∀ e ∈ G, Nat.ble 1000 e.i = true → False := fun e he h1 => by
    have h2 := List.all_eq_true.1 hlow e he
    rw [Nat.blt_eq] at h2
    have h3 := Nat.le_of_ble_eq_true h1
    omega
  exact CG.rowsI hm k ord G [] [] (fun _ => undef) hc hlen hG (fun w' hk => ⟨hk, fun e he h1 => (hno e he h1).elim, fun e he e' _ h1 => (hno e he h1).elim, fun e he h1 => (hno e he h1).elim⟩) (fun p hp => by cases hp) h
end
end Go.Proofs.Ytgbgnlboogalgaa
namespace Go.Proofs.Ytgbgnlboogalgaa
set_option linter.unusedVariables false
section
variable {P : Program} {n : Nat} {ops : List Oper} {Q : Exit → Act → World → Prop} {w w0 : World} {L : Env} {ty : TypeId} {pos : String} {af : Array Edge} {g : Option (Nat × Bool)} {rest : List Oper}
end
end Go.Proofs.Ytgbgnlboogalgaa
namespace Go.Proofs.Ytgbgnlboogalgaa
set_option linter.unusedVariables false
/-- An owned row; a slice written out. -/
def oP {α : Type} (base : Nat) (E : TypeId) (sz : Nat) (enc : α → List Value) (l : List α) : Value → World → Prop := fun v w => w.ownsRow base E sz v l.length (flt enc l)
def bP (m : Nat) (E : TypeId) (k : Nat) (cs : Array Value) : Value → World → Prop := fun v w => ∃ b f, v = .slice (some ⟨b, 0, none⟩) k k ∧ m ≤ b ∧ Blk w b (.cells cs E f)
theorem oP_ok {α : Type} {i ch base : Nat} {E : TypeId} {sz : Nat} {enc : α → List Value} {l : List α} : RE.Ok ⟨i, ch, oP base E sz enc l⟩ := by
  refine ⟨fun v w w' _ h hp => ?_, fun v w b hp hb => ?_⟩
  · rcases hp with ⟨h1, h2 | ⟨g, cap, cur, rfl, hg, hh, hr⟩⟩
    · exact ⟨h1, Or.inl h2⟩
    · exact ⟨h1, Or.inr ⟨g, cap, cur, rfl, hg, h g _ rfl hh, hr⟩⟩
  · rcases hp with ⟨h1, ⟨rfl, _⟩ | ⟨g, cap, cur, rfl, hg, hh, hr⟩⟩
    · cases hb
    · cases hb
      exact (Array.getElem?_eq_some_iff.1 hh).1
theorem bP_ok {i ch m k : Nat} {E : TypeId} {cs : Array Value} : RE.Ok ⟨i, ch, bP m E k cs⟩ := by
  refine ⟨fun v w w' _ h hp => ?_, fun v w b hp hb => ?_⟩
  · obtain ⟨b, f, rfl, hm, hB⟩ := hp
    exact ⟨b, f, rfl, hm, h b _ rfl hB⟩
  · obtain ⟨b, f, rfl, hm, hB⟩ := hp
    cases hb
    exact hB.lt
inductive OkL : List RE → Prop
  | nil : OkL []
  | cons {e : RE} {r : List RE} : e.Ok → OkL r → OkL (e :: r)
theorem OkL.all : ∀ {G : List RE}, OkL G → ∀ e ∈ G, e.Ok
  | _, .nil, _, h => by cases h
  | _, .cons h1 h2, e, h => by
    rcases List.mem_cons.1 h with rfl | h
    · exact h1
    · exact h2.all e h
def LeAll {α : Type} (n : Nat) : List (Nat × List α) → Prop
  | [] => True
  | q :: r => q.2.length ≤ n ∧ LeAll n r
section
variable {P : Program} {n : Nat} {S : List Nat} {ops : List Oper} {Q : Exit → Act → World → Prop} {w0 : World} {L : Env} {G : List RE} {K : Env → Gm → Prop} {Γ : Gm} {i : Nat} {ord : List Nat} {ty : TypeId} {pos : String} {af : Array Edge} {g : Option (Nat × Bool)}
theorem SOk.get {V : Nat → Value} {w : World} (h : SOk S w0 G (fun _ => true) V w) (hV : ∀ p ∈ Γ, V p.1 = p.2) {j : Nat} {v : Value} {E : RE} (hp : (j, v) ∈ Γ) (hE : atR G j = [E]) : E.phi v w := by
  have h1 := h.row E (atR_in hE).1 rfl
  have h2 := hV _ hp
  rw [(atR_in hE).2] at h1
  simp only at h2
  rwa [h2] at h1
theorem DerR.val {d : Nat} {op : Op} {v : Value} (hg : isR G i = false) (ho : ops[i]? = some ⟨some d, op, ty, pos, af, g⟩) (hw : want ops L ⟨some d, op, ty, pos, af, g⟩ = some true) (hk : op.operands.toList.all (known L) = true)
    (hv : Vals P S w0 (FactsR ops G i Γ) L ⟨some d, op, ty, pos, af, g⟩ v) (h : DerR P S w0 ops G K ord ((d, v) :: L) Γ) : DerR P S w0 ops G K (i :: ord) L Γ :=
  ⟨_, ho, Or.inl ⟨hg, Or.inr (Or.inr ⟨rfl, hw, v, hk, fun w hkp hF => by unfold OpRun; rw [hv w hkp hF]; exact ⟨rfl, Kp.refl _ _⟩, h⟩)⟩⟩
theorem SOk.facts {D : Nat → Bool} {V : Nat → Value} {w : World} (h : SOk S w0 G D V w) (hc : ∀ p ∈ Γ, sees ops i p.1 = true → D p.1 = true ∧ V p.1 = p.2) : FactsR ops G i Γ w := fun p hp hs e he hi => by
  obtain ⟨h1, h2⟩ := hc p hp hs
  rw [← h2, ← hi]
  exact h.row e he (by rw [hi]; exact h1)
/-- An effect that makes something new. -/
theorem DerR.eff {o : Oper} {E : RE} (hE : atR G i = [E]) (ho : ops[i]? = some o) (hw : want ops L o = some true) (hk : o.op.operands.toList.all (known L) = true) (hG : OkL G)
    (hc : ∀ w, Kp S w0 w → FactsR ops G i Γ w → OpRun P (rho L) o w (fun v w' => E.phi v w' ∧ Kp [] w w' ∧ ∀ b, obk v = some b → w.heap.size ≤ b))
    (h : ∀ v, DerR P S w0 ops G K ord (addD o.dst v L) ((i, v) :: Γ)) : DerR P S w0 ops G K (i :: ord) L Γ := by
  have hr : isR G i = true := List.any_eq_true.2 ⟨E, (atR_in hE).1, by rw [(atR_in hE).2]; simp⟩
  exact ⟨o, ho, Or.inr ⟨hr, Or.inr ⟨rfl, hw, hk, fun D' V' w hs hcon hd hl => (hc w hs.kp (hs.facts hcon)).mono (fun v w' ⟨g1, g2, g3⟩ => hs.new hG.all hE g2 g1 g3), h⟩⟩⟩
/-- A call that answers an owned row. -/
theorem DerR.callO {α : Type} {enc : α → List Value} {E : TypeId} {base sz c d : Nat} {f : FuncId} [Fnc P f] {args : List Operand} {vs : List Value} {tys : Array TypeId} (l : List α) (hE : atR G i = [⟨i, c, oP base E sz enc l⟩])
    (ho : ops[i]? = some ⟨some d, .call ⟨.value (.func f), args.toArray, tys⟩, ty, pos, af, g⟩) (hw : want ops L ⟨some d, .call ⟨.value (.func f), args.toArray, tys⟩, ty, pos, af, g⟩ = some true) (hk : (Op.call ⟨.value (.func f), args.toArray, tys⟩).operands.toList.all (known L) = true) (hG : OkL G)
    (he : Evs L args vs) (hb : base ≤ w0.heap.size) (hc : ∀ w, Kp S w0 w → FactsR ops G i Γ w → RetO P E enc sz f vs.toArray w l) (h : ∀ v, DerR P S w0 ops G K ord ((d, v) :: L) ((i, v) :: Γ)) : DerR P S w0 ops G K (i :: ord) L Γ :=
  DerR.eff hE ho hw hk hG (fun w h1 h2 => orun_call (by
    rw [he.arr]
    refine (hc w h1 h2).mono (fun e w' ⟨v, g1, g2, g3⟩ => ⟨v, g1, own_mono g2 (Nat.le_trans hb h1.size), g3, fun b hb' => ?_⟩)
    rcases g2.2 with ⟨rfl, _⟩ | ⟨g4, cap, cur, rfl, hg, _⟩
    · cases hb'
    · cases hb'
      exact hg)) h
theorem DerR.tl {k : Nat} (h : ∀ w' V, SOk S w0 G (fun _ => true) V w' → (∀ p ∈ Γ, V p.1 = p.2) → SG P n ops Q (ops.drop k) L w') : DerR P S w0 ops G (KR n S w0 P ops Q k G) [] L Γ := h
end
end Go.Proofs.Ytgbgnlboogalgaa
namespace Go.Proofs.Ytgbgnlboogalgaa
set_option linter.unusedVariables false
def mP {κ ν : Type} (base : Nat) (enc : κ → Value) (V : ν → Value) (m : List (κ × ν)) : Value → World → Prop := fun v w => ∃ b, v = .map (some b) ∧ base ≤ b ∧ MapIs w b enc V m
section
variable {P : Program} {n : Nat} {S : List Nat} {ops : List Oper} {Q : Exit → Act → World → Prop} {w0 : World} {L : Env} {G : List RE} {K : Env → Gm → Prop} {Γ : Gm} {i : Nat} {ord : List Nat} {ty : TypeId} {pos : String} {af : Array Edge} {g : Option (Nat × Bool)}
end
end Go.Proofs.Ytgbgnlboogalgaa
namespace Go.Proofs.Ytgbgnlboogalgaa
open Go.Proofs
set_option linter.unusedVariables false
theorem own_some {w : World} {base n cap sz : Nat} {a : Option Addr} {T : TypeId} {l : List UInt8} {xs : List Value} (ho : w.ownsRow base T sz (.slice a l.length cap) n xs) : l = [] ∧ a = none ∨ ∃ b2 off, a = some ⟨b2, off, none⟩ := by
  rcases ho.2 with ⟨h, h0⟩ | ⟨g, c, cur, h, _⟩
  · simp only [Value.slice.injEq] at h
    exact Or.inl ⟨List.eq_nil_of_length_eq_zero h.2.1, h.1⟩
  · simp only [Value.slice.injEq] at h
    exact Or.inr ⟨g, 0, h.1⟩
theorem putU_len' (n : Nat) : (putU n).length ≤ 11 := putN_len 10 n
abbrev oB (base : Nat) (l : List UInt8) := oP base 5 1 by1 l
open Classical in
noncomputable def txEq (a b : Tx) : Bool := decide (a = b)
theorem txEq_t {a b : Tx} (h : a = b) : txEq a b = true := by simp [txEq, h]
theorem txEq_f {a b : Tx} (h : a ≠ b) : txEq a b = false := by simp [txEq, h]
theorem txc_mid4 (t : Tx) (a1 a2 : Option Addr) (c1 c2 : Nat) : txc ⟨t, a1, c1, a2, c2⟩ = (dc t.frm ++ [.int .i64 t.non, .int .i64 t.fee, .int .i64 t.kind]) ++ ([.slice a1 t.body.length c1] ++ [.slice a2 t.sig.length c2]) := by
  simp [txc, Tm.b, Tm.s]
theorem txc_mid5 (t : Tx) (a1 a2 : Option Addr) (c1 c2 : Nat) : txc ⟨t, a1, c1, a2, c2⟩ = (dc t.frm ++ [.int .i64 t.non, .int .i64 t.fee, .int .i64 t.kind, .slice a1 t.body.length c1]) ++ ([.slice a2 t.sig.length c2] ++ []) := by
  simp [txc, Tm.b, Tm.s]
theorem tx_len1 (t : Tx) : (dc t.frm ++ [Value.int .i64 t.non, .int .i64 t.fee, .int .i64 t.kind]).length = 11 := by simp [dc_length]
theorem tx_len2 (t : Tx) (v : Value) : (dc t.frm ++ [Value.int .i64 t.non, .int .i64 t.fee, .int .i64 t.kind, v]).length = 12 := by simp [dc_length]
theorem Sl.nil_of' {α : Type} {enc : α → List Value} {sz : Nat} {w : World} {l : List α} (h : Sl enc sz w none l) : l = [] := by
  cases l with
  | nil => rfl
  | cons x l =>
    obtain ⟨b, off, e, _⟩ := h 0 x rfl
    cases e
attribute [local irreducible] CG NG SG Vals Der Row Blk MapIs IterAt addI xorI orI andI shlI shrI or8 lo7 DerX DerR putU num wrongT
set_option maxHeartbeats 16000000 in
theorem putbytes_spec {w : World} {a a2 : Option Addr} {c c2 : Nat} {l m : List UInt8} (hS : Bs w a c l) (hM : Bs w a2 c2 m) (hl : l.length + m.length ≤ 100000000) : RetO Try.prog 5 by1 1 68 #[.slice a l.length c, .slice a2 m.length c2] w (l ++ putB m) := by
  refine enter2 Try.func68 rfl Try.ntmps68 rfl ?_
  have e1 : (10 : Int) + (m.length : Int) = ((10 + m.length : Nat) : Int) := by omega
  repeat (first|apply cA|apply cB|apply cD|apply cE|refine cU rfl rfl rfl rfl (by first|((first|apply qmv|apply qas|apply qad|apply qln)<;>(first|exact rfl|exact Ar.mk (by omega)|fail))|fail) ?_)
  rw [e1]
  refine SG.call rfl rfl rfl (by repeat' (first | exact True.intro | exact rho_of rfl | refine And.intro ?_ ?_)) ((fresh_spec (c := c) hS.sl (10 + m.length) (by omega)).mono (fun e w1 hh => ?_))
  obtain ⟨v1, he, ho1, hk1⟩ := hh
  refine ⟨_, he, ?_⟩
  repeat (first|refine cU rfl rfl rfl rfl (by first|(apply qi64<;>(first|exact rfl|exact Ar.mk (by omega)|fail))|((first|apply qmv|apply qln)<;>(first|exact rfl|exact Ar.mk (by omega)|fail))|fail) ?_)
  refine SG.call rfl rfl rfl (by repeat' (first | exact True.intro | exact rho_of rfl | refine And.intro ?_ ?_)) ((number_spec ho1 hk1.size m.length (by omega) (by omega)).mono (fun e w2 hh => ?_))
  obtain ⟨v2, he, ho2, hk2, _⟩ := hh
  refine ⟨_, he, ?_⟩
  have k2 := hk1.trans_new hk2 (own_new ho1 (Nat.le_refl _))
  have hp := putU_len' m.length
  repeat (first|apply cA|apply cB|apply cD|apply cE|refine cU rfl rfl rfl rfl (by first|((first|apply qmv|apply qas)<;>(exact rfl))|fail) ?_)
  refine SG.appO (enc := by1) (xs := l ++ putU m.length) (ys := m) (base := w.heap.size) rfl rfl rfl (by exact rho_of rfl) (by exact rho_of rfl) rfl rfl rfl rfl by1_len by1_one ho2 (hM.sl.kp0 k2) (by simp only [maxLen, List.length_append]; omega) (by simp only [List.length_append]; show (_ + _) * 1 ≤ _; omega) k2.size (fun v3 w3 hk3 ho3 _ => ?_)
  repeat (first|apply cD|apply cE|apply cH|refine cU rfl rfl rfl rfl (by first|(apply qas<;>(exact rfl))|fail) ?_)
  refine ret1 (Or.inl rfl) Try.results68 (by first | exact ResV.tmp rfl | exact ResV.agg rfl rfl (by assumption) (by first | exact dc_length _ | exact nc_length _ | exact rc_length _ _ _ | exact ec_length _ | exact dl_length _ _ _ _ | rfl) | exact ResV.cell rfl rfl (by assumption)) ?_
  refine ⟨_, rfl, ?_, k2.trans_new hk3 (own_new ho2 (Nat.le_refl _))⟩
  rw [List.append_assoc] at ho3
  exact ho3
set_option maxHeartbeats 16000000 in
theorem unsigned_spec {w : World} {x : Tm} (hx : Bs w x.a1 x.c1 x.t.body) (hl : x.t.body.length ≤ 10000000) : RetO Try.prog 5 by1 1 69 #[txv x] w (headT x.t) := by
  refine enter1 Try.func69 rfl Try.ntmps69 rfl ?_
  have p1 := putU_len' (u64N x.t.kind)
  have p2 := putU_len' (num x.t.frm)
  have p3 := putU_len' (u64N x.t.non)
  have p4 := putU_len' (u64N x.t.fee)
  have z1 := u64N_lt x.t.kind
  have z3 := u64N_lt x.t.non
  have z4 := u64N_lt x.t.fee
  repeat (first|apply cA|apply cB)
  refine SG.box rfl rfl rfl (by exact rho_of rfl) (fun b1 w1 hk1 hb1 hB1 => ?_)
  have hB1 : Blk w1 b1 (.cells (txc x).toArray 35) := hB1
  have hl1 := hB1.lt
  obtain ⟨-, r0, r1, r2, r3, r4, r5⟩ := txc_rows hB1
  repeat (first|apply cA|apply cB|apply cD|apply cE|refine cU rfl rfl rfl rfl (by first|((first|apply qas|apply qlc|apply qfa|apply qcv)<;>(first|exact rfl|assumption|exact List.not_mem_nil))|fail) ?_)
  rw [u64N_eq]
  refine SG.call rfl rfl rfl (vs := [.slice none 0 0, .int .u64 (u64N x.t.kind : Int)]) (by repeat' (first | exact True.intro | exact rho_of rfl | refine And.intro ?_ ?_)) ((putnum_spec (l := []) Bs.nil (u64N x.t.kind) z1 (by simp)).mono (fun e w2 hh => ?_))
  obtain ⟨v2, he, ho2, hk2⟩ := hh
  refine ⟨_, he, ?_⟩
  rw [List.nil_append] at ho2
  obtain ⟨a2, c2, rfl, hS2⟩ := Bs.own ho2
  have k2 := hk1.trans hk2
  have r0 := r0.kp0 hk2
  have r1 := r1.kp0 hk2
  have r2 := r2.kp0 hk2
  have r4 := r4.kp0 hk2
  clear r3
  repeat (first|apply cA|apply cB|apply cD|apply cE|refine cU rfl rfl rfl rfl (by first|((first|apply qmv|apply qas|apply qla|apply qfa)<;>(first|exact rfl|assumption|exact List.not_mem_nil|apply dc_length))|fail) ?_)
  refine SG.ret rfl rfl rfl (vs := [dv x.t.frm]) (by repeat' (first | exact True.intro | exact rho_of rfl | refine And.intro ?_ ?_)) (num_spec x.t.frm w2) (fun w3 hk3 => ?_)
  skip
  refine SG.call rfl rfl rfl (vs := [.slice a2 (putU (u64N x.t.kind)).length c2, .int .u64 (num x.t.frm : Int)]) (by repeat' (first | exact True.intro | exact rho_of rfl | refine And.intro ?_ ?_)) ((putnum_spec (hS2.kp0 hk3) (num x.t.frm) (num_lt _) (by omega)).mono (fun e w4 hh => ?_))
  obtain ⟨v4, he, ho4, hk4⟩ := hh
  refine ⟨_, he, ?_⟩
  obtain ⟨a4, c4, rfl, hS4⟩ := Bs.own ho4
  have k34 := hk3.trans hk4
  have r1 := r1.kp0 k34
  have r2 := r2.kp0 k34
  have r4 := r4.kp0 k34
  clear r0
  repeat (first|apply cA|apply cB|apply cD|apply cE|refine cU rfl rfl rfl rfl (by first|((first|apply qmv|apply qas|apply qlc|apply qfa|apply qcv)<;>(first|exact rfl|assumption|exact List.not_mem_nil))|fail) ?_)
  rw [u64N_eq]
  refine SG.call rfl rfl rfl (vs := [.slice a4 (putU (u64N x.t.kind) ++ putU (num x.t.frm)).length c4, .int .u64 (u64N x.t.non : Int)]) (by repeat' (first | exact True.intro | exact rho_of rfl | refine And.intro ?_ ?_)) ((putnum_spec hS4 (u64N x.t.non) z3 (by simp only [List.length_append]; omega)).mono (fun e w5 hh => ?_))
  obtain ⟨v5, he, ho5, hk5⟩ := hh
  refine ⟨_, he, ?_⟩
  obtain ⟨a5, c5, rfl, hS5⟩ := Bs.own ho5
  have r2 := r2.kp0 hk5
  have r4 := r4.kp0 hk5
  clear r1
  repeat (first|apply cA|apply cB|apply cD|apply cE|refine cU rfl rfl rfl rfl (by first|((first|apply qmv|apply qas|apply qlc|apply qfa|apply qcv)<;>(first|exact rfl|assumption|exact List.not_mem_nil))|fail) ?_)
  rw [u64N_eq]
  refine SG.call rfl rfl rfl (vs := [.slice a5 (putU (u64N x.t.kind) ++ putU (num x.t.frm) ++ putU (u64N x.t.non)).length c5, .int .u64 (u64N x.t.fee : Int)]) (by repeat' (first | exact True.intro | exact rho_of rfl | refine And.intro ?_ ?_)) ((putnum_spec hS5 (u64N x.t.fee) z4 (by simp only [List.length_append]; omega)).mono (fun e w6 hh => ?_))
  obtain ⟨v6, he, ho6, hk6⟩ := hh
  refine ⟨_, he, ?_⟩
  obtain ⟨a6, c6, rfl, hS6⟩ := Bs.own ho6
  have r4 := r4.kp0 hk6
  clear r2
  have k6 : Kp [] w w6 := ((k2.trans k34).trans hk5).trans hk6
  repeat (first|apply cA|apply cB|apply cD|apply cE|refine cU rfl rfl rfl rfl (by first|((first|apply qmv|apply qas|apply qlc|apply qfa)<;>(first|exact rfl|assumption|exact List.not_mem_nil))|fail) ?_)
  refine SG.call rfl rfl rfl (vs := [.slice a6 (putU (u64N x.t.kind) ++ putU (num x.t.frm) ++ putU (u64N x.t.non) ++ putU (u64N x.t.fee)).length c6, x.b]) (by repeat' (first | exact True.intro | exact rho_of rfl | refine And.intro ?_ ?_)) ((putbytes_spec hS6 (hx.kp0 k6) (by simp only [List.length_append]; omega)).mono (fun e w7 hh => ?_))
  obtain ⟨v7, he, ho7, hk7⟩ := hh
  refine ⟨_, he, ?_⟩
  repeat (first|apply cD|apply cE|apply cH|refine cU rfl rfl rfl rfl (by first|(apply qas<;>(exact rfl))|fail) ?_)
  refine ret1 (Or.inl rfl) Try.results69 (by first | exact ResV.tmp rfl | exact ResV.agg rfl rfl (by assumption) (by first | exact dc_length _ | exact nc_length _ | exact rc_length _ _ _ | exact ec_length _ | exact dl_length _ _ _ _ | rfl) | exact ResV.cell rfl rfl (by assumption)) ?_
  exact ⟨_, rfl, own_mono ho7 k6.size, k6.trans hk7⟩
theorem headT_len (t : Tx) : (headT t).length ≤ 55 + t.body.length := by
  have p1 := putU_len' (u64N t.kind)
  have p2 := putU_len' (num t.frm)
  have p3 := putU_len' (u64N t.non)
  have p4 := putU_len' (u64N t.fee)
  have p5 := putU_len' t.body.length
  simp only [headT, putB, List.length_append]
  omega
set_option maxHeartbeats 16000000 in
theorem tbytes_spec {w : World} {n0 : Nat} {x : Tm} (hx : x.In n0 w) : RetO Try.prog 5 by1 1 46 #[txv x] w (bytesT x.t) := by
  refine enter1 Try.func46 rfl Try.ntmps46 rfl ?_
  have hl1 := hx.l1
  have hl2 := hx.l2
  have hh1 := headT_len x.t
  repeat (first|apply cA|apply cB)
  refine SG.box rfl rfl rfl (by exact rho_of rfl) (fun b1 w1 hk1 hb1 hB1 => ?_)
  have hB1 : Blk w1 b1 (.cells (txc x).toArray 35) := hB1
  have hx1 := hx.kp0 hk1
  obtain ⟨r, -, -, -, -, -, r5⟩ := txc_rows hB1
  repeat (first|apply cA|apply cD|apply cE|refine cU rfl rfl rfl rfl (by first|(apply qas<;>(exact rfl))|fail) ?_)
  refine CG.rows mixed 4 [0, 2, 3, 1] [⟨1, 0, oB w1.heap.size (headT x.t)⟩] (by kernel_rfl) (by kernel_rfl) (by kernel_rfl) (OkL.all (by repeat' (first | exact OkL.nil | refine OkL.cons ?_ ?_ | exact oP_ok | exact bP_ok))) ?_
  repeat (refine DerR.val rfl rfl rfl rfl (by first|((first|apply qlc|apply qla|apply qfa)<;>(first|exact rfl|assumption|exact List.not_mem_nil|apply txc_length))|fail) ?_)
  refine DerR.callO (headT x.t) rfl rfl rfl rfl (by repeat' (first | exact OkL.nil | refine OkL.cons ?_ ?_ | exact oP_ok | exact bP_ok)) (vs := [txv x]) (by repeat' (first | exact True.intro | exact rho_of rfl | refine And.intro ?_ ?_)) (Nat.le_refl _) (fun w hk hF => unsigned_spec (hx1.b.kp0 hk) (by omega)) (fun v4 => ?_)
  refine DerR.tl (fun w3 V hok hV => ?_)
  have ho3 : w3.ownsRow w1.heap.size 5 1 v4 (headT x.t).length (flt by1 (headT x.t)) := hok.get hV (.head _) rfl
  have hk3 := hok.kp
  obtain ⟨a3, c3, rfl, hS3⟩ := Bs.own ho3
  clear hV hok
  refine SG.call rfl rfl rfl (vs := [.slice a3 (headT x.t).length c3, x.s]) (by repeat' (first | exact True.intro | exact rho_of rfl | refine And.intro ?_ ?_)) ((putbytes_spec hS3 (hx1.s.kp0 hk3) (by omega)).mono (fun e w4 hh => ?_))
  obtain ⟨v5, he, ho5, hk5⟩ := hh
  refine ⟨_, he, ?_⟩
  repeat (first|apply cD|apply cE|apply cH|refine cU rfl rfl rfl rfl (by first|(apply qas<;>(exact rfl))|fail) ?_)
  refine ret1 (Or.inl rfl) Try.results46 (by first | exact ResV.tmp rfl | exact ResV.agg rfl rfl (by assumption) (by first | exact dc_length _ | exact nc_length _ | exact rc_length _ _ _ | exact ec_length _ | exact dl_length _ _ _ _ | rfl) | exact ResV.cell rfl rfl (by assumption)) ?_
  exact ⟨_, rfl, own_mono ho5 (Nat.le_trans hk1.size hk3.size), (hk1.trans hk3).trans hk5⟩
set_option maxHeartbeats 16000000 in
theorem beq_spec {w : World} {a b : Option Addr} {l m : List UInt8} (c d : Nat) (h : Sl by1 1 w a l) (h' : Sl by1 1 w b m) : Ret Try.prog 35 #[.slice a l.length c, .slice b m.length d] w (.bool (decide (l = m))) := by
  refine enter2 Try.func35 rfl Try.ntmps35 rfl ?_
  repeat (first|apply cA|apply cB|apply cD|apply cE|refine cU rfl rfl rfl rfl (by first|((first|apply qmv|apply qas)<;>(exact rfl))|fail) ?_)
  refine cU rfl rfl rfl rfl (qbs (l := l) rfl h rfl (fun _ _ _ => List.not_mem_nil)) ?_
  repeat (first|refine cU rfl rfl rfl rfl (by first|(apply qmv<;>(exact rfl))|fail) ?_)
  refine cU rfl rfl rfl rfl (qbs (l := m) rfl h' rfl (fun _ _ _ => List.not_mem_nil)) ?_
  refine cU rfl rfl rfl rfl (qes (a := l) (b := m) rfl rfl dcu) ?_
  repeat (first|apply cD|apply cE|apply cH|refine cU rfl rfl rfl rfl (by first|(apply qas<;>(exact rfl))|fail) ?_)
  refine ret1 (Or.inl rfl) Try.results35 (by first | exact ResV.tmp rfl | exact ResV.agg rfl rfl (by assumption) (by first | exact dc_length _ | exact nc_length _ | exact rc_length _ _ _ | exact ec_length _ | exact dl_length _ _ _ _ | rfl) | exact ResV.cell rfl rfl (by assumption)) ?_
  exact ⟨rfl, Kp.refl _ _⟩
set_option maxHeartbeats 16000000 in
theorem bclone_spec {w : World} {a : Option Addr} {l : List UInt8} (c : Nat) (hS : Sl by1 1 w a l) (hl : l.length ≤ 1000000000) : RetO Try.prog 5 by1 1 62 #[.slice a l.length c] w l := by
  refine enter1 Try.func62 rfl Try.ntmps62 rfl ?_
  cases a with
  | none =>
    have hnil := hS.nil_of'
    subst hnil
    repeat (first|apply cA|apply cB|apply cD|apply cE|refine cU rfl rfl rfl rfl (by first|((first|apply qmv|apply qas|apply qsn)<;>(exact rfl))|fail) ?_)
    refine cV rfl (by exact rho_of rfl) rfl ?_
    repeat (first|apply cA|apply cB|apply cD|apply cE|apply cH|apply NG.ret_then|refine cU rfl rfl rfl rfl (by first|(apply qas<;>(exact rfl))|fail) ?_)
    refine ret1 (Or.inl rfl) Try.results62 (by first | exact ResV.tmp rfl | exact ResV.agg rfl rfl (by assumption) (by first | exact dc_length _ | exact nc_length _ | exact rc_length _ _ _ | exact ec_length _ | exact dl_length _ _ _ _ | rfl) | exact ResV.cell rfl rfl (by assumption)) ?_
    exact ⟨_, rfl, own_nil, Kp.refl _ _⟩
  | some ad =>
    repeat (first|apply cA|apply cB|apply cD|apply cE|refine cU rfl rfl rfl rfl (by first|((first|apply qmv|apply qas|apply qsn)<;>(exact rfl))|fail) ?_)
    refine cX rfl (by exact rho_of rfl) rfl ?_
    repeat (first|apply cA|apply cB|apply cE|apply cF)
    refine SG.empty rfl rfl (fun b0 w1 hk1 hb0 hB0 => ?_)
    repeat (first|refine cU rfl rfl rfl rfl (by first|(apply qmv<;>(exact rfl))|fail) ?_)
    refine SG.cloneO (enc := by1) (l := l) (m := w.heap.size) rfl rfl rfl by1_len by1_one (by exact rho_of rfl) (by exact rho_of rfl) rfl rfl rfl (by simp only [maxLen]; omega) (by show l.length * 1 ≤ _; omega) hb0 (hS.kp0 hk1) hB0 (fun v w2 hk2 hown => ?_)
    repeat (first|apply cD|apply cE|apply cH|refine cU rfl rfl rfl rfl (by first|(apply qas<;>(exact rfl))|fail) ?_)
    refine ret1 (Or.inl rfl) Try.results62 (by first | exact ResV.tmp rfl | exact ResV.agg rfl rfl (by assumption) (by first | exact dc_length _ | exact nc_length _ | exact rc_length _ _ _ | exact ec_length _ | exact dl_length _ _ _ _ | rfl) | exact ResV.cell rfl rfl (by assumption)) ?_
    exact ⟨v, rfl, hown, hk1.trans hk2⟩
set_option maxHeartbeats 16000000 in
theorem tclone_spec {w : World} {n0 : Nat} {x : Tm} (hx : x.In n0 w) : Calls Try.prog 43 #[txv x] w (fun e w' => ∃ y : Tm, y.t = x.t ∧ e = .returned (txv y) ∧ y.In 0 w' ∧ Kp [] w w' ∧ (∀ b off, y.a1 = some ⟨b, off, none⟩ → w.heap.size ≤ b) ∧ (∀ b off, y.a2 = some ⟨b, off, none⟩ → w.heap.size ≤ b)) := by
  refine enter1 Try.func43 rfl Try.ntmps43 rfl ?_
  have hl1 := hx.l1
  have hl2 := hx.l2
  repeat (first|apply cA|apply cB)
  refine SG.box rfl rfl rfl (by exact rho_of rfl) (fun b1 w1 hk1 hb1 hB1 => ?_)
  have hB1 : Blk w1 b1 (.cells (txc x).toArray 35) := hB1
  have lt1 := hB1.lt
  refine SG.alloc rfl rfl rfl (fun b2 w2 hk2 hb2 hB2 => ?_)
  have hB2 : Blk w2 b2 (.cells (txc ⟨⟨zd, 0, 0, 0, [], []⟩, none, 0, none, 0⟩).toArray 35) := hB2
  have k2 := hk1.trans hk2
  have lt2 := hB2.lt
  have hB1 := hB1.kp0 hk2
  obtain ⟨-, -, -, -, -, r4, r5⟩ := txc_rows hB1
  have s1 := hk1.size
  have s2 := hk2.size
  repeat (first|apply cA|apply cB|apply cD|apply cE|refine cU rfl rfl rfl rfl (by first|((first|apply qlc|apply qfa)<;>(first|exact rfl|assumption|exact List.not_mem_nil))|fail) ?_)
  refine SG.call rfl rfl rfl (vs := [x.b]) (by repeat' (first | exact True.intro | exact rho_of rfl | refine And.intro ?_ ?_)) ((bclone_spec x.c1 (hx.b.sl.kp0 k2) (by omega)).mono (fun e w3 hh => ?_))
  obtain ⟨v3, he, ho3, hk3⟩ := hh
  refine ⟨_, he, ?_⟩
  clear he r4 r5
  obtain ⟨a3, c3, rfl, hS3⟩ := Bs.own ho3
  have t3 : Ty 5 w3 a3 x.t.body := Ty.own ho3
  have g3 : ∀ b off, a3 = some ⟨b, off, none⟩ → w2.heap.size ≤ b := own_geA ho3
  have hB1 := hB1.kp0 hk3
  have lt1' := hB1.lt
  have s3 := hk3.size
  repeat (first|refine cU rfl rfl rfl rfl (by first|(apply qfa<;>(exact rfl))|fail) ?_)
  refine SG.setMid (dc x.t.frm ++ [.int .i64 x.t.non, .int .i64 x.t.fee, .int .i64 x.t.kind]) [.slice x.a1 x.t.body.length x.c1] [.slice x.a2 x.t.sig.length x.c2] rfl rfl (by exact rho_of rfl) (by exact rho_of rfl) hB1 (by rw [List.toList_toArray]; exact txc_mid4 x.t x.a1 x.a2 x.c1 x.c2) rfl rfl (tx_len1 x.t) rfl (fun w4 hk4 hB1 => ?_)
  have hB1 : Blk w4 b1 (.cells (txc ⟨x.t, a3, c3, x.a2, x.c2⟩).toArray 35) := by rw [txc_mid4]; exact hB1
  have k4 : Kp [] w w4 := (k2.trans hk3).trans_new hk4 (new1 (by omega))
  have hS3 := hS3.kp hk4 (fun b off e => nm1 (by have := g3 b off e; omega))
  have t3 := t3.kp hk4 (fun _ b off e => nm1 (by have := g3 b off e; omega))
  have s4 := hk4.size
  obtain ⟨-, -, -, -, -, -, r5⟩ := txc_rows hB1
  have r5 : Row w4 b1 12 [x.s] := r5
  repeat (first|apply cA|apply cB|apply cD|apply cE|refine cU rfl rfl rfl rfl (by first|((first|apply qlc|apply qfa)<;>(first|exact rfl|assumption|exact List.not_mem_nil))|fail) ?_)
  refine SG.call rfl rfl rfl (vs := [x.s]) (by repeat' (first | exact True.intro | exact rho_of rfl | refine And.intro ?_ ?_)) ((bclone_spec x.c2 (hx.s.sl.kp0 k4) (by omega)).mono (fun e w5 hh => ?_))
  obtain ⟨v5, he, ho5, hk5⟩ := hh
  refine ⟨_, he, ?_⟩
  clear he r5
  obtain ⟨a5, c5, rfl, hS5⟩ := Bs.own ho5
  have t5 : Ty 5 w5 a5 x.t.sig := Ty.own ho5
  have g5 : ∀ b off, a5 = some ⟨b, off, none⟩ → w4.heap.size ≤ b := own_geA ho5
  have hB1 := hB1.kp0 hk5
  have s5 := hk5.size
  repeat (first|refine cU rfl rfl rfl rfl (by first|(apply qfa<;>(exact rfl))|fail) ?_)
  refine SG.setMid (dc x.t.frm ++ [.int .i64 x.t.non, .int .i64 x.t.fee, .int .i64 x.t.kind, .slice a3 x.t.body.length c3]) [.slice x.a2 x.t.sig.length x.c2] [] rfl rfl (by exact rho_of rfl) (by exact rho_of rfl) hB1 (by rw [List.toList_toArray]; exact txc_mid5 x.t a3 x.a2 c3 x.c2) rfl rfl (tx_len2 x.t _) rfl (fun w6 hk6 hB1 => ?_)
  have hB1 : Blk w6 b1 (.cells (txc ⟨x.t, a3, c3, a5, c5⟩).toArray 35) := by rw [txc_mid5]; exact hB1
  have k6 : Kp [] w w6 := (k4.trans hk5).trans_new hk6 (new1 (by omega))
  have hS3 := (hS3.kp0 hk5).kp hk6 (fun b off e => nm1 (by have := g3 b off e; omega))
  have t3 := (t3.kp0 hk5).kp hk6 (fun _ b off e => nm1 (by have := g3 b off e; omega))
  have hS5 := hS5.kp hk6 (fun b off e => nm1 (by have := g5 b off e; omega))
  have t5 := t5.kp hk6 (fun _ b off e => nm1 (by have := g5 b off e; omega))
  have hB2 := ((((hB2.kp0 hk3).kp hk4 (nm1 (by omega))).kp0 hk5).kp hk6 (nm1 (by omega)))
  obtain ⟨r, -, -, -, -, -, -⟩ := txc_rows hB1
  repeat (first|apply cA|apply cB|apply cD|apply cE|refine cU rfl rfl rfl rfl (by first|(apply qla<;>(first|exact rfl|assumption|exact List.not_mem_nil|apply txc_length))|fail) ?_)
  refine SG.setAll (l := txc ⟨x.t, a3, c3, a5, c5⟩) rfl rfl (by exact rho_of rfl) (by exact rho_of rfl) hB2 (txc_length _) rfl (txc_one _) (fun w7 hk7 hB2 => ?_)
  have hr : Row w7 b2 0 (txc ⟨x.t, a3, c3, a5, c5⟩) := Row.all hB2 rfl
  have l2 := hB2.lt
  have k7 := k6.trans_new hk7 (new1 (by omega))
  have hS3 := hS3.kp hk7 (fun b off e => nm1 (by have := g3 b off e; omega))
  have t3 := t3.kp hk7 (fun _ b off e => nm1 (by have := g3 b off e; omega))
  have hS5 := hS5.kp hk7 (fun b off e => nm1 (by have := g5 b off e; omega))
  have t5 := t5.kp hk7 (fun _ b off e => nm1 (by have := g5 b off e; omega))
  clear r
  repeat (first|apply cD|apply cE|apply cH)
  refine ret1 (Or.inl rfl) Try.results43 (ResV.agg rfl rfl hr (txc_length _)) ?_
  exact ⟨⟨x.t, a3, c3, a5, c5⟩, rfl, rfl, ⟨hS3, hS5, Or.inl t3, Or.inl t5, hl1, hl2⟩, k7, fun b off e => by have := g3 b off e; omega, fun b off e => by have := g5 b off e; omega⟩
set_option maxHeartbeats 16000000 in
theorem tsame_spec {w : World} {n0 m0 : Nat} {x y : Tm} (hx : x.In n0 w) (hy : y.In m0 w) : Ret Try.prog 13 #[txv x, txv y] w (.bool (txEq x.t y.t)) := by
  refine enter2 Try.func13 rfl Try.ntmps13 rfl ?_
  repeat (first|apply cA|apply cB)
  refine SG.box rfl rfl rfl (by exact rho_of rfl) (fun b1 w1 hk1 hb1 hB1 => ?_)
  refine SG.box rfl rfl rfl (by exact rho_of rfl) (fun b2 w2 hk2 hb2 hB2 => ?_)
  have hB1 : Blk w1 b1 (.cells (txc x).toArray 35) := hB1
  have hB2 : Blk w2 b2 (.cells (txc y).toArray 35) := hB2
  obtain ⟨-, q0, q1, q2, q3, q4, q5⟩ := txc_rows (hB1.kp0 hk2)
  obtain ⟨-, r0, r1, r2, r3, r4, r5⟩ := txc_rows hB2
  have k2 := hk1.trans hk2
  have key : ∀ {c : Bool}, (c = true ↔ x.t = y.t) → c = txEq x.t y.t := fun {c} h => by
    by_cases hh : x.t = y.t
    · rw [h.2 hh, txEq_t hh]
    · rw [txEq_f hh]
      cases c with
      | false => rfl
      | true => exact absurd (h.1 rfl) hh
  have no : ¬ x.t = y.t → false = txEq x.t y.t := fun h => (txEq_f h).symm
  by_cases g0 : x.t.frm = y.t.frm
  case neg =>
    repeat (first | first|apply cA|apply cB|apply cD|apply cE|apply cH|refine cU rfl rfl rfl rfl (by first|((first|apply qmv|apply qas|apply qla|apply qfa|apply qpk|apply qed)<;>(first|exact rfl|assumption|exact dcf (by first|assumption|omega)|exact List.not_mem_nil|apply dc_length|fail))|fail) ?_ | refine SG.skip rfl rfl ?_)
    refine ret1 (Or.inl rfl) Try.results13 (by first | exact ResV.tmp rfl | exact ResV.agg rfl rfl (by assumption) (by first | exact dc_length _ | exact nc_length _ | exact rc_length _ _ _ | exact ec_length _ | exact dl_length _ _ _ _ | rfl) | exact ResV.cell rfl rfl (by assumption)) ?_
    exact ⟨by rw [← no (fun h => g0 (by rw [h]))], k2⟩
  by_cases g1 : x.t.non = y.t.non
  case neg =>
    repeat (first | first|apply cA|apply cB|apply cD|apply cE|apply cH|refine cU rfl rfl rfl rfl (by first|((first|apply qmv|apply qas|apply qlc|apply qla|apply qfa|apply qpk|apply qei|apply qed)<;>(first|exact rfl|assumption|exact dct (by first|assumption|omega)|exact dcf (by first|assumption|omega)|exact List.not_mem_nil|apply dc_length|fail))|fail) ?_ | refine SG.skip rfl rfl ?_)
    refine ret1 (Or.inl rfl) Try.results13 (by first | exact ResV.tmp rfl | exact ResV.agg rfl rfl (by assumption) (by first | exact dc_length _ | exact nc_length _ | exact rc_length _ _ _ | exact ec_length _ | exact dl_length _ _ _ _ | rfl) | exact ResV.cell rfl rfl (by assumption)) ?_
    exact ⟨by rw [← no (fun h => g1 (by rw [h]))], k2⟩
  by_cases g2 : x.t.fee = y.t.fee
  case neg =>
    repeat (first | first|apply cA|apply cB|apply cD|apply cE|apply cH|refine cU rfl rfl rfl rfl (by first|((first|apply qmv|apply qas|apply qlc|apply qla|apply qfa|apply qpk|apply qei|apply qed)<;>(first|exact rfl|assumption|exact dct (by first|assumption|omega)|exact dcf (by first|assumption|omega)|exact List.not_mem_nil|apply dc_length|fail))|fail) ?_ | refine SG.skip rfl rfl ?_)
    refine ret1 (Or.inl rfl) Try.results13 (by first | exact ResV.tmp rfl | exact ResV.agg rfl rfl (by assumption) (by first | exact dc_length _ | exact nc_length _ | exact rc_length _ _ _ | exact ec_length _ | exact dl_length _ _ _ _ | rfl) | exact ResV.cell rfl rfl (by assumption)) ?_
    exact ⟨by rw [← no (fun h => g2 (by rw [h]))], k2⟩
  by_cases g3 : x.t.kind = y.t.kind
  case neg =>
    repeat (first | first|apply cA|apply cB|apply cD|apply cE|apply cH|refine cU rfl rfl rfl rfl (by first|((first|apply qmv|apply qas|apply qlc|apply qla|apply qfa|apply qpk|apply qei|apply qed)<;>(first|exact rfl|assumption|exact dct (by first|assumption|omega)|exact dcf (by first|assumption|omega)|exact List.not_mem_nil|apply dc_length|fail))|fail) ?_ | refine SG.skip rfl rfl ?_)
    refine ret1 (Or.inl rfl) Try.results13 (by first | exact ResV.tmp rfl | exact ResV.agg rfl rfl (by assumption) (by first | exact dc_length _ | exact nc_length _ | exact rc_length _ _ _ | exact ec_length _ | exact dl_length _ _ _ _ | rfl) | exact ResV.cell rfl rfl (by assumption)) ?_
    exact ⟨by rw [← no (fun h => g3 (by rw [h]))], k2⟩
  repeat (first|apply cA|apply cB|apply cD|apply cE|refine cU rfl rfl rfl rfl (by first|((first|apply qmv|apply qas|apply qlc|apply qla|apply qfa|apply qpk|apply qei|apply qed)<;>(first|exact rfl|assumption|exact dct (by first|assumption|omega)|exact List.not_mem_nil|apply dc_length|fail))|fail) ?_)
  refine SG.ret rfl rfl rfl (vs := [x.b, y.b]) (by repeat' (first | exact True.intro | exact rho_of rfl | refine And.intro ?_ ?_)) (beq_spec x.c1 y.c1 (hx.b.sl.kp0 k2) (hy.b.sl.kp0 k2)) (fun w3 hk3 => ?_)
  have k3 := k2.trans hk3
  have q5 := q5.kp0 hk3
  have r5 := r5.kp0 hk3
  by_cases g4 : x.t.body = y.t.body
  case neg =>
    rw [decide_eq_false g4]
    repeat (first | first|apply cD|apply cE|apply cH|refine cU rfl rfl rfl rfl (by first|((first|apply qmv|apply qas|apply qpk)<;>(exact rfl))|fail) ?_ | refine SG.skip rfl rfl ?_)
    refine ret1 (Or.inl rfl) Try.results13 (by first | exact ResV.tmp rfl | exact ResV.agg rfl rfl (by assumption) (by first | exact dc_length _ | exact nc_length _ | exact rc_length _ _ _ | exact ec_length _ | exact dl_length _ _ _ _ | rfl) | exact ResV.cell rfl rfl (by assumption)) ?_
    exact ⟨by rw [← no (fun h => g4 (by rw [h]))], k3⟩
  rw [decide_eq_true g4]
  repeat (first|refine cU rfl rfl rfl rfl (by first|((first|apply qmv|apply qlc|apply qfa|apply qpk)<;>(first|exact rfl|assumption|exact List.not_mem_nil))|fail) ?_)
  refine SG.ret rfl rfl rfl (vs := [x.s, y.s]) (by repeat' (first | exact True.intro | exact rho_of rfl | refine And.intro ?_ ?_)) (beq_spec x.c2 y.c2 (hx.s.sl.kp0 k3) (hy.s.sl.kp0 k3)) (fun w4 hk4 => ?_)
  have e : decide (x.t.sig = y.t.sig) = txEq x.t y.t := key (by
    rw [decide_eq_true_iff]
    constructor
    · intro h
      cases hX : x.t with | mk a b c d e f =>
      cases hY : y.t with | mk a' b' c' d' e' f' =>
      rw [hX, hY] at g0 g1 g2 g3 g4 h
      simp only at g0 g1 g2 g3 g4 h
      subst g0 g1 g2 g3 g4 h
      rfl
    · intro h
      rw [h])
  rw [e]
  repeat (first|apply cD|apply cE|apply cH|refine cU rfl rfl rfl rfl (by first|((first|apply qas|apply qpk)<;>(exact rfl))|fail) ?_)
  refine ret1 (Or.inl rfl) Try.results13 (by first | exact ResV.tmp rfl | exact ResV.agg rfl rfl (by assumption) (by first | exact dc_length _ | exact nc_length _ | exact rc_length _ _ _ | exact ec_length _ | exact dl_length _ _ _ _ | rfl) | exact ResV.cell rfl rfl (by assumption)) ?_
  exact ⟨rfl, k3.trans hk4⟩
set_option maxHeartbeats 16000000 in
theorem name_spec {w : World} {n0 : Nat} {x : Tm} (hx : x.In n0 w) : Ret Try.prog 22 #[txv x] w (dv (nameT x.t)) := by
  refine enter1 Try.func22 rfl Try.ntmps22 rfl ?_
  have hl1 := hx.l1
  have hl2 := hx.l2
  have hh1 := headT_len x.t
  have hh2 : (bytesT x.t).length ≤ 1000000000 := by
    have := putU_len' x.t.sig.length
    simp only [bytesT, putB, List.length_append]
    omega
  repeat (first|apply cA|apply cB)
  refine SG.box rfl rfl rfl (by exact rho_of rfl) (fun b1 w1 hk1 hb1 hB1 => ?_)
  have hB1 : Blk w1 b1 (.cells (txc x).toArray 35) := hB1
  refine SG.alloc rfl rfl rfl (fun b2 w2 hk2 hb2 hB2 => ?_)
  have hB2 : Blk w2 b2 (.cells (dc zd).toArray 32) := hB2
  have k2 := hk1.trans hk2
  obtain ⟨r, -, -, -, -, -, -⟩ := txc_rows (hB1.kp0 hk2)
  repeat (first|apply cA|apply cB|apply cD|apply cE|refine cU rfl rfl rfl rfl (by first|(apply qla<;>(first|exact rfl|assumption|exact List.not_mem_nil|apply txc_length))|fail) ?_)
  refine SG.call rfl rfl rfl (vs := [txv x]) (by repeat' (first | exact True.intro | exact rho_of rfl | refine And.intro ?_ ?_)) ((tbytes_spec (hx.kp0 k2)).mono (fun e w3 hh => ?_))
  obtain ⟨v3, he, ho3, hk3⟩ := hh
  refine ⟨_, he, ?_⟩
  clear r he
  obtain ⟨a3, c3, rfl, hS3⟩ := Bs.own ho3
  skip
  refine SG.ret rfl rfl rfl (vs := [.slice a3 (bytesT x.t).length c3]) (by repeat' (first | exact True.intro | exact rho_of rfl | refine And.intro ?_ ?_)) (of_spec hS3.sl (own_some ho3) (fun b off e => own_lt ho3 b (by subst e; rfl)) hh2 hS3.len) (fun w4 hk4 => ?_)
  refine SG.setAll (l := dc (ofI (bytesT x.t))) rfl rfl (by exact rho_of rfl) (by exact rho_of rfl) ((hB2.kp0 hk3).kp0 hk4) (dc_length _) rfl (dc_one _) (fun w5 hk5 hB5 => ?_)
  have hr : Row w5 b2 0 (dc (ofI (bytesT x.t))) := Row.all hB5 rfl
  repeat (first|apply cD|apply cE|apply cH)
  refine ret1 (Or.inl rfl) Try.results22 (by first | exact ResV.tmp rfl | exact ResV.agg rfl rfl (by assumption) (by first | exact dc_length _ | exact nc_length _ | exact rc_length _ _ _ | exact ec_length _ | exact dl_length _ _ _ _ | rfl) | exact ResV.cell rfl rfl (by assumption)) ?_
  exact ⟨rfl, ((k2.trans hk3).trans hk4).trans_new hk5 (new1 (by have := hk1.size; omega))⟩
end Go.Proofs.Ytgbgnlboogalgaa
namespace Go.Proofs.Ytgbgnlboogalgaa
open Go.Proofs
set_option linter.unusedVariables false
def rnV (l : List UInt8) : Value := .tuple #[.int .u64 (if lookE l = 0 then (lookN l : Int) else 0), .int .i64 (if lookE l = 0 then (lookK l : Int) else 0), .int .i64 (lookE l)]
attribute [local irreducible] CG NG SG Vals Der Row Blk MapIs IterAt addI xorI orI andI shlI shrI mulI or8 lo7 dig7 runL lookE lookN
end Go.Proofs.Ytgbgnlboogalgaa
namespace Go.Proofs.Ytgbgnlboogalgaa
open Go.Proofs
set_option linter.unusedVariables false
attribute [local irreducible] CG NG SG Vals Der Row Blk MapIs IterAt addI xorI orI andI shlI shrI mulI
end Go.Proofs.Ytgbgnlboogalgaa
namespace Go.Proofs.Ytgbgnlboogalgaa
open Go.Proofs
set_option linter.unusedVariables false
attribute [local irreducible] CG NG SG Vals Der Row Blk MapIs IterAt addI xorI orI andI shlI shrI mulI
end Go.Proofs.Ytgbgnlboogalgaa
namespace Go.Proofs.Ytgbgnlboogalgaa
open Go.Proofs
set_option linter.unusedVariables false
attribute [local irreducible] CG NG SG Vals Der Row Blk MapIs IterAt addI xorI orI andI shlI shrI mulI or8 lo7 dig7 runL lookE lookN lookK rdV rdP rdS rdE paidZ DerX wrongT
end Go.Proofs.Ytgbgnlboogalgaa
namespace Go.Proofs.Ytgbgnlboogalgaa
open Go.Proofs
set_option linter.unusedVariables false
attribute [local irreducible] CG NG SG Vals Der Row Blk MapIs IterAt paidZ DerX wrongT
end Go.Proofs.Ytgbgnlboogalgaa
namespace Go.Proofs.Ytgbgnlboogalgaa
set_option linter.unusedVariables false
theorem zeroCells_length (z : Array Value) (m : Nat) : (Builtin.zeroCells z m).toList.length = m * z.size := by simp [Builtin.zeroCells]
theorem zeroCells_one {z : Array Value} (hz : allOne z.toList = true) (m : Nat) : allOne (Builtin.zeroCells z m).toList = true := by
  unfold allOne
  rw [List.all_eq_true]
  intro v hv
  simp only [Builtin.zeroCells, Array.toList_map, List.mem_map] at hv
  obtain ⟨i, hi, rfl⟩ := hv
  have hi : i < m * z.size := by simpa using hi
  have h0 : 0 < z.size := by
    rcases Nat.eq_zero_or_pos z.size with h | h
    · rw [h] at hi; omega
    · exact h
  have hlt : i % z.size < z.size := Nat.mod_lt _ h0
  rw [getElem!_pos z _ hlt]
  exact List.all_eq_true.1 hz _ (by simp)
/-- The first i of an owned row. -/
theorem own_take {α : Type} {enc : α → List Value} {w : World} {base g n cap : Nat} {T : TypeId} {sz : Nat} {l : List α} (he : ∀ x, (enc x).length = sz) (ho : w.ownsRow base T sz (.slice (some ⟨g, 0, none⟩) n cap) n (flt enc l)) (hn : l.length = n) {i : Nat} (hi : i ≤ n) : w.ownsRow base T sz (.slice (some ⟨g, 0, none⟩) i cap) i (flt enc (l.take i)) := by
  rcases ho with ⟨h1, ⟨h2, _⟩ | ⟨g', cap', cur, h2, hb, hg, hc1, hc2, hc3, hc4⟩⟩
  · cases h2
  · cases h2
    refine ⟨by rw [flt_length he, List.length_take]; rw [Nat.min_eq_left (by omega)], Or.inr ⟨g, cap, cur, rfl, hb, hg, by omega, hc2, hc3, ?_⟩⟩
    have h3 : i * sz ≤ n * sz := Nat.mul_le_mul_right _ hi
    have : cur.toList.take (i * sz) = (flt enc l).take (i * sz) := by rw [← hc4, List.take_take, Nat.min_eq_left h3]
    rw [this]
    have e : flt enc l = flt enc (l.take i) ++ flt enc (l.drop i) := by rw [← flt_append, List.take_append_drop]
    have hl : (flt enc (l.take i)).length = i * sz := by rw [flt_length he, List.length_take, Nat.min_eq_left (by omega)]
    rw [e, List.take_append_of_le_length (by omega), ← hl, List.take_length]
section
variable {P : Program} {α : Type} {enc : α → List Value} {m : Nat} {Q : Exit → Act → World → Prop} {ops rest : List Oper} {L : Env} {w : World} {ty : TypeId} {pos : String} {af : Array Edge} {q : Option (Nat × Bool)}
end
end Go.Proofs.Ytgbgnlboogalgaa
namespace Go.Proofs.Ytgbgnlboogalgaa
set_option linter.unusedVariables false
section
variable {P : Program} {α : Type} {enc : α → List Value} {n : Nat} {Q : Exit → Act → World → Prop} {ops rest : List Oper} {L : Env} {w : World} {ty : TypeId} {pos : String} {af : Array Edge} {q : Option (Nat × Bool)}
theorem SG.appRoom {base : Nat} {t e : TypeId} {inf : TypeInfo} [u : Ut P t (.slice e)] [f : Inf P e inf] {z : Value} {d : Nat} {s x : Operand} {g cap nn m c2 : Nat} {a2 : Option Addr} {xs ys : List α}
    (hd : Nat.blt d n = true) (hw : want ops L ⟨some d, .call { callee := .builtin .append, args := #[s, x], argTypes := #[t, t] }, ty, pos, af, q⟩ = some true) (hk : (known L s && known L x) = true)
    (hs : rho L s = .slice (some ⟨g, 0, none⟩) nn cap) (hx : rho L x = .slice a2 m c2) (hm : m = ys.length) (hz : inf.zero = some z) (hzs : Nat.beq z.cells.size inf.size = true) (hsz : Nat.blt 0 inf.size = true) (hel : ∀ x, (enc x).length = inf.size) (hone : ∀ x, allOne (enc x) = true)
    (hown : w.ownsRow base e inf.size (.slice (some ⟨g, 0, none⟩) nn cap) nn (flt enc xs)) (hn : xs.length = nn) (hS : Sl enc inf.size w a2 ys) (hroom : nn + ys.length ≤ cap) (h63 : nn + ys.length ≤ maxLen) (hbytes : (nn + ys.length) * inf.bytes ≤ 140737488355328) (hbase : base ≤ w.heap.size)
    (h : ∀ w', Kp [g] w w' → w'.ownsRow base e inf.size (.slice (some ⟨g, 0, none⟩) (nn + m) cap) (nn + m) (flt enc (xs ++ ys)) → SG P n ops Q rest ((d, .slice (some ⟨g, 0, none⟩) (nn + m) cap) :: L) w') : SG P n ops Q (⟨some d, .call { callee := .builtin .append, args := #[s, x], argTypes := #[t, t] }, ty, pos, af, q⟩ :: rest) L w := by
  subst hm
  refine SG.op (by simpa using hd) rfl hw (by simpa [Op.operands, Call.operands] using hk) ?_
  unfold OpRun
  have key : ∃ w', (Builtin.append_ #[t, t] ty #[.slice (some ⟨g, 0, none⟩) nn cap, .slice a2 ys.length c2]).run P w = .ok (.slice (some ⟨g, 0, none⟩) (nn + ys.length) cap) w' ∧ Kp [g] w w' ∧ w'.ownsRow base e inf.size (.slice (some ⟨g, 0, none⟩) (nn + ys.length) cap) (nn + ys.length) (flt enc (xs ++ ys)) := by
    cases ys with
    | nil =>
      refine ⟨w, ?_, Kp.refl _ _, ?_⟩
      · have := run_app0 (P := P) (ty := ty) (u := u) (f := f) hown a2 c2
        simpa using this
      · simpa using hown
    | cons y ys =>
      obtain ⟨b, off, rfl, _⟩ := hS.at (i := 0) (by simp)
      have hr := Sl.flat hel (by simp) hS
      have hl : (flt enc (y :: ys)).length = (y :: ys).length * inf.size := flt_length hel _
      obtain ⟨v', w', hrun, hown', hkp⟩ := run_append (P := P) (ty := ty) (d := .bool) (c := c2) (u := u) (f := f) hz (Nat.eq_of_beq_eq_true hzs) (by simpa [Nat.blt_eq] using hsz) hown hl hr (flt_all hone _) h63 hbytes hbase
      have hnews : ∀ j u, (flt enc (y :: ys))[j]? = some u → w.cell? ((⟨b, off, none⟩ : Addr).add j) = some u := fun j u hu => by rw [add_none]; exact hr.cell hu
      have h1' : ∀ u ∈ flt enc (y :: ys), u.oneCell' = true := fun u hu => by rw [one_iff]; exact List.all_eq_true.1 (flt_all hone _) u hu
      rcases hown.2 with ⟨h2, _⟩ | ⟨g', cap', cur, h2, hbg, hg, hnc, hcm, hcs, htake⟩
      · cases h2
      · cases h2
        have hfit : nn * inf.size + (flt enc (y :: ys)).length ≤ cur.size := by rw [hl, hcs, ← Nat.add_mul]; exact Nat.mul_le_mul_right _ hroom
        have hr2 := run_append_room (P := P) w t ty e inf u.eq f.eq g nn cap cur hg ⟨b, off, none⟩ (y :: ys).length c2 _ hl hnews h1' hroom hfit
        rw [hr2] at hrun
        cases hrun
        refine ⟨_, hr2, ?_, by rw [flt_append]; exact hown'⟩
        simpa [ownB, Value.ownBlock] using hkp
  obtain ⟨w', hrun, hk2, ho2⟩ := key
  have : (execOp (rho L) ⟨some d, .call { callee := .builtin .append, args := #[s, x], argTypes := #[t, t] }, ty, pos, af, q⟩).run P w = .ok (.value (.slice (some ⟨g, 0, none⟩) (nn + ys.length) cap)) w' := by
    simp only [execOp, resolve, invoke, builtin, Sem.run_bind, Sem.run_pure, Result.andThen_ok, List.map_toArray, List.map_cons, List.map_nil, hs, hx, hrun]
  rw [this]
  exact h w' hk2 ho2
/-- 's[j:m:q]' -/
theorem qf3 {S : List Nat} {w0 : World} {F : World → Prop} {d : Option Nat} {T E : TypeId} [u : Ut P T (.slice E)] {sz : Nat} [f : Sz P E sz] {x lo hi mx : Operand} {b off n c : Nat} {k k' k'' : IntKind} {z z' z'' : Int} {j m r : Nat} (hx : ro L x = some (.slice (some ⟨b, off, none⟩) n c)) (hlo : ro L lo = some (.int k z)) (hhi : ro L hi = some (.int k' z')) (hmx : ro L mx = some (.int k'' z'')) (hz : z = (j : Int)) (hz' : z' = (m : Int)) (hz'' : z'' = (r : Int)) (hj : j ≤ m ∧ m ≤ r ∧ r ≤ c) :
    Vals P S w0 F L ⟨d, .slice T x (some lo) (some hi) (some mx), ty, pos, af, q⟩ (.slice (some ⟨b, if r = j then off else off + j * sz, none⟩) (m - j) (r - j)) := fun w _ _ => by
  obtain ⟨i, h2, h3⟩ := f.eq
  obtain ⟨q1, q2, q3⟩ := hj
  subst h3
  subst hz
  subst hz'
  subst hz''
  simp only [execOp, rho_of hx, Option.map_some, Option.map_none, rho_of hlo, rho_of hhi, rho_of hmx, Instr.sliceAt, Sem.run_bind, run_underlying u.eq, Result.andThen, Instr.slice, Instr.sliceBounds, Instr.sliceBound, asIntOf, Sem.run_pure]
  have h4 : (0 : Int) ≤ (r : Int) ∧ (r : Int) ≤ (c : Int) := ⟨by omega, by omega⟩
  simp only [h4, and_self, if_true, Sem.run_pure, Int.toNat_natCast]
  have h5 : (0 : Int) ≤ (m : Int) ∧ (m : Int) ≤ (r : Int) := ⟨by omega, by omega⟩
  simp only [h5, and_self, if_true, Sem.run_pure, Int.toNat_natCast]
  have h6 : (0 : Int) ≤ (j : Int) ∧ (j : Int) ≤ (m : Int) := ⟨by omega, by omega⟩
  simp only [h6, and_self, if_true, Sem.run_pure, sizeOf, typeInfo, Sem.run_bind, run_program, Result.andThen, h2, Int.toNat_natCast]
  by_cases hc : r = j
  · subst hc; simp
  · simp [hc, add_none]
/-- 'clear' of what stands behind an owned row, in its block. -/
theorem SG.clearT {base cap g k m : Nat} {t T : TypeId} {inf : TypeInfo} [u : Ut P t (.slice T)] [f : Inf P T inf] {z : Value} {xs : List Value} {x : Operand} {c2 : Nat} (hw : want ops L ⟨none, .call { callee := .builtin .clear, args := #[x], argTypes := #[t] }, ty, pos, af, q⟩ = some true) (hk : known L x = true)
    (hx : rho L x = .slice (some ⟨g, k * inf.size, none⟩) (m + 1) c2) (hz : inf.zero = some z) (hzs : Nat.beq z.cells.size inf.size = true) (hone : allOne z.cells.toList = true) (ho : w.ownsRow base T inf.size (.slice (some ⟨g, 0, none⟩) k cap) k xs) (hroom : k + (m + 1) ≤ cap)
    (h : ∀ w', Kp [g] w w' → w'.ownsRow base T inf.size (.slice (some ⟨g, 0, none⟩) k cap) k xs → SG P n ops Q rest L w') : SG P n ops Q (⟨none, .call { callee := .builtin .clear, args := #[x], argTypes := #[t] }, ty, pos, af, q⟩ :: rest) L w := by
  refine SG.op rfl rfl hw (by simpa [Op.operands, Call.operands] using hk) ?_
  unfold OpRun
  rcases ho with ⟨h1, ⟨h2, _⟩ | ⟨g', cap', cur, h2, hb, hg, hc1, hc2, hc3, hc4⟩⟩
  · cases h2
  · cases h2
    have hB : Blk w g (.cells cur T) := hg
    have hsz := Nat.eq_of_beq_eq_true hzs
    have hlen : (Builtin.zeroCells z.cells (m + 1)).toList.length = (m + 1) * inf.size := by rw [zeroCells_length, hsz]
    have hle : (k + (m + 1)) * inf.size ≤ cap * inf.size := Nat.mul_le_mul_right _ hroom
    have hsum : k * inf.size + (m + 1) * inf.size = (k + (m + 1)) * inf.size := by rw [← Nat.add_mul]
    have hst := run_storeCells (P := P) (b := g) (off := k * inf.size) (T := T) (Builtin.zeroCells z.cells (m + 1)).toList 0 w cur hB (by rw [hlen]; omega) (zeroCells_one hone _)
    simp only [Nat.add_zero] at hst
    have hclear : (Builtin.clear_ #[t] ty #[.slice (some ⟨g, k * inf.size, none⟩) (m + 1) c2]).run P w = .ok (.tuple #[]) { w with heap := w.heap.setIfInBounds g (.cells (spl cur.toList (k * inf.size) (Builtin.zeroCells z.cells (m + 1)).toList).toArray T) } := by
      simp only [Builtin.clear_, List.getElem?_toArray, List.getElem?_cons_zero, Sem.run_bind, run_underlying u.eq, Result.andThen_ok, run_zero hz, hst, Sem.run_pure]
    have : (execOp (rho L) ⟨none, .call { callee := .builtin .clear, args := #[x], argTypes := #[t] }, ty, pos, af, q⟩).run P w = .ok (.value (.tuple #[])) { w with heap := w.heap.setIfInBounds g (.cells (spl cur.toList (k * inf.size) (Builtin.zeroCells z.cells (m + 1)).toList).toArray T) } := by
      simp only [execOp, resolve, invoke, builtin, Sem.run_bind, Sem.run_pure, Result.andThen_ok, List.map_toArray, List.map_cons, List.map_nil, hx, hclear]
    rw [this]
    refine h _ (Kp.set w hB rfl rfl) ⟨h1, Or.inr ⟨g, cap, _, rfl, hb, hB.set _, hc1, hc2, ?_, ?_⟩⟩
    · have := spl_length (cs := cur.toList) (off := k * inf.size) (l := (Builtin.zeroCells z.cells (m + 1)).toList) (by rw [hlen]; simp; omega)
      rw [List.size_toArray, this]
      simpa using hc3
    · rw [List.toList_toArray]
      unfold spl
      rw [List.take_append_of_le_length (by rw [List.length_take]; simp; omega), List.take_take, Nat.min_self]
      exact hc4
end
end Go.Proofs.Ytgbgnlboogalgaa
namespace Go.Proofs.Ytgbgnlboogalgaa
open Go.Proofs
set_option linter.unusedVariables false
/-- An entry in memory. -/
structure Em where
  x : Tm
  since : Int
def Em.en (e : Em) : En := ⟨e.x.t, e.since⟩
def ec (e : Em) : List Value := txc e.x ++ (dc (nameT e.x.t) ++ [.int .i64 e.since])
theorem ec_length (e : Em) : (ec e).length = 22 := by simp [ec, txc_length, dc_length]
theorem ec_one (e : Em) : allOne (ec e) = true := by
  have h1 := txc_one e.x
  have h2 := dc_one (nameT e.x.t)
  simp only [ec, allOne, List.all_append, Bool.and_eq_true] at *
  exact ⟨h1, h2, rfl⟩
def ev (e : Em) : Value := .agg (ec e).toArray
def cutL {α : Type} (l : List α) (i : Nat) : List α := l.take i ++ l.drop (i + 1)
theorem sl_drop {α : Type} {enc : α → List Value} {sz : Nat} {w : World} {b off c j : Nat} {l : List α} (hS : Sl enc sz w (some ⟨b, off, none⟩) l) (hc : l.length ≤ c) : Sl enc sz w (some ⟨b, if c = j then off else off + j * sz, none⟩) (l.drop j) := fun i x hx => by
  rw [List.getElem?_drop] at hx
  have hlt := (List.getElem?_eq_some_iff.1 hx).1
  obtain ⟨b', off', h, hr⟩ := hS _ x hx
  cases h
  rw [if_neg (by omega)]
  refine ⟨_, _, rfl, ?_⟩
  rw [Nat.add_mul, ← Nat.add_assoc] at hr
  exact hr
def idxZ {α : Type} (p : α → Bool) (l : List α) : Int := if l.findIdx p < l.length then (l.findIdx p : Int) else -1
/-- What the pass has done: i kept, j seen. -/
structure Pass {α : Type} (p : α → Bool) (l cur : List α) (i j : Nat) : Prop where
  len : cur.length = l.length
  lt : i < j
  le : j ≤ l.length
  kept : cur.take i = (l.take j).filter (fun x => !p x)
  rest : cur.drop j = l.drop j
theorem idxZ_lt {α : Type} {p : α → Bool} {l : List α} (h : l.findIdx p < l.length) : idxZ p l = (l.findIdx p : Int) := if_pos h
theorem idxZ_no {α : Type} {p : α → Bool} {l : List α} (h : ¬ l.findIdx p < l.length) : idxZ p l = -1 := if_neg h
attribute [local irreducible] CG NG SG Vals Der Row Blk MapIs IterAt nameT
set_option maxHeartbeats 16000000 in
theorem idxf_spec {w : World} {l : List Em} {a : Option Addr} {c : Nat} {f : FuncId} [Fn : Fnc Try.prog f] {caps : List Value} {p : Em → Bool} (hS : Sl ec 22 w a l) (hl : l.length ≤ 1000000000) (hp : ∀ o ∈ l, ∀ W, Kp [] w W → Ret Try.prog f (ev o :: caps).toArray W (.bool (p o))) :
    Ret Try.prog 60 #[.slice a l.length c, fnv f caps] w (.int .i64 (idxZ p l)) := by
  refine enter2 Try.func60 rfl Try.ntmps60 rfl ?_
  repeat (first|apply cA|apply cB|apply cD|apply cE|apply cG|refine cU rfl rfl rfl rfl (by first|((first|apply qmv|apply qas|apply qln)<;>(exact rfl))|fail) ?_)
  refine CG.loop (X := Nat) (fun i => [(0, .slice a l.length c), (1, fnv f caps), (7, .int .i64 (l.length : Int)), (8, .int .i64 (i : Int))]) (fun i w' => i ≤ l.length ∧ Kp [] w w' ∧ ∀ j (h : j < l.length), j < i → p l[j] = false) (fun i => l.length - i) 0 ⟨by omega, Kp.refl _ _, fun j _ h => absurd h (Nat.not_lt_zero j)⟩ (by (repeat' (first | exact True.intro | exact rfl | refine And.intro ?_ ?_))) ?_
  rintro i w1 ⟨hi, hk, hno⟩
  by_cases hlt : i < l.length
  · have g1 : (i : Int) < (l.length : Int) := by omega
    obtain ⟨b1, o1, rfl, hr1⟩ := (hS.kp0 hk).at hlt
    have hpi := fun W h => hp l[i] (List.getElem_mem hlt) W h
    repeat (first|apply cA|apply cB|apply cD|apply cE|refine cU rfl rfl rfl rfl (by first|(apply qls<;>(first|exact rfl|exact dct (by first|assumption|omega)|fail))|fail) ?_)
    refine cV rfl (by exact rho_of rfl) rfl ?_
    repeat (first|apply cA|apply cB|apply cD|apply cE|apply cF|apply cG|refine cU rfl rfl rfl rfl (by first|((first|apply qmv|apply qas|apply qla|apply qix)<;>(first|exact rfl|exact Ar.mk (by omega)|assumption|exact List.not_mem_nil|apply ec_length|fail))|fail) ?_)
    refine SG.retVC (Fn := Fn) (vs := [ev l[i]]) (caps := caps) rfl rfl rfl (by exact rho_of rfl) (by repeat' (first | exact True.intro | exact rho_of rfl | refine And.intro ?_ ?_)) (hpi w1 hk) (fun w2 hk2 => ?_)
    cases hpp : p l[i] with
    | true =>
      repeat (first|apply cD|apply cE)
      refine cV rfl (by exact rho_of rfl) rfl ?_
      repeat (first|apply cA|apply cB|apply cD|apply cE|apply cH|apply NG.ret_then|apply NG.ret_block|refine cU rfl rfl rfl rfl (by first|((first|apply qmv|apply qas)<;>(exact rfl))|fail) ?_)
      refine ret1 (Or.inl rfl) Try.results60 (by first | exact ResV.tmp rfl | exact ResV.agg rfl rfl (by assumption) (by first | exact dc_length _ | exact nc_length _ | exact rc_length _ _ _ | exact ec_length _ | exact dl_length _ _ _ _ | rfl) | exact ResV.cell rfl rfl (by assumption)) ?_
      have e : l.findIdx p = i := (List.findIdx_eq hlt).2 ⟨hpp, fun j hj => by rw [hno j (by omega) hj]⟩
      have e2 : idxZ p l = (i : Int) := by
        unfold idxZ
        rw [e, if_pos hlt]
      rw [e2]
      exact ⟨rfl, hk.trans hk2⟩
    | false =>
      repeat (first|apply cD|apply cE)
      refine cX rfl (by exact rho_of rfl) rfl ?_
      repeat (first|apply cB|apply cD|apply cE|apply cF|apply cQ|refine cU rfl rfl rfl rfl (by first|((first|apply qmv|apply qad)<;>(first|exact rfl|exact Ar.mk (by omega)|fail))|fail) ?_)
      refine NG.round (i + 1) (by (repeat' (first | exact True.intro | exact rfl | refine And.intro ?_ ?_))) ⟨by omega, hk.trans hk2, fun j h hj => ?_⟩ (by omega)
      by_cases e : j = i
      · subst e; exact hpp
      · exact hno j h (by omega)
  · have g1 : ¬ (i : Int) < (l.length : Int) := by omega
    repeat (first|apply cA|apply cB|apply cD|apply cE|refine cU rfl rfl rfl rfl (by first|(apply qls<;>(first|exact rfl|exact dcf (by first|assumption|omega)|fail))|fail) ?_)
    refine cX rfl (by exact rho_of rfl) rfl ?_
    repeat (first|apply cA|apply cB|apply cD|apply cE|apply cH|apply cJ|apply cK|refine cM rfl ?_|refine cU rfl rfl rfl rfl (by first|(apply qas<;>(exact rfl))|fail) ?_)
    refine ret1 (Or.inl rfl) Try.results60 (by first | exact ResV.tmp rfl | exact ResV.agg rfl rfl (by assumption) (by first | exact dc_length _ | exact nc_length _ | exact rc_length _ _ _ | exact ec_length _ | exact dl_length _ _ _ _ | rfl) | exact ResV.cell rfl rfl (by assumption)) ?_
    have e2 : idxZ p l = -1 := by
      unfold idxZ
      rw [if_neg]
      intro h
      have h1 := List.findIdx_getElem (w := h)
      rw [hno _ h (by omega)] at h1
      cases h1
    rw [e2]
    exact ⟨rfl, hk⟩
set_option maxHeartbeats 16000000 in
theorem edel_spec {w : World} {base : Nat} {v : Value} {l : List Em} {i : Nat} (ho : w.ownsRow base 78 22 v l.length (flt ec l)) (hl : l.length ≤ 100000) (hi : i < l.length) (hbase : base ≤ w.heap.size) : Calls Try.prog 42 #[v, .int .i64 (i : Int), .int .i64 ((i : Int) + 1)] w (fun e w' => ∃ v', e = .returned v' ∧ Kp (ownB v) w w' ∧ w'.ownsRow base 78 22 v' (cutL l i).length (flt ec (cutL l i)) ∧ ∀ b, v'.ownBlock = some b → v.ownBlock = some b) := by
  refine enter3 Try.func42 rfl Try.ntmps42 rfl ?_
  obtain ⟨g, cap, rfl, hcp⟩ := own_slice ho (by omega)
  have hS : Sl ec 22 w (some ⟨g, 0, none⟩) l := by
    obtain ⟨_, _, e, _, h⟩ := Sl.own ec_length ho rfl
    cases e
    exact h
  have g1 : ¬ (i : Int) = (i : Int) + 1 := by omega
  repeat (first|apply cA|apply cB|apply cD|apply cE|refine cU rfl rfl rfl rfl (by first|((first|apply qmv|apply qas|apply qln)<;>(exact rfl))|fail) ?_)
  refine cU rfl rfl rfl rfl (qf3 (j := i) (m := i + 1) (r := l.length) rfl rfl rfl rfl rfl (by omega) rfl (by omega)) ?_
  repeat (first|apply cA|apply cB|apply cD|apply cE|refine cU rfl rfl rfl rfl (by first|((first|apply qmv|apply qei)<;>(first|exact rfl|exact dcf (by first|assumption|omega)|fail))|fail) ?_)
  refine cX rfl (by exact rho_of rfl) rfl ?_
  repeat (first|apply cA|apply cB|apply cD|apply cE|apply cF|refine cU rfl rfl rfl rfl (by first|((first|apply qmv|apply qas|apply qln)<;>(exact rfl))|fail) ?_)
  refine CG.tail mixed 6 [0, 1, 2, 3, 4, 5] (by kernel_rfl) ?_
  repeat (refine Der.val rfl rfl rfl (by first|((first|apply qmv|apply qto)<;>(first|exact rfl|exact Ar.mk (by omega)|fail))|fail) ?_)
  refine Der.val rfl rfl rfl (qfr (j := i + 1) rfl rfl (by omega) (Ar.mk (by omega))) ?_
  refine Der.tl (fun w1 hk1 _ _ => ?_)
  have ho1 := own_kp0 ho hk1
  refine SG.appRoom (enc := ec) (base := base) (xs := l.take i) (ys := l.drop (i + 1)) rfl rfl rfl (by exact rho_of rfl) (by exact rho_of rfl) List.length_drop.symm rfl rfl rfl ec_length ec_one (own_take ec_length ho1 rfl (by omega)) (by rw [List.length_take]; omega) (sl_drop (hS.kp0 hk1) hcp) (by rw [List.length_drop]; omega) (by rw [List.length_drop]; simp only [maxLen]; omega) (by rw [List.length_drop]; show (i + (l.length - (i + 1))) * 96 ≤ _; omega) (Nat.le_trans hbase hk1.size) (fun w2 hk2 ho2 => ?_)
  have ek : i + (l.length - (i + 1)) = l.length - 1 := by omega
  have hcl : (cutL l i).length = l.length - 1 := by
    unfold cutL
    rw [List.length_append, List.length_take, List.length_drop]
    omega
  rw [ek] at ho2 ⊢
  repeat (first|apply cA|apply cB|apply cD|apply cE|refine cU rfl rfl rfl rfl (by first|((first|apply qfh|apply qmv|apply qas|apply qln)<;>(first|exact rfl|exact Ar.mk (by omega)|fail))|fail) ?_)
  refine SG.clearT (base := base) (g := g) (k := l.length - 1) (m := 0) (cap := cap) (xs := flt ec (cutL l i)) (z := .agg ((dc zd ++ ([.int .i64 0, .int .i64 0, .int .i64 0, .slice none 0 0, .slice none 0 0] ++ (dc zd ++ [.int .i64 0])) : List Value).toArray)) (T := 78) (c2 := cap - (l.length - 1)) rfl rfl ?_ rfl rfl rfl ho2 (by omega) (fun w3 hk3 ho3 => ?_)
  · refine (rho_of rfl).trans ?_
    rw [Nat.zero_add, show l.length - (l.length - 1) = 0 + 1 by omega]
    rfl
  repeat (first|apply cA|apply cB|apply cD|apply cE|apply cH|refine cU rfl rfl rfl rfl (by first|((first|apply qmv|apply qas)<;>(exact rfl))|fail) ?_)
  refine ret1 (Or.inl rfl) Try.results42 (by first | exact ResV.tmp rfl | exact ResV.agg rfl rfl (by assumption) (by first | exact dc_length _ | exact nc_length _ | exact rc_length _ _ _ | exact ec_length _ | exact dl_length _ _ _ _ | rfl) | exact ResV.cell rfl rfl (by assumption)) ?_
  exact ⟨_, rfl, (hk1.any.trans hk2).trans hk3, by rw [hcl]; exact ho3, fun _ h => h⟩
end Go.Proofs.Ytgbgnlboogalgaa
namespace Go.Proofs.Ytgbgnlboogalgaa
open Go.Proofs
set_option linter.unusedVariables false
/-- Blocks that aren't of bytes. -/
def Oth (n : Nat) (w : World) (S : List Nat) : Prop := ∀ b ∈ S, n ≤ b ∧ ∀ cs f, w.heap[b]? ≠ some (.cells cs 5 f)
theorem Oth.cells {w : World} {b : Nat} {cs : Array Value} {T : TypeId} (h : Blk w b (.cells cs T)) (hT : T ≠ 5) : ∀ cs f, w.heap[b]? ≠ some (.cells cs 5 f) := fun cs' f e => by
  have := h.uniq e
  simp only [Obj.cells.injEq] at this
  exact hT this.2.1
theorem Oth.own {w : World} {n0 base n sz : Nat} {v : Value} {T : TypeId} {xs : List Value} (ho : w.ownsRow base T sz v n xs) (hn : n0 ≤ base) (hT : T ≠ 5) : Oth n0 w (ownB v) := fun b hb => by
  have hb' := ownB_mem hb
  refine ⟨Nat.le_trans hn (own_geB ho b hb'), ?_⟩
  rcases ho.2 with ⟨rfl, _⟩ | ⟨g, cap, cur, rfl, _, hg, _⟩
  · cases hb'
  · cases hb'
    exact Oth.cells hg hT
theorem Oth.cons {n : Nat} {w : World} {b : Nat} {S : List Nat} (hb : n ≤ b) (h : ∀ cs f, w.heap[b]? ≠ some (.cells cs 5 f)) (hS : Oth n w S) : Oth n w (b :: S) := fun z hz => by
  rcases List.mem_cons.1 hz with rfl | hz
  · exact ⟨hb, h⟩
  · exact hS z hz
theorem Oth.nil {n : Nat} {w : World} : Oth n w [] := fun z hz => (by cases hz)
theorem Bs.kpO {n : Nat} {S : List Nat} {w w' : World} {a : Option Addr} {c : Nat} {l : List UInt8} (h : Bs w a c l) (ht : Tb n w a l) (hk : Kp S w w') (hS : Oth n w S) : Bs w' a c l ∧ Tb n w' a l := by
  have key : l ≠ [] → ∀ b off, a = Option.some ⟨b, off, Option.none⟩ → b ∉ S := fun hn b off e hm => by
    rcases ht with ht | ht
    · obtain ⟨cs, f, hc⟩ := ht hn b off e
      exact (hS b hm).2 cs f hc
    · have := ht b off e
      have := (hS b hm).1
      omega
  refine ⟨⟨h.sl.kpN hk key, h.len, h.some, fun hn b off e => Nat.lt_of_lt_of_le (h.lt hn b off e) hk.size⟩, ht.kp hk key⟩
theorem Tm.In.kpO {n : Nat} {S : List Nat} {x : Tm} {w w' : World} (h : x.In n w) (hk : Kp S w w') (hS : Oth n w S) : x.In n w' :=
  ⟨(h.b.kpO h.t1 hk hS).1, (h.s.kpO h.t2 hk hS).1, (h.b.kpO h.t1 hk hS).2, (h.s.kpO h.t2 hk hS).2, h.l1, h.l2⟩
theorem ec_rows {w : World} {b off : Nat} {e : Em} (h : Row w b off (ec e)) : Row w b off (txc e.x) ∧ Row w b off (dc e.x.t.frm) ∧ Row w b (off + 8) [.int .i64 e.x.t.non] ∧ Row w b (off + 9) [.int .i64 e.x.t.fee] ∧ Row w b (off + 13) (dc (nameT e.x.t)) ∧ Row w b (off + 21) [.int .i64 e.since] := by
  have h0 := h.part [] (txc e.x) (dc (nameT e.x.t) ++ [Value.int .i64 e.since]) (by simp [ec])
  have h1 := h.part (txc e.x) (dc (nameT e.x.t)) [Value.int .i64 e.since] (by simp [ec])
  have h2 := h.part (txc e.x ++ dc (nameT e.x.t)) [Value.int .i64 e.since] [] (by simp [ec])
  simp only [List.length_append, txc_length, dc_length, List.length_nil, Nat.add_zero] at h0 h1 h2
  obtain ⟨q0, q1, q2, -⟩ := txc_rowsO h0
  exact ⟨h0, q0, q1, q2, h1, h2⟩
/-- A pool in memory. -/
structure Pl (w : World) (base p : Nat) (v : Value) (room : Int) (ms : List Em) : Prop where
  blk : Blk w p (.cells #[.int .i64 room, v] 84)
  own : w.ownsRow base 78 22 v ms.length (flt ec ms)
  ins : ∀ e ∈ ms, e.x.In base w
  bp : base ≤ p
theorem Pl.oth {w : World} {base p : Nat} {v : Value} {room : Int} {ms : List Em} (h : Pl w base p v room ms) : Oth base w (p :: ownB v) := Oth.cons h.bp (Oth.cells h.blk (by decide)) (Oth.own h.own (Nat.le_refl _) (by decide))
theorem Pl.nb {w : World} {base p : Nat} {v : Value} {room : Int} {ms : List Em} (h : Pl w base p v room ms) : ∀ b, v.ownBlock = some b → b ∉ [p] := own_neb h.own (by decide) h.blk
theorem Pl.np {w : World} {base p : Nat} {v : Value} {room : Int} {ms : List Em} (h : Pl w base p v room ms) : p ∉ ownB v := fun hm => h.nb p (ownB_mem hm) List.mem_cons_self
theorem own_kpB {w w' : World} {base n sz : Nat} {v : Value} {T : TypeId} {xs : List Value} {S : List Nat} (ho : w.ownsRow base T sz v n xs) (hk : Kp S w w') (hS : ∀ b, v.ownBlock = some b → b ∉ S) : w'.ownsRow base T sz v n xs := by
  refine ⟨ho.1, ?_⟩
  rcases ho.2 with h | ⟨g, cap, cur, rfl, hg, hb, h1, h2, h3, h4⟩
  · exact Or.inl h
  · exact Or.inr ⟨g, cap, cur, rfl, hg, Blk.kp hb hk (hS g rfl), h1, h2, h3, h4⟩
theorem Pl.kp {w w' : World} {base p : Nat} {v : Value} {room : Int} {ms : List Em} {S : List Nat} (h : Pl w base p v room ms) (hk : Kp S w w') (hp : p ∉ S) (hv : ∀ b, v.ownBlock = some b → b ∉ S) (hS : Oth base w S) : Pl w' base p v room ms :=
  ⟨h.blk.kp hk hp, own_kpB h.own hk hv, fun e he => (h.ins e he).kpO hk hS, h.bp⟩
theorem Pl.kp0 {w w' : World} {base p : Nat} {v : Value} {room : Int} {ms : List Em} (h : Pl w base p v room ms) (hk : Kp [] w w') : Pl w' base p v room ms := h.kp hk List.not_mem_nil (fun _ _ => List.not_mem_nil) Oth.nil
theorem Pl.rows {w : World} {base p : Nat} {v : Value} {room : Int} {ms : List Em} (h : Pl w base p v room ms) : Row w p 0 [.int .i64 room] ∧ Row w p 1 [v] :=
  ⟨Row.of h.blk [] [v] rfl rfl, Row.of h.blk [.int .i64 room] [] rfl rfl⟩
theorem Pl.sl {w : World} {base p : Nat} {v : Value} {room : Int} {ms : List Em} (h : Pl w base p v room ms) : ∃ a c, v = .slice a ms.length c ∧ ms.length ≤ c ∧ Sl ec 22 w a ms := Sl.own ec_length h.own rfl
theorem Pl.base_le {w : World} {base p : Nat} {v : Value} {room : Int} {ms : List Em} (h : Pl w base p v room ms) : base ≤ w.heap.size := by
  have := h.blk.lt
  have := h.bp
  omega
attribute [local irreducible] CG NG SG Vals Der Row Blk MapIs IterAt nameT wrongT
set_option maxHeartbeats 16000000 in
theorem isk_spec {w : World} {b4 b5 : Nat} {k : Dg} {n : Int} (e : Em) (h4 : Row w b4 0 (dc k)) (h5 : Row w b5 0 [.int .i64 n]) : Ret Try.prog 61 #[ev e, .pointer (some ⟨b4, 0, none⟩), .pointer (some ⟨b5, 0, none⟩)] w (.bool (isK k n e.en)) := by
  refine enterL (args := [ev e, .pointer (some ⟨b4, 0, none⟩), .pointer (some ⟨b5, 0, none⟩)]) Try.func61 rfl Try.ntmps61 rfl ?_
  repeat (first|apply cA|apply cB)
  refine SG.box rfl rfl rfl (by exact rho_of rfl) (fun b1 w1 hk1 hb1 hB1 => ?_)
  have hB1 : Blk w1 b1 (.cells (ec e).toArray 78) := hB1
  obtain ⟨-, q0, q1, -⟩ := ec_rows (Row.all hB1 rfl)
  simp only [Nat.zero_add] at q1
  have h4 := h4.kp0 hk1
  have h5 := h5.kp0 hk1
  by_cases g0 : e.x.t.frm = k
  case neg =>
    repeat (first | first|apply cA|apply cB|apply cD|apply cE|apply cH|refine cU rfl rfl rfl rfl (by first|((first|apply qmv|apply qas|apply qla|apply qfa|apply qpk|apply qed)<;>(first|exact rfl|assumption|exact dcf (by first|assumption|omega)|exact List.not_mem_nil|apply dc_length|fail))|fail) ?_ | refine SG.skip rfl rfl ?_)
    refine ret1 (Or.inl rfl) Try.results61 (by first | exact ResV.tmp rfl | exact ResV.agg rfl rfl (by assumption) (by first | exact dc_length _ | exact nc_length _ | exact rc_length _ _ _ | exact ec_length _ | exact dl_length _ _ _ _ | rfl) | exact ResV.cell rfl rfl (by assumption)) ?_
    refine ⟨?_, hk1⟩
    have : isK k n e.en = false := by
      cases hh : isK k n e.en with
      | false => rfl
      | true => exact absurd (isK_iff.1 hh).1 g0
    rw [this]
  by_cases g1 : e.x.t.non = n
  case neg =>
    repeat (first|apply cA|apply cB|apply cD|apply cE|apply cH|refine cU rfl rfl rfl rfl (by first|((first|apply qmv|apply qas|apply qlc|apply qla|apply qfa|apply qpk|apply qei|apply qed)<;>(first|exact rfl|assumption|exact dct (by first|assumption|omega)|exact dcf (by first|assumption|omega)|exact List.not_mem_nil|apply dc_length|fail))|fail) ?_)
    refine ret1 (Or.inl rfl) Try.results61 (by first | exact ResV.tmp rfl | exact ResV.agg rfl rfl (by assumption) (by first | exact dc_length _ | exact nc_length _ | exact rc_length _ _ _ | exact ec_length _ | exact dl_length _ _ _ _ | rfl) | exact ResV.cell rfl rfl (by assumption)) ?_
    refine ⟨?_, hk1⟩
    have : isK k n e.en = false := by
      cases hh : isK k n e.en with
      | false => rfl
      | true => exact absurd (isK_iff.1 hh).2 g1
    rw [this]
  repeat (first|apply cA|apply cB|apply cD|apply cE|apply cH|refine cU rfl rfl rfl rfl (by first|((first|apply qmv|apply qas|apply qlc|apply qla|apply qfa|apply qpk|apply qei|apply qed)<;>(first|exact rfl|assumption|exact dct (by first|assumption|omega)|exact List.not_mem_nil|apply dc_length|fail))|fail) ?_)
  refine ret1 (Or.inl rfl) Try.results61 (by first | exact ResV.tmp rfl | exact ResV.agg rfl rfl (by assumption) (by first | exact dc_length _ | exact nc_length _ | exact rc_length _ _ _ | exact ec_length _ | exact dl_length _ _ _ _ | rfl) | exact ResV.cell rfl rfl (by assumption)) ?_
  refine ⟨?_, hk1⟩
  have : isK k n e.en = true := isK_iff.2 ⟨g0, g1⟩
  rw [this]
set_option maxHeartbeats 16000000 in
theorem find_spec {w : World} {base p : Nat} {v : Value} {room : Int} {ms : List Em} (hP : Pl w base p v room ms) (hl : ms.length ≤ 1000000) (k : Dg) (n : Int) : Ret Try.prog 41 #[.pointer (some ⟨p, 0, none⟩), dv k, .int .i64 n] w (.int .i64 (idxZ (fun e : Em => isK k n e.en) ms)) := by
  refine enter3 Try.func41 rfl Try.ntmps41 rfl ?_
  repeat (first|apply cA|apply cB)
  refine SG.box rfl rfl rfl (by exact rho_of rfl) (fun b4 w1 hk1 hb4 hB4 => ?_)
  refine SG.box rfl rfl rfl (by exact rho_of rfl) (fun b5 w2 hk2 hb5 hB5 => ?_)
  have hB4 : Blk w1 b4 (.cells (dc k).toArray 32) := hB4
  have hB5 : Blk w2 b5 (.cells #[.int .i64 n] 3) := hB5
  have r4 : Row w2 b4 0 (dc k) := Row.all (hB4.kp0 hk2) rfl
  have r5 : Row w2 b5 0 [.int .i64 n] := Row.all hB5 rfl
  have k2 := hk1.trans hk2
  have hP := hP.kp0 k2
  obtain ⟨a, c, rfl, hc, hS⟩ := hP.sl
  obtain ⟨-, q1⟩ := hP.rows
  clear hB4 hB5
  repeat (first|apply cA|apply cB|apply cD|apply cE|refine cU rfl rfl rfl rfl (by first|((first|apply qmv|apply qas|apply qlc|apply qfa|apply qnc)<;>(first|exact rfl|assumption|exact List.not_mem_nil))|fail) ?_)
  refine cU rfl rfl rfl rfl (qmf (vs := [.pointer (some ⟨b4, 0, none⟩), .pointer (some ⟨b5, 0, none⟩)]) rfl) ?_
  refine SG.ret rfl rfl rfl (vs := [.slice a ms.length c, fnv 61 [.pointer (some ⟨b4, 0, none⟩), .pointer (some ⟨b5, 0, none⟩)]]) (by repeat' (first | exact True.intro | exact rho_of rfl | refine And.intro ?_ ?_)) (idxf_spec (f := 61) (Fn := by infer_instance) (caps := [.pointer (some ⟨b4, 0, none⟩), .pointer (some ⟨b5, 0, none⟩)]) (p := fun e : Em => isK k n e.en) (c := c) hS (by omega) (fun o ho W hk => isk_spec o (r4.kp0 hk) (r5.kp0 hk))) (fun w3 hk3 => ?_)
  repeat (first|apply cD|apply cE|apply cH|refine cU rfl rfl rfl rfl (by first|(apply qas<;>(exact rfl))|fail) ?_)
  refine ret1 (Or.inl rfl) Try.results41 (by first | exact ResV.tmp rfl | exact ResV.agg rfl rfl (by assumption) (by first | exact dc_length _ | exact nc_length _ | exact rc_length _ _ _ | exact ec_length _ | exact dl_length _ _ _ _ | rfl) | exact ResV.cell rfl rfl (by assumption)) ?_
  exact ⟨rfl, k2.trans hk3⟩
theorem bpool (room : Int) (w : World) : (Instr.build 84 #[(0, .int .i64 room)]).run Try.prog w = .ok (.agg #[.int .i64 room, .slice none 0 0]) w := by kernel_rfl
set_option maxHeartbeats 16000000 in
theorem new_spec {w : World} {room : Int} (h1 : 1 ≤ room) (h2 : room ≤ 1024) : Calls Try.prog 18 #[.int .i64 room] w (fun e w' => ∃ p, e = .returned (.tuple #[.pointer (some ⟨p, 0, none⟩), .int .i64 0]) ∧ w.heap.size ≤ p ∧ Kp [] w w' ∧ ∀ base, base ≤ w.heap.size → Pl w' base p (.slice none 0 0) room []) := by
  refine enter1 Try.func18 rfl Try.ntmps18 rfl ?_
  have g1 : ¬ room < 1 := by omega
  have g2 : ¬ 1024 < room := by omega
  repeat (first|apply cA|apply cB|apply cD|apply cE|refine cU rfl rfl rfl rfl (by first|((first|apply qmv|apply qas|apply qpk|apply qls|apply qgt)<;>(first|exact rfl|exact dcf (by first|assumption|omega)|fail))|fail) ?_)
  refine cX rfl (by exact rho_of rfl) rfl ?_
  repeat (first|apply cA|apply cB|apply cE|apply cF|refine cU rfl rfl rfl rfl (by first|(apply qmv<;>(exact rfl))|fail) ?_)
  refine cU rfl rfl rfl rfl (vals_build rfl (bpool room)) ?_
  refine SG.box rfl rfl rfl (by exact rho_of rfl) (fun b1 w1 hk1 hb1 hB1 => ?_)
  have hB1 : Blk w1 b1 (.cells #[.int .i64 room, .slice none 0 0] 84) := hB1
  repeat (first|apply cD|apply cE|apply cH|refine cU rfl rfl rfl rfl (by first|(apply qas<;>(exact rfl))|fail) ?_)
  refine ret2 (Or.inl rfl) Try.results18 (by first | exact ResV.tmp rfl | exact ResV.agg rfl rfl (by assumption) (by first | exact dc_length _ | exact nc_length _ | exact rc_length _ _ _ | exact ec_length _ | exact dl_length _ _ _ _ | rfl) | exact ResV.cell rfl rfl (by assumption)) (by first | exact ResV.tmp rfl | exact ResV.agg rfl rfl (by assumption) (by first | exact dc_length _ | exact nc_length _ | exact rc_length _ _ _ | exact ec_length _ | exact dl_length _ _ _ _ | rfl) | exact ResV.cell rfl rfl (by assumption)) ?_
  exact ⟨b1, rfl, hb1, hk1, fun base hb => ⟨hB1, own_nil, fun e he => (by cases he), Nat.le_trans hb hb1⟩⟩
end Go.Proofs.Ytgbgnlboogalgaa
namespace Go.Proofs.Ytgbgnlboogalgaa
open Go.Proofs
set_option linter.unusedVariables false
set_option maxHeartbeats 4000000 in
theorem bent' (w : World) (a0 a1 a2 a3 a4 a5 a6 a7 c0 c1 c2 c3 c4 c5 c6 c7 : UInt8) (n f k s : Int) (x1 x2 : Option Addr) (m1 m2 d1 d2 : Nat) :
    (Instr.build 78 #[(0, .agg #[bv a0, bv a1, bv a2, bv a3, bv a4, bv a5, bv a6, bv a7, .int .i64 n, .int .i64 f, .int .i64 k, .slice x1 m1 d1, .slice x2 m2 d2]), (1, .agg #[bv c0, bv c1, bv c2, bv c3, bv c4, bv c5, bv c6, bv c7]), (2, .int .i64 s)]).run Try.prog w = .ok (.agg #[bv a0, bv a1, bv a2, bv a3, bv a4, bv a5, bv a6, bv a7, .int .i64 n, .int .i64 f, .int .i64 k, .slice x1 m1 d1, .slice x2 m2 d2, bv c0, bv c1, bv c2, bv c3, bv c4, bv c5, bv c6, bv c7, .int .i64 s]) w := by kernel_rfl
theorem bent (w : World) (x : Tm) (d : Dg) (s : Int) : (Instr.build 78 #[(0, txv x), (1, dv d), (2, .int .i64 s)]).run Try.prog w = .ok (.agg (txc x ++ (dc d ++ [Value.int .i64 s])).toArray) w := by
  obtain ⟨⟨⟨l, hl⟩, n, f, k, b, g⟩, a1, c1, a2, c2⟩ := x
  obtain ⟨m, hm⟩ := d
  match l, hl, m, hm with
  | [x0, x1, x2, x3, x4, x5, x6, x7], _, [y0, y1, y2, y3, y4, y5, y6, y7], _ => exact bent' w x0 x1 x2 x3 x4 x5 x6 x7 y0 y1 y2 y3 y4 y5 y6 y7 n f k s a1 a2 b.length g.length c1 c2
set_option maxHeartbeats 4000000 in
theorem bsent' (w : World) (a0 a1 a2 a3 a4 a5 a6 a7 c0 c1 c2 c3 c4 c5 c6 c7 : UInt8) (n f k s : Int) (x1 x2 : Option Addr) (m1 m2 c1' c2' : Nat) :
    (Instr.buildSlice 82 1 #[(0, .agg #[bv a0, bv a1, bv a2, bv a3, bv a4, bv a5, bv a6, bv a7, .int .i64 n, .int .i64 f, .int .i64 k, .slice x1 m1 c1', .slice x2 m2 c2', bv c0, bv c1, bv c2, bv c3, bv c4, bv c5, bv c6, bv c7, .int .i64 s])]).run Try.prog w = .ok (.slice (some ⟨w.heap.size, 0, none⟩) 1 1) { w with heap := w.heap.push (.cells #[bv a0, bv a1, bv a2, bv a3, bv a4, bv a5, bv a6, bv a7, .int .i64 n, .int .i64 f, .int .i64 k, .slice x1 m1 c1', .slice x2 m2 c2', bv c0, bv c1, bv c2, bv c3, bv c4, bv c5, bv c6, bv c7, .int .i64 s] 78) } := by kernel_rfl
theorem bsentD (x : Tm) (d : Dg) (s : Int) (w : World) : (Instr.buildSlice 82 1 #[(0, .agg (txc x ++ (dc d ++ [Value.int .i64 s])).toArray)]).run Try.prog w = .ok (.slice (some ⟨w.heap.size, 0, none⟩) 1 1) { w with heap := w.heap.push (.cells (txc x ++ (dc d ++ [Value.int .i64 s])).toArray 78) } := by
  obtain ⟨⟨⟨l, hl⟩, n, f, k, b, g⟩, a1, c1, a2, c2⟩ := x
  obtain ⟨m, hm⟩ := d
  match l, hl, m, hm with
  | [x0, x1, x2, x3, x4, x5, x6, x7], _, [y0, y1, y2, y3, y4, y5, y6, y7], _ => exact bsent' w x0 x1 x2 x3 x4 x5 x6 x7 y0 y1 y2 y3 y4 y5 y6 y7 n f k s a1 a2 b.length g.length c1 c2
section
variable {room h : Int} {l : List En} {t : Tx}
theorem addZ_low (h1 : h < 0 ∨ 1099511627776 < h) : addZ room l h t = 2 := by
  unfold addZ
  rw [if_pos h1]
theorem addZ_bad (h1 : ¬ (h < 0 ∨ 1099511627776 < h)) (h2 : wrongT t ≠ 0) : addZ room l h t = wrongT t := by
  unfold addZ
  rw [if_neg h1, if_pos h2]
theorem addZ_same (h1 : ¬ (h < 0 ∨ 1099511627776 < h)) (h2 : wrongT t = 0) {o : En} (h3 : l.find? (isK t.frm t.non) = some o) (h4 : o.t = t) : addZ room l h t = 7 := by
  unfold addZ
  rw [if_neg h1, if_neg (fun k => k h2), h3]
  exact if_pos h4
theorem addZ_old (h1 : ¬ (h < 0 ∨ 1099511627776 < h)) (h2 : wrongT t = 0) {o : En} (h3 : l.find? (isK t.frm t.non) = some o) (h4 : o.t ≠ t) (h5 : t.fee ≤ o.t.fee) : addZ room l h t = 18 := by
  unfold addZ
  rw [if_neg h1, if_neg (fun k => k h2), h3]
  simp only
  rw [if_neg h4, if_pos h5]
theorem addZ_new (h1 : ¬ (h < 0 ∨ 1099511627776 < h)) (h2 : wrongT t = 0) {o : En} (h3 : l.find? (isK t.frm t.non) = some o) (h4 : o.t ≠ t) (h5 : ¬ t.fee ≤ o.t.fee) : addZ room l h t = 0 := by
  unfold addZ
  rw [if_neg h1, if_neg (fun k => k h2), h3]
  simp only
  rw [if_neg h4, if_neg h5]
theorem addZ_full (h1 : ¬ (h < 0 ∨ 1099511627776 < h)) (h2 : wrongT t = 0) (h3 : l.find? (isK t.frm t.non) = none) (h4 : room ≤ l.length) : addZ room l h t = 8 := by
  unfold addZ
  rw [if_neg h1, if_neg (fun k => k h2), h3]
  exact if_pos h4
theorem addZ_ok (h1 : ¬ (h < 0 ∨ 1099511627776 < h)) (h2 : wrongT t = 0) (h3 : l.find? (isK t.frm t.non) = none) (h4 : ¬ room ≤ l.length) : addZ room l h t = 0 := by
  unfold addZ
  rw [if_neg h1, if_neg (fun k => k h2), h3]
  exact if_neg h4
end
theorem map_cut {α β : Type} (f : α → β) (l : List α) (i : Nat) : (cutL l i).map f = (l.map f).eraseIdx i := by
  rw [cutL, List.map_append, List.map_take, List.map_drop, List.eraseIdx_eq_take_drop_succ]
theorem like_idx {ms : List Em} {k : Dg} {n : Int} : likeN (ms.map Em.en) k n = ms.findIdx (fun e => isK k n e.en) := by
  unfold likeN
  rw [List.findIdx_map]
  rfl
theorem Kp.st {S S' : List Nat} {w w1 w2 : World} (h : Kp S w w1) (h2 : Kp S' w1 w2) (hs : ∀ z ∈ S', z ∈ S ∨ w.heap.size ≤ z) : Kp S w w2 := h.trans_new h2 hs
attribute [local irreducible] CG NG SG Vals Der Row Blk MapIs IterAt nameT wrongT
set_option maxHeartbeats 16000000 in
theorem add_spec {w : World} {base p : Nat} {v : Value} {room : Int} {ms : List Em} {h : Int} {x : Tm} (hP : Pl w base p v room ms) (hx : x.In base w) (hI : PInv room (ms.map Em.en)) (hr : room ≤ 1024) :
    Calls Try.prog 20 #[.pointer (some ⟨p, 0, none⟩), .int .i64 h, txv x] w (fun e w' => e = .returned (.int .i64 (addZ room (ms.map Em.en) h x.t)) ∧ ∃ v' ms', Pl w' base p v' room ms' ∧ ms'.map Em.en = addE room (ms.map Em.en) h x.t ∧ Kp (p :: ownB v) w w' ∧ (∀ g, v'.ownBlock = some g → v.ownBlock = some g ∨ w.heap.size ≤ g)) := by
  refine enter3 Try.func20 rfl Try.ntmps20 rfl ?_
  have hno : ∀ {w' : World} {z : Int}, Kp [] w w' → addZ room (ms.map Em.en) h x.t = z → z ≠ 0 → (Ending.returned (.int .i64 z) = .returned (.int .i64 (addZ room (ms.map Em.en) h x.t)) ∧ ∃ v' ms', Pl w' base p v' room ms' ∧ ms'.map Em.en = addE room (ms.map Em.en) h x.t ∧ Kp (p :: ownB v) w w' ∧ (∀ g, v'.ownBlock = some g → v.ownBlock = some g ∨ w.heap.size ≤ g)) := fun hk hz hz0 => by
    refine ⟨by rw [hz], v, ms, hP.kp0 hk, ?_, hk.any, fun g hg => Or.inl hg⟩
    unfold addE
    rw [if_neg (by rw [hz]; exact hz0)]
  have hll : (ms.length : Int) ≤ 1024 := by have := hI.len; rw [List.length_map] at this; omega
  have hlp := hP.blk.lt
  repeat (first|apply cA|apply cB)
  refine SG.box rfl rfl rfl (by exact rho_of rfl) (fun b5 w1 hk1 hb5 hB5 => ?_)
  have hB5 : Blk w1 b5 (.cells (txc x).toArray 35) := hB5
  have lt5 := hB5.lt
  repeat (first|apply cA|apply cB|apply cD|apply cE|refine cU rfl rfl rfl rfl (by first|((first|apply qep|apply qmv|apply qas|apply qep)<;>(exact rfl))|fail) ?_)
  refine cX rfl (by exact rho_of rfl) rfl ?_
  by_cases h1 : h < 0
  · have hz : addZ room (ms.map Em.en) h x.t = 2 := addZ_low (Or.inl h1)
    repeat (first | first|apply cA|apply cB|apply cD|apply cE|apply cF|refine cU rfl rfl rfl rfl (by first|((first|apply qmv|apply qpk|apply qls)<;>(first|exact rfl|exact dct (by first|assumption|omega)|fail))|fail) ?_ | refine SG.skip rfl rfl ?_)
    refine cV rfl (by exact rho_of rfl) rfl ?_
    repeat (first|apply cA|apply cB|apply cD|apply cE|apply cH|apply NG.ret_then|refine cU rfl rfl rfl rfl (by first|(apply qas<;>(exact rfl))|fail) ?_)
    refine ret1 (Or.inl rfl) Try.results20 (by first | exact ResV.tmp rfl | exact ResV.agg rfl rfl (by assumption) (by first | exact dc_length _ | exact nc_length _ | exact rc_length _ _ _ | exact ec_length _ | exact dl_length _ _ _ _ | rfl) | exact ResV.cell rfl rfl (by assumption)) ?_
    exact hno hk1 hz (by decide)
  by_cases h2 : 1099511627776 < h
  · have hz : addZ room (ms.map Em.en) h x.t = 2 := addZ_low (Or.inr h2)
    repeat (first|apply cA|apply cB|apply cD|apply cE|apply cF|refine cU rfl rfl rfl rfl (by first|((first|apply qmv|apply qpk|apply qls|apply qgt)<;>(first|exact rfl|exact dct (by first|assumption|omega)|exact dcf (by first|assumption|omega)|fail))|fail) ?_)
    refine cV rfl (by exact rho_of rfl) rfl ?_
    repeat (first|apply cA|apply cB|apply cD|apply cE|apply cH|apply NG.ret_then|refine cU rfl rfl rfl rfl (by first|(apply qas<;>(exact rfl))|fail) ?_)
    refine ret1 (Or.inl rfl) Try.results20 (by first | exact ResV.tmp rfl | exact ResV.agg rfl rfl (by assumption) (by first | exact dc_length _ | exact nc_length _ | exact rc_length _ _ _ | exact ec_length _ | exact dl_length _ _ _ _ | rfl) | exact ResV.cell rfl rfl (by assumption)) ?_
    exact hno hk1 hz (by decide)
  repeat (first|apply cA|apply cB|apply cD|apply cE|apply cF|refine cU rfl rfl rfl rfl (by first|((first|apply qmv|apply qpk|apply qls|apply qgt)<;>(first|exact rfl|exact dcf (by first|assumption|omega)|fail))|fail) ?_)
  refine cX rfl (by exact rho_of rfl) rfl ?_
  have hh : ¬ (h < 0 ∨ 1099511627776 < h) := by omega
  clear h1 h2
  obtain ⟨r0, -⟩ := txc_rows hB5
  repeat (first|apply cA|apply cB|apply cE|apply cF|refine cU rfl rfl rfl rfl (by first|(apply qla<;>(first|exact rfl|assumption|exact List.not_mem_nil|apply txc_length))|fail) ?_)
  refine SG.ret rfl rfl rfl (vs := [txv x]) (by repeat' (first | exact True.intro | exact rho_of rfl | refine And.intro ?_ ?_)) (check_spec (hx.kp0 hk1)) (fun w2 hk2 => ?_)
  clear r0
  have k2 := hk1.trans hk2
  by_cases h3 : wrongT x.t = 0
  rotate_left
  · have hz := addZ_bad (room := room) (l := ms.map Em.en) hh h3
    generalize wrongT x.t = z at h3 hz
    repeat (first|apply cA|apply cB|apply cD|apply cE|refine cU rfl rfl rfl rfl (by first|((first|apply qmv|apply qas|apply qni)<;>(first|exact rfl|exact dcf (by first|assumption|omega)|fail))|fail) ?_)
    refine cV rfl (by exact rho_of rfl) rfl ?_
    repeat (first|apply cA|apply cB|apply cD|apply cE|apply cH|apply NG.ret_then|refine cU rfl rfl rfl rfl (by first|((first|apply qmv|apply qas)<;>(exact rfl))|fail) ?_)
    refine ret1 (Or.inl rfl) Try.results20 (by first | exact ResV.tmp rfl | exact ResV.agg rfl rfl (by assumption) (by first | exact dc_length _ | exact nc_length _ | exact rc_length _ _ _ | exact ec_length _ | exact dl_length _ _ _ _ | rfl) | exact ResV.cell rfl rfl (by assumption)) ?_
    exact hno k2 hz h3
  rw [h3]
  have h00 : (0 : Int) = 0 := rfl
  repeat (first|apply cA|apply cB|apply cD|apply cE|refine cU rfl rfl rfl rfl (by first|((first|apply qmv|apply qas|apply qni)<;>(first|exact rfl|exact dct (by first|assumption|omega)|fail))|fail) ?_)
  refine cX rfl (by exact rho_of rfl) rfl ?_
  have hB5 := hB5.kp0 hk2
  obtain ⟨-, q0, q1, -⟩ := txc_rows hB5
  repeat (first|apply cA|apply cB|apply cE|apply cF|refine cU rfl rfl rfl rfl (by first|((first|apply qmv|apply qlc|apply qla|apply qfa)<;>(first|exact rfl|assumption|exact List.not_mem_nil|apply dc_length))|fail) ?_)
  refine SG.ret rfl rfl rfl (vs := [.pointer (some ⟨p, 0, none⟩), dv x.t.frm, .int .i64 x.t.non]) (by repeat' (first | exact True.intro | exact rho_of rfl | refine And.intro ?_ ?_)) (find_spec (hP.kp0 k2) (by omega) x.t.frm x.t.non) (fun w3 hk3 => ?_)
  clear q0 q1
  have k3 := k2.trans hk3
  have hB5 := hB5.kp0 hk3
  repeat (refine cU rfl rfl rfl rfl (by first|(apply qas<;>(exact rfl))|fail) ?_)
  refine cD ?_
  refine cE ?_
  have hP3 := hP.kp0 k3
  have hbO : b5 ∉ p :: ownB v := fun hm => by
    rcases List.mem_cons.1 hm with e | hm
    · omega
    · have := own_lt hP.own b5 (ownB_mem hm)
      omega
  refine CG.cut_then (fun L w' => SubE [(0, .pointer (some ⟨p, 0, none⟩)), (1, .int .i64 h), (5, .pointer (some ⟨b5, 0, none⟩))] L ∧ ∃ v2 ms2, Pl w' base p v2 room ms2 ∧ ms2.map Em.en = (ms.map Em.en).eraseIdx (likeN (ms.map Em.en) x.t.frm x.t.non) ∧ Kp (p :: ownB v) w3 w' ∧ (∀ g, v2.ownBlock = some g → v.ownBlock = some g) ∧ addZ room (ms.map Em.en) h x.t = 0 ∧ ms2.length ≤ ms.length) ?_ ?_
  · have hfi := find_idx (l := ms.map Em.en) (k := x.t.frm) (n := x.t.non)
    have hli := like_idx (ms := ms) (k := x.t.frm) (n := x.t.non)
    by_cases hf : ms.findIdx (fun e => isK x.t.frm x.t.non e.en) < ms.length
    · rw [idxZ_lt hf]
      generalize hi : ms.findIdx (fun e => isK x.t.frm x.t.non e.en) = i at hf hli
      rw [hli, List.getElem?_eq_getElem (by simpa using hf), List.getElem_map] at hfi
      have gi : (0 : Int) ≤ (i : Int) := by omega
      have gi2 : ¬ (i : Int) < 0 := by omega
      obtain ⟨a, c, rfl, hc, hS⟩ := hP3.sl
      obtain ⟨-, q1⟩ := hP3.rows
      obtain ⟨b1, o1, rfl, hri⟩ := hS.at hf
      obtain ⟨s0, -, -, -⟩ := ec_rows hri
      have hxi : ms[i].x.In base w3 := hP3.ins _ (List.getElem_mem hf)
      repeat (first|apply cA|apply cB|apply cD|apply cE|refine cU rfl rfl rfl rfl (by first|((first|apply qmv|apply qge)<;>(first|exact rfl|exact dct (by first|assumption|omega)|fail))|fail) ?_)
      refine cV rfl (by exact rho_of rfl) rfl ?_
      repeat (first|apply cA|apply cB|refine cU rfl rfl rfl rfl (by first|((first|apply qmv|apply qlc|apply qla|apply qfa|apply qnc|apply qix)<;>(first|exact rfl|exact Ar.mk (by omega)|assumption|exact List.not_mem_nil|apply txc_length|fail))|fail) ?_)
      refine SG.alloc rfl rfl rfl (fun b9 w4 hk4 hb9 hB9 => ?_)
      refine SG.setAll (l := txc ms[i].x) rfl rfl (by exact rho_of rfl) (by exact rho_of rfl) hB9 (txc_length _) rfl (txc_one _) (fun w5 hk5 hB9 => ?_)
      have hB9 : Blk w5 b9 (.cells (txc ms[i].x).toArray 35) := hB9
      have k35 : Kp [] w3 w5 := hk4.trans_new hk5 (new1 (by omega))
      have hB5 := hB5.kp0 k35
      clear q1 hri s0
      obtain ⟨t0, -⟩ := txc_rows hB9
      obtain ⟨u0, -⟩ := txc_rows hB5
      repeat (first|apply cA|apply cB|apply cD|apply cE|refine cU rfl rfl rfl rfl (by first|(apply qla<;>(first|exact rfl|assumption|exact List.not_mem_nil|apply txc_length))|fail) ?_)
      refine SG.ret rfl rfl rfl (vs := [txv ms[i].x, txv x]) (by repeat' (first | exact True.intro | exact rho_of rfl | refine And.intro ?_ ?_)) (tsame_spec (hxi.kp0 k35) ((hx.kp0 k3).kp0 k35)) (fun w6 hk6 => ?_)
      clear t0 u0
      have k36 := k35.trans hk6
      have k6 := k3.trans k36
      by_cases hsame : ms[i].x.t = x.t
      · have hz := addZ_same (room := room) hh h3 hfi hsame
        rw [txEq_t hsame]
        repeat (first|apply cD|apply cE)
        refine cV rfl (by exact rho_of rfl) rfl ?_
        repeat (first|apply cA|apply cB|apply cD|apply cE|apply cH|apply NG.ret_then|refine cU rfl rfl rfl rfl (by first|(apply qas<;>(exact rfl))|fail) ?_)
        refine ret1 (Or.inl rfl) Try.results20 (by first | exact ResV.tmp rfl | exact ResV.agg rfl rfl (by assumption) (by first | exact dc_length _ | exact nc_length _ | exact rc_length _ _ _ | exact ec_length _ | exact dl_length _ _ _ _ | rfl) | exact ResV.cell rfl rfl (by assumption)) ?_
        exact hno k6 hz (by decide)
      rw [txEq_f hsame]
      repeat (first|apply cD|apply cE)
      refine cX rfl (by exact rho_of rfl) rfl ?_
      obtain ⟨-, -, -, u2, -⟩ := txc_rows (hB5.kp0 hk6)
      obtain ⟨-, -, -, t2, -⟩ := txc_rows (hB9.kp0 hk6)
      by_cases hfee : x.t.fee ≤ ms[i].x.t.fee
      · have hz := addZ_old (room := room) hh h3 hfi hsame hfee
        repeat (first|apply cA|apply cB|apply cD|apply cE|apply cF|refine cU rfl rfl rfl rfl (by first|((first|apply qlc|apply qfa|apply qle)<;>(first|exact rfl|assumption|exact dct (by first|assumption|omega)|exact List.not_mem_nil|fail))|fail) ?_)
        refine cV rfl (by exact rho_of rfl) rfl ?_
        repeat (first|apply cA|apply cB|apply cD|apply cE|apply cH|apply NG.ret_then|refine cU rfl rfl rfl rfl (by first|(apply qas<;>(exact rfl))|fail) ?_)
        refine ret1 (Or.inl rfl) Try.results20 (by first | exact ResV.tmp rfl | exact ResV.agg rfl rfl (by assumption) (by first | exact dc_length _ | exact nc_length _ | exact rc_length _ _ _ | exact ec_length _ | exact dl_length _ _ _ _ | rfl) | exact ResV.cell rfl rfl (by assumption)) ?_
        exact hno k6 hz (by decide)
      have hz := addZ_new (room := room) hh h3 hfi hsame hfee
      repeat (first|apply cA|apply cB|apply cD|apply cE|apply cF|refine cU rfl rfl rfl rfl (by first|((first|apply qlc|apply qfa|apply qle)<;>(first|exact rfl|assumption|exact dcf (by first|assumption|omega)|exact List.not_mem_nil|fail))|fail) ?_)
      refine cX rfl (by exact rho_of rfl) rfl ?_
      clear u2 t2
      have hP6 := hP3.kp0 k36
      obtain ⟨-, q1⟩ := hP6.rows
      repeat (first|apply cB|apply cE|apply cF|refine cU rfl rfl rfl rfl (by first|((first|apply qmv|apply qlc|apply qfa|apply qnc|apply qad)<;>(first|exact rfl|exact Ar.mk (by omega)|assumption|exact List.not_mem_nil|fail))|fail) ?_)
      refine SG.call rfl rfl rfl (vs := [.slice (some ⟨b1, o1, none⟩) ms.length c, .int .i64 (i : Int), .int .i64 ((i : Int) + 1)]) (by repeat' (first | exact True.intro | exact rho_of rfl | refine And.intro ?_ ?_)) ((edel_spec hP6.own (by omega) hf hP6.base_le).mono (fun e w7 hh7 => ?_))
      obtain ⟨v7, he, hk7, ho7, hv7⟩ := hh7
      refine ⟨_, he, ?_⟩
      clear q1
      have hB7 := hP6.blk.kp hk7 hP6.np
      have hn7 : ∀ b, v7.ownBlock = some b → b ∉ [p] := own_neb ho7 (by decide) hB7
      obtain ⟨a7, c7, rfl, -, -⟩ := Sl.own (l := cutL ms i) ec_length ho7 rfl
      repeat (first|refine cU rfl rfl rfl rfl (by first|((first|apply qfa|apply qnc)<;>(exact rfl))|fail) ?_)
      refine SG.setMid [.int .i64 room] [.slice (some ⟨b1, o1, none⟩) ms.length c] [] rfl rfl (by exact rho_of rfl) (by exact rho_of rfl) hB7 rfl rfl rfl rfl rfl (fun w8 hk8 hB8 => ?_)
      have hP8 : Pl w8 base p (.slice a7 (cutL ms i).length c7) room (cutL ms i) := by
        refine ⟨hB8, own_kpB ho7 hk8 hn7, fun e he => ?_, hP6.bp⟩
        have hm : e ∈ ms := by
          rcases List.mem_append.1 he with h | h
          · exact List.mem_of_mem_take h
          · exact List.mem_of_mem_drop h
        refine (((hP6.ins e hm).kpO hk7 (Oth.own hP6.own (Nat.le_refl _) (by decide))).kpO hk8 (Oth.cons hP6.bp (Oth.cells hB7 (by decide)) Oth.nil))
      repeat (first|apply cD)
      refine NG.cut ⟨by (repeat' (first | exact True.intro | exact rfl | refine And.intro ?_ ?_)), _, _, hP8, by rw [hli]; exact map_cut _ _ _, ((k36.any).trans (hk7.mono (fun z hz => List.mem_cons_of_mem _ hz))).trans (hk8.mono (fun z hz => by rw [List.mem_singleton] at hz; rw [hz]; exact List.mem_cons_self)), hv7, hz, ?_⟩
      unfold cutL
      rw [List.length_append, List.length_take, List.length_drop]
      omega
    · rw [idxZ_no hf]
      rw [hli, List.getElem?_eq_none (by rw [List.length_map]; omega)] at hfi
      have gi : ¬ (0 : Int) ≤ -1 := by omega
      obtain ⟨a, c, rfl, hc, hS⟩ := hP3.sl
      obtain ⟨q0, q1⟩ := hP3.rows
      repeat (first|apply cA|apply cB|apply cD|apply cE|refine cU rfl rfl rfl rfl (by first|((first|apply qmv|apply qge)<;>(first|exact rfl|exact dcf (by first|assumption|omega)|fail))|fail) ?_)
      refine cX rfl (by exact rho_of rfl) rfl ?_
      repeat (first|apply cA)
      refine CG.tail mixed 9 [0, 1, 2, 3, 4, 5, 6, 7, 8] (by kernel_rfl) ?_
      repeat (refine Der.val rfl rfl rfl (by first|((first|apply qmv|apply qlc|apply qfa|apply qnc|apply qln)<;>(first|exact rfl|assumption|exact List.not_mem_nil))|fail) ?_)
      refine Der.tl (fun w4 hk4 _ _ => ?_)
      clear q0 q1
      by_cases hfull : room ≤ (ms.length : Int)
      · have hz := addZ_full (room := room) hh h3 hfi (by rw [List.length_map]; exact hfull)
        repeat (first|apply cD|apply cE|refine cU rfl rfl rfl rfl (by first|(apply qge<;>(first|exact rfl|exact dct (by first|assumption|omega)|fail))|fail) ?_)
        refine cV rfl (by exact rho_of rfl) rfl ?_
        repeat (first|apply cA|apply cB|apply cD|apply cE|apply cH|apply NG.ret_then|refine cU rfl rfl rfl rfl (by first|(apply qas<;>(exact rfl))|fail) ?_)
        refine ret1 (Or.inl rfl) Try.results20 (by first | exact ResV.tmp rfl | exact ResV.agg rfl rfl (by assumption) (by first | exact dc_length _ | exact nc_length _ | exact rc_length _ _ _ | exact ec_length _ | exact dl_length _ _ _ _ | rfl) | exact ResV.cell rfl rfl (by assumption)) ?_
        exact hno (k3.trans hk4) hz (by decide)
      · have hz := addZ_ok (room := room) hh h3 hfi (by rw [List.length_map]; exact hfull)
        repeat (first|apply cD|apply cE|refine cU rfl rfl rfl rfl (by first|(apply qge<;>(first|exact rfl|exact dcf (by first|assumption|omega)|fail))|fail) ?_)
        refine cX rfl (by exact rho_of rfl) rfl ?_
        repeat (first|apply cF)
        refine NG.cut ⟨by (repeat' (first | exact True.intro | exact rfl | refine And.intro ?_ ?_)), _, _, hP3.kp0 hk4, ?_, hk4.any, fun _ h => h, hz, Nat.le_refl _⟩
        rw [hli, List.eraseIdx_of_length_le (by rw [List.length_map]; omega)]
  rintro L w4 ⟨hLL, v2, ms2, hP4, hms, hk4, hv2, hz, hl2⟩
  refine CG.to _ hLL ?_
  clear hLL L hno
  have k4 : Kp (p :: ownB v) w w4 := k3.any.trans hk4
  have hB5 := hB5.kp hk4 hbO
  have hx4 : x.In base w4 := (hx.kp0 k3).kpO hk4 hP3.oth
  obtain ⟨u0, -⟩ := txc_rows hB5
  obtain ⟨-, q1⟩ := hP4.rows
  have hl1 := hx.l1
  have hsz := hP4.base_le
  have hSl : ∀ z ∈ ownB v2, z < w4.heap.size := fun z hz => own_lt hP4.own z (ownB_mem hz)
  have hO := Oth.own hP4.own (Nat.le_refl _) (by decide)
  have nbp : p ∉ ownB v2 := hP4.np
  have nb5 : b5 ∉ ownB v2 := fun hm => by
    have := own_lt hP.own b5 (hv2 b5 (ownB_mem hm))
    omega
  obtain ⟨a2, c2, rfl, -, -⟩ := hP4.sl
  obtain ⟨F', hF'⟩ : ∃ F' : {y : Tm // y.t = x.t} → World → Prop, F' = fun y W => y.1.In base W ∧ (∀ b off, y.1.a1 = some ⟨b, off, none⟩ → w4.heap.size ≤ b) ∧ (∀ b off, y.1.a2 = some ⟨b, off, none⟩ → w4.heap.size ≤ b) := ⟨_, rfl⟩
  have hst : ∀ y, Stab (ownB (.slice a2 ms2.length c2)) (F' y) := fun y W W' hk h => by
    rw [hF'] at h ⊢
    obtain ⟨h1, h2, h3⟩ := h
    have n1 : ∀ b off, y.1.a1 = some ⟨b, off, none⟩ → b ∉ ownB (.slice a2 ms2.length c2) := fun b off e hm => by have := h2 b off e; have := hSl b hm; omega
    have n2 : ∀ b off, y.1.a2 = some ⟨b, off, none⟩ → b ∉ ownB (.slice a2 ms2.length c2) := fun b off e hm => by have := h3 b off e; have := hSl b hm; omega
    exact ⟨⟨h1.b.kp hk n1, h1.s.kp hk n2, h1.t1.kp hk (fun _ => n1), h1.t2.kp hk (fun _ => n2), h1.l1, h1.l2⟩, h2, h3⟩
  repeat (first|apply cA)
  refine CG.tailg mixed 13 [0, 1, 2, 3, 4, 5, 7, 8, 9, 6, 10, 11, 12] [6, 11, 12] (ownB (.slice a2 ms2.length c2)) (fun w => w.ownsRow base 78 22 (.slice a2 ms2.length c2) ms2.length (flt ec ms2)) (by kernel_rfl) hP4.own (fun _ _ hk h => own_kp0 h hk) ?_
  repeat (refine Der.val rfl rfl rfl (by first|((first|apply qmv|apply qlc|apply qla|apply qfa|apply qnc)<;>(first|exact rfl|assumption|apply txc_length))|fail) ?_)
  refine Der.call rfl rfl rfl (vs := [txv x]) (by repeat' (first | exact True.intro | exact rho_of rfl | refine And.intro ?_ ?_)) (fun W hk _ => name_spec (hx4.kpO hk hO)) ?_
  repeat (refine Der.val rfl rfl rfl (by first|(apply qmv<;>(exact rfl))|fail) ?_)
  refine Der.callGR (X := {y : Tm // y.t = x.t}) (vs := [txv x]) (fun y => txv y.1) F' (fun _ W => W.ownsRow base 78 22 (.slice a2 ms2.length c2) ms2.length (flt ec ms2)) rfl rfl rfl rfl (by repeat' (first | exact True.intro | exact rho_of rfl | refine And.intro ?_ ?_)) hst (fun _ _ _ hk h => own_kp0 h hk) (fun _ _ _ h => h) (fun W hk _ hR => (tclone_spec (hx4.kpO hk hO)).mono (fun e W' hh => ?_)) (fun y => ?_)
  · obtain ⟨y, hy, he, hin, hky, g1, g2⟩ := hh
    refine ⟨⟨y, hy⟩, he, ?_, own_kp0 hR hky, hky.any⟩
    rw [hF']
    exact ⟨hin.mono (Nat.zero_le _), fun b off e => Nat.le_trans hk.size (g1 b off e), fun b off e => Nat.le_trans hk.size (g2 b off e)⟩
  refine Der.val rfl rfl rfl (vals_build rfl (fun W => bent W y.1 (nameT x.t) h)) ?_
  refine Der.buildR (cs := (txc y.1 ++ (dc (nameT x.t) ++ [Value.int .i64 h])).toArray) (E := 78) rfl rfl rfl rfl rfl (fun W => bsentD y.1 (nameT x.t) h W) hSl (fun W W' hk h => ⟨trivial, hst y W W' hk h.2⟩) (fun _ _ hk h => own_kp0 h hk) (fun bn => ?_)
  have eec : ec ⟨y.1, h⟩ = txc y.1 ++ (dc (nameT x.t) ++ [Value.int .i64 h]) := by
    have := y.2
    unfold ec
    rw [this]
  refine Der.appendR (base := base) (e := 78) (i := Try.t78) (f := ty.i78) (v := .slice a2 ms2.length c2) (nn := ms2.length) (xs := flt ec ms2) (b := bn) (off := 0) (m := 1) (c := 1) (news := txc y.1 ++ (dc (nameT x.t) ++ [Value.int .i64 h])) rfl rfl rfl rfl (by exact rho_of rfl) (by exact rho_of rfl) rfl rfl rfl (fun W hk hF => Row.all hF.2.2 rfl) (by rw [← eec, ec_length]; rfl) (by rw [← eec]; exact ec_one _) (by simp only [maxLen]; omega) (by show (ms2.length + 1) * 96 ≤ _; omega) hsz (fun _ h => h) (fun W W' hk hF => ⟨⟨trivial, hst y W W' hk hF.1.2⟩, hF.2.1, hF.2.2.kp hk (fun hm => by have := hSl _ hm; have := hF.2.1; omega)⟩) (fun v5 => ?_)
  refine Der.tl (fun w5 hk5 hF ho5 => ?_)
  obtain ⟨⟨⟨-, hFy⟩, -⟩, hv5⟩ := hF
  rw [hF'] at hFy
  have ho5 : w5.ownsRow base 78 22 v5 (ms2 ++ [(⟨y.1, h⟩ : Em)]).length (flt ec (ms2 ++ [(⟨y.1, h⟩ : Em)])) := by
    rw [flt_append, flt_one, eec, List.length_append]
    exact ho5
  have hB5 := hP4.blk.kp hk5 nbp
  have hn5 : ∀ b, v5.ownBlock = some b → b ∉ [p] := own_neb ho5 (by decide) hB5
  obtain ⟨a5, c5, rfl, -, -⟩ := Sl.own ec_length ho5 rfl
  clear q1 u0
  refine cU rfl rfl rfl rfl (by first|(apply qnc<;>(exact rfl))|fail) ?_
  refine cU rfl rfl rfl rfl (by first|(apply qfa<;>(exact rfl))|fail) ?_
  refine SG.setMid [.int .i64 room] [.slice a2 ms2.length c2] [] rfl rfl (by exact rho_of rfl) (by exact rho_of rfl) hB5 rfl rfl rfl rfl rfl (fun w6 hk6 hB6 => ?_)
  repeat (first|apply cA|apply cB|apply cD|apply cE|apply cH|refine cU rfl rfl rfl rfl (by first|(apply qas<;>(exact rfl))|fail) ?_)
  refine ret1 (Or.inl rfl) Try.results20 (by first | exact ResV.tmp rfl | exact ResV.agg rfl rfl (by assumption) (by first | exact dc_length _ | exact nc_length _ | exact rc_length _ _ _ | exact ec_length _ | exact dl_length _ _ _ _ | rfl) | exact ResV.cell rfl rfl (by assumption)) ?_
  refine ⟨by rw [hz], _, ms2 ++ [(⟨y.1, h⟩ : Em)], ⟨hB6, own_kpB ho5 hk6 hn5, fun e he => ?_, hP4.bp⟩, ?_, ?_, fun g hg => ?_⟩
  · have hO6 : Oth base w5 [p] := Oth.cons hP4.bp (Oth.cells hB5 (by decide)) Oth.nil
    rcases List.mem_append.1 he with he | he
    · exact ((hP4.ins e he).kpO hk5 hO).kpO hk6 hO6
    · rw [List.mem_singleton] at he
      subst he
      exact hFy.1.kpO hk6 hO6
  · rw [List.map_append, hms]
    unfold addE
    rw [if_pos hz]
    unfold addL
    have : Em.en ⟨y.1, h⟩ = ⟨x.t, h⟩ := by
      unfold Em.en
      rw [y.2]
    simp only [List.map_cons, List.map_nil, this]
  · refine (k4.st hk5 (fun z hz => ?_)).st hk6 (fun z hz => ?_)
    · exact Or.inl (List.mem_cons_of_mem _ (ownB_of (hv2 z (ownB_mem hz))))
    · rw [List.mem_singleton] at hz
      subst hz
      exact Or.inl List.mem_cons_self
  · rcases hv5 g hg with hh | hh
    · exact Or.inl (hv2 g hh)
    · have := k4.size
      exact Or.inr (by omega)
end Go.Proofs.Ytgbgnlboogalgaa
namespace Go.Proofs.Ytgbgnlboogalgaa
set_option linter.unusedVariables false
section
variable {κ ν : Type} {enc : κ → Value} {V : ν → Value} {m : List (κ × ν)} {w w' : World} {b : Nat} {P : Program} {k T E : TypeId}
/-- What an entry that is taken promises. -/
def MEnt (P : Program) (T : TypeId) (b : Nat) (st : Int) (o' : Obj) (enc : κ → Value) (V : ν → Value) [DecidableEq κ] (m : List (κ × ν)) (x : κ) : Prop :=
  ∀ (w2 : World) (y : ν), Blk w2 b o' → ∃ o2, (Instr.entryStore T (.map (some b)) (.int .i64 st) (V y)).run P w2 = .ok () { w2 with heap := w2.heap.setIfInBounds b o2 } ∧ MapIs { w2 with heap := w2.heap.setIfInBounds b o2 } b enc V (aput m x y) ∧ Kp [b] w2 { w2 with heap := w2.heap.setIfInBounds b o2 }
theorem run_mapEntry [DecidableEq κ] [u : Ut P T (.map k E)] {i : TypeInfo} [f : Inf P E i] {z : Value} (hz : i.zero = some z) (h : MapIs w b enc V m) (K : KeyEnc P k enc) (x : κ) :
    ∃ (st : Int) (o' : Obj), (Instr.mapEntry T (.map (some b)) (enc x)).run P w = .ok (.tuple #[(alook m x).elim z V, .int .i64 st]) { w with heap := w.heap.setIfInBounds b o' } ∧ Kp [b] w { w with heap := w.heap.setIfInBounds b o' } ∧ Blk { w with heap := w.heap.setIfInBounds b o' } b o' ∧ (∃ es cl, o' = .map es cl) ∧ MEnt P T b st o' enc V m x := by
  obtain ⟨es, c, hb, hst, hm, hks⟩ := h.keys K
  obtain ⟨l, hl⟩ := K.key x
  have hb' : w.heap[b]? = some (.map es c) := hb
  rcases K.law.find w hl es.toList hks with ⟨h1, h2⟩ | ⟨j, e0, h1, h2, h3⟩
  · have hn := (find_pairs K.inj hm (x := x)).1 h2
    rw [hn]
    refine ⟨c, .map (es.push ⟨enc x, z, c⟩) (c + 1), ?_, Kp.set w hb rfl rfl, hb.set _, ⟨_, _, rfl⟩, fun w2 y hB2 => ⟨.map (es.push ⟨enc x, V y, c⟩) (c + 1), ?_, ⟨_, _, hB2.set _, MapKept.stamped_push hst h2, ?_⟩, Kp.set w2 hB2 rfl rfl⟩⟩
    · simp [Instr.mapEntry, run_underlying u.eq, MapKept.run_getObj_map hb', K.law.check w _ hl, h1, run_zero (f := f) hz, MapKept.run_setObj_map _ hb', Result.andThen, goInt]
    · have hw2 : w2.heap[b]? = some (.map (es.push ⟨enc x, z, c⟩) (c + 1)) := hB2
      have hidx : (es.push ⟨enc x, z, c⟩).findIdx? (fun e => ((e.born : Nat) : Int) == ((c : Nat) : Int)) = some es.size := by
        rw [WideElems.findIdx_arr]
        have := WideElems.findIdx_born (l := (es.push ⟨enc x, z, c⟩).toList) (j := es.size) (e0 := ⟨enc x, z, c⟩) (by
          simp only [Array.toList_push, List.map_append, List.map_cons, List.map_nil]
          refine List.nodup_append.2 ⟨((MapKept.stamped_iff es c).1 hst).2.1, by simp, fun a ha c2 hc e1 => ?_⟩
          simp only [List.mem_singleton] at hc
          obtain ⟨x2, hx, rfl⟩ := List.mem_map.1 ha
          have := ((MapKept.stamped_iff es c).1 hst).1 x2 hx
          omega) (by simp)
        exact this
      have hmod : (es.push ⟨enc x, z, c⟩).modify es.size (fun e => { e with val := V y }) = es.push ⟨enc x, V y, c⟩ := by
        apply Array.ext'
        rw [Array.toList_modify, Array.toList_push, Array.toList_push, ← Array.length_toList, WideElems.modify_last]
      simp [Instr.entryStore, MapKept.run_getObj_map hw2, asInt, asIntOf, hidx, hmod, MapKept.run_setObj_map _ hw2, Result.andThen]
    · rw [aput_new y hn]
      simp [hm]
  · obtain ⟨y0, hy, hv, _, h4⟩ := (find_pairs K.inj hm (x := x)).2 j e0 h2 h3 hst.2.2
    have hj : es[j]? = some e0 := by simpa using h2
    have hsame : es.modify j (fun e => { e with key := enc x }) = es := by
      apply Array.ext'
      rw [Array.toList_modify, ChangeMaps.modify_eq_set _ _ _ _ h2]
      have : ({ e0 with key := enc x } : MapEntry) = e0 := by rw [← h3]
      rw [this]
      exact WideElems.set_self _ _ _ h2
    rw [hy]
    refine ⟨e0.born, .map es c, ?_, Kp.set w hb rfl rfl, hb.set _, ⟨_, _, rfl⟩, fun w2 y hB2 => ⟨.map (es.modify j fun e => { e with key := enc x, val := V y }) c, ?_, ⟨_, _, hB2.set _, MapKept.stamped_modify hst _ _ (fun _ _ => rfl) (fun e' _ he' => ?_), ?_⟩, Kp.set w2 hB2 rfl rfl⟩⟩
    · simp [Instr.mapEntry, run_underlying u.eq, MapKept.run_getObj_map hb', K.law.check w _ hl, h1, hj, h3, K.law.stays w hl, hsame, hv, MapKept.run_setObj_map _ hb', Result.andThen, goInt]
    · have hw2 : w2.heap[b]? = some (.map es c) := hB2
      have hidx : es.findIdx? (fun e => ((e.born : Nat) : Int) == ((e0.born : Nat) : Int)) = some j := by
        rw [WideElems.findIdx_arr]
        exact WideElems.findIdx_born ((MapKept.stamped_iff es c).1 hst).2.1 h2
      have hmod : es.modify j (fun e => { e with val := V y }) = es.modify j (fun e' => { e' with key := enc x, val := V y }) := by
        apply Array.ext'
        rw [Array.toList_modify, Array.toList_modify, ChangeMaps.modify_eq_set _ _ _ _ h2, ChangeMaps.modify_eq_set _ _ _ _ h2, ← h3]
      simp [Instr.entryStore, MapKept.run_getObj_map hw2, asInt, asIntOf, hidx, hmod, MapKept.run_setObj_map _ hw2, Result.andThen]
    · rw [hj] at he'
      cases he'
      exact h3.symm
    · rw [Array.toList_modify, ChangeMaps.modify_eq_set _ _ _ _ h2]
      exact h4 y
variable {n : Nat} {Q : Exit → Act → World → Prop} {L : Env} {ops rest : List Oper} {ty : TypeId} {pos : String} {af : Array Edge} {g : Option (Nat × Bool)}
theorem SG.mapEntry [DecidableEq κ] {d : Nat} [u : Ut P T (.map k E)] {i : TypeInfo} [f : Inf P E i] {z : Value} {a x : Operand} {kx : κ} (hd : Nat.blt d n = true)
    (hw : want ops L ⟨some d, .mapEntry T a x, ty, pos, af, g⟩ = some true) (hk : (known L a && known L x) = true) (ha : rho L a = .map (some b)) (hx : rho L x = enc kx) (hm : MapIs w b enc V m) (K : KeyEnc P k enc) (hz : i.zero = some z)
    (h : ∀ st o' w1, Kp [b] w w1 → Blk w1 b o' → (∃ es cl, o' = .map es cl) → MEnt P T b st o' enc V m kx → SG P n ops Q rest ((d, .tuple #[(alook m kx).elim z V, .int .i64 st]) :: L) w1) : SG P n ops Q (⟨some d, .mapEntry T a x, ty, pos, af, g⟩ :: rest) L w := by
  refine SG.op (by simpa using hd) rfl hw (by simpa [Op.operands] using hk) ?_
  unfold OpRun
  obtain ⟨st, o', h1, h2, h3, h5, h4⟩ := run_mapEntry (P := P) (u := u) (f := f) hz hm K kx
  have : (execOp (rho L) ⟨some d, .mapEntry T a x, ty, pos, af, g⟩).run P w = .ok (.value (.tuple #[(alook m kx).elim z V, .int .i64 st])) { w with heap := w.heap.setIfInBounds b o' } := by
    simp only [execOp, ha, hx, Sem.run_bind, h1, Result.andThen, Sem.run_pure]
  rw [this]
  exact h st o' _ h2 h3 h5 h4
theorem SG.entryStore [DecidableEq κ] {a s x : Operand} {kx : κ} {vy : ν} {st : Int} {o' : Obj}
    (hw : want ops L ⟨none, .entryStore T a s x, ty, pos, af, g⟩ = some true) (hk : (known L a && (known L s && known L x)) = true) (ha : rho L a = .map (some b)) (hs : rho L s = .int .i64 st) (hx : rho L x = V vy) (he : MEnt P T b st o' enc V m kx) (hB : Blk w b o')
    (h : ∀ w', Kp [b] w w' → MapIs w' b enc V (aput m kx vy) → SG P n ops Q rest L w') : SG P n ops Q (⟨none, .entryStore T a s x, ty, pos, af, g⟩ :: rest) L w := by
  refine SG.op rfl rfl hw (by simpa [Op.operands] using hk) ?_
  unfold OpRun
  obtain ⟨o2, h1, h2, h3⟩ := he w vy hB
  have : (execOp (rho L) ⟨none, .entryStore T a s x, ty, pos, af, g⟩).run P w = .ok .skip { w with heap := w.heap.setIfInBounds b o2 } := by
    simp only [execOp, ha, hs, hx, Sem.run_bind, h1, Result.andThen, Sem.run_pure]
  rw [this]
  exact h _ h3 h2
end
end Go.Proofs.Ytgbgnlboogalgaa
namespace Go.Proofs.Ytgbgnlboogalgaa
open Go.Proofs Go.Shelf
set_option linter.unusedVariables false
def sortRen : Go.Shelf.Ren := ⟨fun | 6 => 86 | 15 => 97 | 14 => 96 | 28 => 107 | 29 => 108 | 20 => 99 | 21 => 100 | 22 => 101 | 23 => 102 | 24 => 103 | 25 => 104 | 26 => 105 | 27 => 106 | 46 => 110 | 47 => 111 | 48 => 112 | 49 => 113 | 50 => 114 | 57 => 115 | n => n, fun | 22 => 105 | 24 => 3 | 25 => 138 | 3 => 3 | 39 => 146 | 0 => 0 | 53 => 161 | 55 => 40 | 4 => 4 | 46 => 155 | 45 => 154 | 50 => 55 | 5 => 5 | 9 => 9 | 66 => 164 | 70 => 168 | 76 => 170 | 77 => 171 | n => n, fun n => n⟩
theorem sortL : SlLaysF0.n6 Try.prog sortRen where
  mixed := by kernel_rfl
  f6 := ⟨"slices.SortFunc[[]int,int]", by decide, Try.func86.trans (congrArg some (by kernel_rfl))⟩
  f14 := ⟨"slices.pdqsortCmpFunc[int]", by decide, Try.func96.trans (congrArg some (by kernel_rfl))⟩
  f15 := Try.func97.trans (congrArg some (by kernel_rfl))
  f20 := ⟨"slices.insertionSortCmpFunc[int]", by decide, Try.func99.trans (congrArg some (by kernel_rfl))⟩
  f21 := ⟨"slices.heapSortCmpFunc[int]", by decide, Try.func100.trans (congrArg some (by kernel_rfl))⟩
  f22 := ⟨"slices.breakPatternsCmpFunc[int]", by decide, Try.func101.trans (congrArg some (by kernel_rfl))⟩
  f23 := ⟨"slices.choosePivotCmpFunc[int]", by decide, Try.func102.trans (congrArg some (by kernel_rfl))⟩
  f24 := ⟨"slices.reverseRangeCmpFunc[int]", by decide, Try.func103.trans (congrArg some (by kernel_rfl))⟩
  f25 := ⟨"slices.partialInsertionSortCmpFunc[int]", by decide, Try.func104.trans (congrArg some (by kernel_rfl))⟩
  f26 := ⟨"slices.partitionEqualCmpFunc[int]", by decide, Try.func105.trans (congrArg some (by kernel_rfl))⟩
  f27 := ⟨"slices.partitionCmpFunc[int]", by decide, Try.func106.trans (congrArg some (by kernel_rfl))⟩
  f28 := Try.func107.trans (congrArg some (by kernel_rfl))
  f29 := Try.func108.trans (congrArg some (by kernel_rfl))
  f46 := ⟨"slices.siftDownCmpFunc[int]", by decide, Try.func110.trans (congrArg some (by kernel_rfl))⟩
  f47 := Try.func111.trans (congrArg some (by kernel_rfl))
  f48 := Try.func112.trans (congrArg some (by kernel_rfl))
  f49 := ⟨"slices.medianAdjacentCmpFunc[int]", by decide, Try.func113.trans (congrArg some (by kernel_rfl))⟩
  f50 := ⟨"slices.medianCmpFunc[int]", by decide, Try.func114.trans (congrArg some (by kernel_rfl))⟩
  f57 := ⟨"slices.order2CmpFunc[int]", by decide, Try.func115.trans (congrArg some (by kernel_rfl))⟩
  t0 := Try.underlying0
  a0 := Try.isAgg0
  z0 := Try.sizeOf0
  v0 := Try.zeroValue0
  t3 := Try.underlying3
  a3 := Try.isAgg3
  z3 := Try.sizeOf3
  v3 := Try.zeroValue3
  t4 := Try.underlying4
  a4 := Try.isAgg4
  z4 := Try.sizeOf4
  v4 := Try.zeroValue4
  t5 := Try.underlying5
  a5 := Try.isAgg5
  z5 := Try.sizeOf5
  v5 := Try.zeroValue5
  t9 := Try.underlying9
  a9 := Try.isAgg9
  z9 := Try.sizeOf9
  v9 := Try.zeroValue9
  t22 := Try.underlying105
  a22 := Try.isAgg105
  z22 := Try.sizeOf105
  v22 := Try.zeroValue105
  t25 := Try.underlying138
  a25 := Try.isAgg138
  z25 := Try.sizeOf138
  v25 := Try.zeroValue138
  t39 := Try.underlying146
  a39 := Try.isAgg146
  z39 := Try.sizeOf146
  v39 := Try.zeroValue146
  t45 := Try.underlying154
  a45 := Try.isAgg154
  z45 := Try.sizeOf154
  v45 := Try.zeroValue154
  t46 := Try.underlying155
  a46 := Try.isAgg155
  z46 := Try.sizeOf155
  v46 := Try.zeroValue155
  t50 := Try.underlying55
  a50 := Try.isAgg55
  z50 := Try.sizeOf55
  v50 := Try.zeroValue55
  t53 := Try.underlying161
  a53 := Try.isAgg161
  z53 := Try.sizeOf161
  v53 := Try.zeroValue161
  t55 := Try.underlying40
  a55 := Try.isAgg40
  z55 := Try.sizeOf40
  v55 := Try.zeroValue40
  t66 := Try.underlying164
  a66 := Try.isAgg164
  z66 := Try.sizeOf164
  v66 := Try.zeroValue164
  t70 := Try.underlying168
  a70 := Try.isAgg168
  z70 := Try.sizeOf168
  v70 := Try.zeroValue168
  t76 := Try.underlying170
  a76 := Try.isAgg170
  z76 := Try.sizeOf170
  v76 := Try.zeroValue170
  t77 := Try.underlying171
  a77 := Try.isAgg171
  z77 := Try.sizeOf171
  v77 := Try.zeroValue171
end Go.Proofs.Ytgbgnlboogalgaa
namespace Go.Proofs.Ytgbgnlboogalgaa
open Go.Proofs Go.Shelf Go.Sort
set_option linter.unusedVariables false
theorem Kp.grown {w w' : World} (h : Kp [] w w') : ∃ q os', w' = grow (w.drewN q) os' := by
  refine ⟨w'.drawn - w.drawn, w'.heap.extract w.heap.size w'.heap.size, ?_⟩
  obtain ⟨h1, h2, h3, h4, h5, h6, h7⟩ := h
  obtain ⟨hp, tp, dr, os, out⟩ := w
  obtain ⟨hp', tp', dr', os', out'⟩ := w'
  simp only at h1 h2 h3 h4 h5 h7
  subst h3
  subst h4
  subst h5
  have e1 : hp' = hp ++ hp'.extract hp.size hp'.size := by
    apply Array.ext_getElem?
    intro i
    rw [Array.getElem?_append]
    by_cases hi : i < hp.size
    · rw [if_pos hi]
      exact h2 i hi (by simp)
    · rw [if_neg hi, Array.getElem?_extract]
      by_cases hi2 : i < hp'.size
      · rw [if_pos (by omega), show hp.size + (i - hp.size) = i by omega]
      · rw [if_neg (by omega), Array.getElem?_eq_none (by omega)]
  have e2 : dr' = dr + (dr' - dr) := by omega
  simp only [grow, World.drewN, World.mk.injEq, true_and, and_true]
  exact ⟨e1, e2⟩
theorem Kp.grow (w : World) (os : Array Obj) : Kp [] w (grow w os) := by
  refine ⟨by simp, fun b hb _ => ?_, rfl, rfl, rfl, fun a ha => ?_, Nat.le_refl _⟩
  · show (w.heap ++ os)[b]? = _
    rw [Array.getElem?_append, if_pos hb]
  · refine frozen_same ?_
    show (w.heap ++ os)[a.block]? = _
    rw [Array.getElem?_append, if_pos ha]
theorem Kp.ahead (w : World) (n : Nat) : Kp [] w (Go.Sort.ahead w n) := ⟨Nat.le_refl _, fun _ _ _ => rfl, rfl, rfl, rfl, fun _ _ => rfl, Nat.le_add_right _ _⟩
theorem mapBlock_set {w : World} {g : Nat} {cs : Array Value} {T : TypeId} {fz : Nat × Nat} (h : Blk w g (.cells cs T fz)) (f : Array Value → Array Value) : mapBlock w g f = { w with heap := w.heap.setIfInBounds g (.cells (f cs) T fz) } := by
  unfold mapBlock
  congr 1
  apply Array.ext_getElem?
  intro i
  rw [Array.getElem?_modify, Array.getElem?_setIfInBounds]
  by_cases e : g = i
  · subst e
    rw [if_pos rfl, if_pos rfl, if_pos h.lt]
    have h' : w.heap[g]? = some (.cells cs T fz) := h
    rw [h']
    rfl
  · rw [if_neg e, if_neg e]
section
variable {α : Type} [Inhabited α] {enc : α → List Value} {k : Nat}
end
end Go.Proofs.Ytgbgnlboogalgaa
namespace Go.Proofs.Ytgbgnlboogalgaa
open Go.Proofs Go.Shelf Go.Sort
set_option linter.unusedVariables false
section
variable {α : Type} [Inhabited α] {enc : α → List Value} {k : Nat}
end
end Go.Proofs.Ytgbgnlboogalgaa
namespace Go.Proofs.Ytgbgnlboogalgaa
open Go.Proofs Go.Shelf Go.Sort
set_option linter.unusedVariables false
theorem flt_map1 {α : Type} (e : α → Value) : ∀ l : List α, flt (fun x => [e x]) l = l.map e
  | [] => rfl
  | x :: l => by
    have := flt_map1 e l
    simp only [flt, List.flatMap_cons, List.map_cons] at *
    rw [this]
    rfl
section
variable {α : Type} [Inhabited α] {e : α → Value}
theorem sort_own1 {P : Program} {ρ : Ren} (L : SlLaysF.n6 P ρ) (hone : ∀ x, oneB (e x) = true)
    (cf : α → α → Int) (hO : SWO (ltOf cf)) (g : Nat) (eg : ∀ args w, (callFunc g args).run P w = .ok (.enter g args) w)
    (cb : List Value) {w : World} {base : Nat} {T : TypeId} {v : Value} {l : List α} (ho : w.ownsRow base T 1 v l.length (flt (fun x => [e x]) l)) (hsz : l.length < 4611686018427387904)
    (hcmp : ∀ x y W, Kp (ownB v) w W → Calls P g (#[e x, e y] ++ cb.toArray) W (fun e' w' => e' = .returned (.int .i64 (cf x y)) ∧ Kp [] W w')) :
    Calls P (ρ.f 6) #[v, fnv g cb] w (fun e' w' => e' = .returned (.tuple #[]) ∧ Kp (ownB v) w w' ∧ ∃ l', l'.Perm l ∧ l'.Pairwise (fun x y => ltOf cf y x = false) ∧ w'.ownsRow base T 1 v l.length (flt (fun x => [e x]) l')) := by
  have h1 : OneCell e := fun x => by rw [one_iff]; exact hone x
  have ho' := ho
  obtain ⟨hlen, ⟨rfl, h0⟩ | ⟨b, cap, cur, rfl, hb, hh, hc1, hc2, hc3, hc4⟩⟩ := ho
  · have hl : l = [] := by cases l with
      | nil => rfl
      | cons x l => simp at h0
    subst hl
    exact (AnyF.slices_SortFunc_none (P := P) (ρ := ρ) { L with } none 0 _ w).mono (fun e w' ⟨he, hw⟩ => ⟨he, by rw [hw]; exact Kp.refl _ _, [], List.Perm.refl _, List.Pairwise.nil, by rw [hw]; exact ho'⟩)
  have hB : Blk w b (.cells cur T (0, 0)) := hh
  rw [flt_map1] at hc4
  rw [Nat.mul_one] at hc3 hc4
  have hcur : ∀ t (ht : t < l.length), cur[t]? = some (e l[t]) := fun t ht => by
    have := congrArg (fun x => x[t]?) hc4
    simp only [List.getElem?_map, List.getElem?_eq_getElem ht, Option.map_some] at this
    rw [← this, List.getElem?_take_of_lt ht, Array.getElem?_toList]
  have hH : Holds e w b 0 l.toArray := fun j hj => by
    have hj' : j < l.length := by simpa using hj
    refine ⟨?_, frozen_soft (o := .cells cur T (0, 0)) hh rfl⟩
    unfold World.cell?
    simp only [hh, Nat.zero_add]
    rw [getElem!_pos l.toArray j hj]
    simpa using hcur j hj'
  have hkw : ∀ (m : Nat) (os : Array Obj) (dk : Array α), Kp [b] w (sortWorld e w b 0 m dk os) := fun m os dk => by
    have hBa : Blk (Go.Sort.ahead w m) b (.cells cur T (0, 0)) := hh
    have hset : putRow e (Go.Sort.ahead w m) b 0 dk = { Go.Sort.ahead w m with heap := (Go.Sort.ahead w m).heap.setIfInBounds b (.cells (putCells e 0 dk cur) T (0, 0)) } := mapBlock_set hBa _
    have hk1 : Kp [b] (Go.Sort.ahead w m) (putRow e (Go.Sort.ahead w m) b 0 dk) := by
      rw [hset]
      exact Kp.set _ hBa rfl rfl
    exact ((Kp.ahead w m).any.trans hk1).trans (Kp.grow _ _).any
  have hcl : CmpLays1 P g cb.toArray e cf b 0 l.toArray.size w := fun m os dk hdk x y => (hcmp x y _ (hkw m os dk)).mono (fun e w' ⟨he, hw⟩ => ⟨he, hw.grown⟩)
  have hc := Any.slices_SortFunc L e h1 cf hO g cb.toArray b 0 cap l.toArray w eg hcl hH hB.lt (by simpa using hsz)
  refine (show Calls P (ρ.f 6) #[.slice (some ⟨b, 0, none⟩) l.length cap, fnv g cb] w _ from hc).mono (fun e2 w' hh' => ?_)
  obtain ⟨he, d', n, os, ⟨hp1, hp2, hp3⟩, hs, rfl⟩ := hh'
  have hd' : d'.size = l.length := by simpa using hp1
  have hperm : d'.toList.Perm l := by
    have e1 : (d'.extract 0 l.toArray.size).toList = d'.toList := by
      have : l.toArray.size = d'.size := hp1.symm
      rw [this]
      simp
    have e2 : (l.toArray.extract 0 l.toArray.size).toList = l := by simp
    rw [e1, e2] at hp3
    exact hp3
  have hBa : Blk (Go.Sort.ahead w n) b (.cells cur T (0, 0)) := hh
  have hset : putRow e (Go.Sort.ahead w n) b 0 d' = { Go.Sort.ahead w n with heap := (Go.Sort.ahead w n).heap.setIfInBounds b (.cells (putCells e 0 d' cur) T (0, 0)) } := mapBlock_set hBa _
  have hk1 : Kp [b] (Go.Sort.ahead w n) (putRow e (Go.Sort.ahead w n) b 0 d') := by
    rw [hset]
    exact Kp.set _ hBa rfl rfl
  refine ⟨he, ?_, d'.toList, hperm, ?_, ?_⟩
  · show Kp [b] w _
    exact ((Kp.ahead w n).any.trans hk1).trans (Kp.grow _ _).any
  · rw [List.pairwise_iff_getElem]
    intro i j hi hj hij
    have := hs i j (Nat.zero_le _) hij (by simp at hj ⊢; omega)
    rw [getElem!_pos d' i (by simpa using hi), getElem!_pos d' j (by simpa using hj)] at this
    simpa using this
  · have hlist : d'.toList.length = l.length := by simpa using hd'
    refine ⟨by rw [flt_length (sz := 1) (fun _ => rfl), hlist], Or.inr ⟨b, cap, putCells e 0 d' cur, rfl, hb, ?_, hc1, hc2, by simp [putCells, hc3], ?_⟩⟩
    · have : Blk (putRow e (Go.Sort.ahead w n) b 0 d') b (.cells (putCells e 0 d' cur) T (0, 0)) := by
        rw [hset]
        show ((Go.Sort.ahead w n).heap.setIfInBounds b _)[b]? = _
        rw [Array.getElem?_setIfInBounds, if_pos rfl, if_pos hBa.lt]
      exact this.kp0 (Kp.grow _ _)
    · rw [flt_map1, Nat.mul_one]
      apply List.ext_getElem?
      intro t
      by_cases ht : t < l.length
      · have htc : t < cur.size := by omega
        have htd : t < d'.size := by omega
        rw [List.getElem?_take_of_lt ht, Array.getElem?_toList, List.getElem?_map, Array.getElem?_toList]
        simp only [putCells, Array.getElem?_mapIdx, Array.getElem?_eq_getElem htc, Option.map_some, Nat.zero_le, true_and, Nat.zero_add, Nat.sub_zero]
        rw [if_pos htd, getElem!_pos d' t htd, Array.getElem?_eq_getElem htd]
        rfl
      · rw [List.getElem?_eq_none (by simp; omega), List.getElem?_eq_none (by simp [hd']; omega)]
end
end Go.Proofs.Ytgbgnlboogalgaa
namespace Go.Proofs.Ytgbgnlboogalgaa
open Go.Proofs Go.Shelf Go.Sort
set_option linter.unusedVariables false
/-- An order by a number. -/
theorem swo_key {α : Type} (cf : α → α → Int) (key : α → Nat) (h : ∀ x y, cf x y < 0 ↔ key x < key y) : SWO (ltOf cf) where
  irrefl x := decide_eq_false (by rw [h]; omega)
  trans x y z h1 h2 := by
    have h1 := of_decide_eq_true h1
    have h2 := of_decide_eq_true h2
    rw [h] at h1 h2
    exact decide_eq_true (by rw [h]; omega)
  ntrans x y z h1 h2 := by
    have h1 := of_decide_eq_false h1
    have h2 := of_decide_eq_false h2
    rw [h] at h1 h2
    exact decide_eq_false (by rw [h]; omega)
/-- Put where it belongs, behind its likes; all put so. -/
def insK {α : Type} (key : α → Nat) (x : α) : List α → List α
  | [] => [x]
  | y :: r => if key y ≤ key x then y :: insK key x r else x :: y :: r
def sortK {α : Type} (key : α → Nat) (l : List α) : List α := l.foldl (fun acc x => insK key x acc) []
end Go.Proofs.Ytgbgnlboogalgaa
namespace Go.Proofs.Ytgbgnlboogalgaa
open Go.Proofs Go.Shelf Go.Sort
set_option linter.unusedVariables false
abbrev nI (j : Nat) : List Value := [.int .i64 (j : Int)]
theorem nI_len (j : Nat) : (nI j).length = 1 := rfl
theorem nI_one (j : Nat) : allOne (nI j) = true := rfl
def pK (ms : List Em) (j : Nat) : Dg := (ms[j]?).elim zd (fun e => e.x.t.frm)
def pN (ms : List Em) (j : Nat) : Int := (ms[j]?).elim 0 (fun e => e.x.t.non)
def pF (ms : List Em) (j : Nat) : Int := (ms[j]?).elim 0 (fun e => e.x.t.fee)
section
variable {ms : List Em} {j : Nat}
theorem pK_at (h : j < ms.length) : pK ms j = ms[j].x.t.frm := by unfold pK; rw [List.getElem?_eq_getElem h]; rfl
theorem pN_at (h : j < ms.length) : pN ms j = ms[j].x.t.non := by unfold pN; rw [List.getElem?_eq_getElem h]; rfl
theorem pF_at (h : j < ms.length) : pF ms j = ms[j].x.t.fee := by unfold pF; rw [List.getElem?_eq_getElem h]; rfl
end
def cN (K : Nat → Dg) (i : Nat) (k : Dg) : List Nat := (List.range i).filter (fun j => decide (K j = k))
theorem cN_succ (K : Nat → Dg) (i : Nat) (k : Dg) : cN K (i + 1) k = if K i = k then cN K i k ++ [i] else cN K i k := by
  unfold cN
  rw [List.range_succ, List.filter_append]
  by_cases h : K i = k
  · rw [if_pos h, List.filter_cons_of_pos (by simpa using h)]
    rfl
  · rw [if_neg h, List.filter_cons_of_neg (by simpa using h)]
    simp
theorem cN_mem {K : Nat → Dg} {i j : Nat} {k : Dg} : j ∈ cN K i k ↔ j < i ∧ K j = k := by simp [cN]
theorem cN_len (K : Nat → Dg) (i : Nat) (k : Dg) : (cN K i k).length ≤ i := by
  have := List.length_filter_le (fun j => decide (K j = k)) (List.range i)
  rw [List.length_range] at this
  exact this
theorem cN_nodup (K : Nat → Dg) (i : Nat) (k : Dg) : (cN K i k).Nodup := List.nodup_range.sublist List.filter_sublist
/-- Rows of places, by key. -/
structure Kr (w : World) (base : Nat) (m : List (Dg × Value)) (C : Dg → List Nat) : Prop where
  rows : ∀ k v, alook m k = some v → w.ownsRow base 3 1 v (C k).length (flt nI (C k))
  sep : ∀ k k' v v', alook m k = some v → alook m k' = some v' → k ≠ k' → ∀ b, v.ownBlock = some b → v'.ownBlock ≠ some b
theorem Kr.kp {w w' : World} {base : Nat} {m : List (Dg × Value)} {C : Dg → List Nat} {S : List Nat} (h : Kr w base m C) (hk : Kp S w w') (hS : ∀ b ∈ S, (∀ T cs f, T = 3 → w.heap[b]? ≠ some (.cells cs T f)) ∨ b < base) : Kr w' base m C :=
  ⟨fun k v hv => own_kpB (h.rows k v hv) hk (fun b hb hm => by
    have ho := h.rows k v hv
    rcases hS b hm with hh | hh
    · rcases ho.2 with ⟨rfl, _⟩ | ⟨g, cap, cur, rfl, _, hg, _⟩
      · cases hb
      · cases hb
        exact hh _ _ _ rfl hg
    · have := own_geB ho b hb
      omega), h.sep⟩
theorem Kr.kp0 {w w' : World} {base : Nat} {m : List (Dg × Value)} {C : Dg → List Nat} (h : Kr w base m C) (hk : Kp [] w w') : Kr w' base m C := h.kp hk (fun b hb => (by cases hb))
theorem own_obj {w : World} {base n sz : Nat} {v : Value} {T : TypeId} {xs : List Value} {z : Nat} {o : Obj} (ho : w.ownsRow base T sz v n xs) (hB : Blk w z o) (hne : ∀ cs T f, o ≠ .cells cs T f) : z ∉ ownB v := fun hm => by
  have hb' := ownB_mem hm
  rcases ho.2 with ⟨rfl, _⟩ | ⟨g, cap, cur, rfl, _, hg, _⟩
  · cases hb'
  · cases hb'
    exact hne _ _ _ (hB.uniq hg)
theorem MapIs.nown {κ ν : Type} {enc : κ → Value} {V : ν → Value} {m : List (κ × ν)} {w : World} {base n sz b : Nat} {v : Value} {T : TypeId} {xs : List Value} (h : MapIs w b enc V m) (ho : w.ownsRow base T sz v n xs) : b ∉ ownB v := by
  obtain ⟨es, c, hB, _⟩ := h
  exact own_obj ho hB (fun _ _ _ e => by cases e)
theorem IterAt.nown {κ ν : Type} {enc : κ → Value} {V : ν → Value} {m left : List (κ × ν)} {cur : Option (κ × ν)} {w : World} {base n sz b r : Nat} {v : Value} {T : TypeId} {xs : List Value} (h : IterAt w r b enc V m left cur) (ho : w.ownsRow base T sz v n xs) : r ∉ ownB v := by
  obtain ⟨es, c, seen, h1, h2, h3, h4, _⟩ := h
  exact own_obj ho h4 (fun _ _ _ e => by cases e)
theorem MapIs.nint {κ ν : Type} {enc : κ → Value} {V : ν → Value} {m : List (κ × ν)} {w : World} {b : Nat} (h : MapIs w b enc V m) : ∀ T cs f, T = 3 → w.heap[b]? ≠ some (.cells cs T f) := by
  obtain ⟨es, c, hB, _⟩ := h
  intro T cs f _ e
  have := hB.uniq e
  cases this
theorem MapIs.noth {κ ν : Type} {enc : κ → Value} {V : ν → Value} {m : List (κ × ν)} {w : World} {b : Nat} {n : Nat} (h : MapIs w b enc V m) (hn : n ≤ b) : Oth n w [b] := fun z hz => by
  rw [List.mem_singleton] at hz
  subst hz
  refine ⟨hn, ?_⟩
  obtain ⟨es, c, hB, _⟩ := h
  intro cs f e
  have := hB.uniq e
  cases this
theorem Blk.nint {w : World} {b : Nat} {es : Array MapEntry} {cl : Nat} (hB : Blk w b (.map es cl)) : ∀ T cs f, T = 3 → w.heap[b]? ≠ some (.cells cs T f) := fun T cs f _ e => by
  have := hB.uniq e
  cases this
theorem Kr.mono {w : World} {base base' : Nat} {m : List (Dg × Value)} {C : Dg → List Nat} (h : Kr w base m C) (hb : base' ≤ base) : Kr w base' m C := ⟨fun k v hv => own_mono (h.rows k v hv) hb, h.sep⟩
theorem IterAt.nint {κ ν : Type} {enc : κ → Value} {V : ν → Value} {m left : List (κ × ν)} {cur : Option (κ × ν)} {w : World} {b r : Nat} (h : IterAt w r b enc V m left cur) : ∀ T cs f, T = 3 → w.heap[r]? ≠ some (.cells cs T f) := by
  obtain ⟨es, c, seen, h1, h2, h3, h4, _⟩ := h
  intro T cs f _ e
  have := h4.uniq e
  cases this
theorem sortL1 : SlLaysF.n6 Try.prog sortRen := { sortL with a24 := Try.isAgg3, z24 := Try.sizeOf3 }
theorem bsi (n : Int) (w : World) : (Instr.buildSlice 105 1 #[(0, .int .i64 n)]).run Try.prog w = .ok (.slice (some ⟨w.heap.size, 0, none⟩) 1 1) { w with heap := w.heap.push (.cells #[.int .i64 n] 3) } := by kernel_rfl
/-- What is so of numbers and fees. -/
structure Nb (ms : List Em) : Prop where
  n0 : ∀ j, 0 ≤ pN ms j
  n1 : ∀ j, pN ms j ≤ 1099511627776
  f0 : ∀ j, 0 ≤ pF ms j
  f1 : ∀ j, pF ms j ≤ 1125899906842624
theorem wrong_r {t : Tx} (h : wrongT t = 0) : TxR t := by
  unfold wrongT at h
  by_cases hr : TxR t
  · exact hr
  · rw [if_neg hr] at h
    cases h
theorem PInv.nb {room : Int} {ms : List Em} (h : PInv room (ms.map Em.en)) : Nb ms := by
  have key : ∀ j (hj : j < ms.length), TxR ms[j].x.t := fun j hj => wrong_r (h.ok _ (List.mem_map.2 ⟨ms[j], List.getElem_mem hj, rfl⟩))
  have kn : ∀ j, 0 ≤ pN ms j ∧ pN ms j ≤ 1099511627776 ∧ 0 ≤ pF ms j ∧ pF ms j ≤ 1125899906842624 := fun j => by
    by_cases hj : j < ms.length
    · have := key j hj
      rw [pN_at hj, pF_at hj]
      exact ⟨this.n0, this.n1, this.f0, this.f1⟩
    · unfold pN pF
      rw [List.getElem?_eq_none (by omega)]
      simp only [Option.elim]
      omega
  exact ⟨fun j => (kn j).1, fun j => (kn j).2.1, fun j => (kn j).2.2.1, fun j => (kn j).2.2.2⟩
attribute [local irreducible] CG NG SG Vals Der Row Blk MapIs IterAt nameT wrongT
set_option maxHeartbeats 16000000 in
theorem bynum_spec {w : World} {base p b1 : Nat} {v : Value} {room : Int} {ms : List Em} (hP : Pl w base p v room ms) (h1 : Row w b1 0 [.pointer (some ⟨p, 0, none⟩)]) (hb : Nb ms) {x y : Nat} (hx : x < ms.length) (hy : y < ms.length) :
    Ret Try.prog 87 #[.int .i64 (x : Int), .int .i64 (y : Int), .pointer (some ⟨b1, 0, none⟩)] w (.int .i64 (pN ms x - pN ms y)) := by
  refine enterL (args := [.int .i64 (x : Int), .int .i64 (y : Int), .pointer (some ⟨b1, 0, none⟩)]) Try.func87 rfl Try.ntmps87 rfl ?_
  obtain ⟨a, c, rfl, hc, hS⟩ := hP.sl
  obtain ⟨-, q1⟩ := hP.rows
  obtain ⟨g, o1, rfl, hrx⟩ := hS.at hx
  have hry : Row w g (o1 + y * 22) (ec ms[y]) := hS.row (List.getElem?_eq_getElem hy)
  obtain ⟨-, -, rx, -⟩ := ec_rows hrx
  obtain ⟨-, -, ry, -⟩ := ec_rows hry
  have e1 := pN_at hx
  have e2 := pN_at hy
  have b1' := hb.n0 x
  have b2' := hb.n1 x
  have b3' := hb.n0 y
  have b4' := hb.n1 y
  rw [e1] at b1' b2' ⊢
  rw [e2] at b3' b4' ⊢
  repeat (first|apply cA|apply cB|apply cD|apply cE|refine cU rfl rfl rfl rfl (by first|(apply qas<;>(exact rfl))|fail) ?_)
  refine CG.tail mixed 18 [0, 1, 2, 3, 4, 5, 6, 7, 8, 9, 10, 11, 12, 13, 14, 15, 16, 17] (by kernel_rfl) ?_
  repeat (refine Der.val rfl rfl rfl (by first|((first|apply qmv|apply qlc|apply qfa|apply qnc|apply qix)<;>(first|exact rfl|exact Ar.mk (by omega)|assumption|exact List.not_mem_nil|fail))|fail) ?_)
  refine Der.tl (fun w1 hk1 _ _ => ?_)
  repeat (first|apply cD|apply cE|apply cH|refine cU rfl rfl rfl rfl (by first|((first|apply qas|apply qsb)<;>(first|exact rfl|exact Ar.mk (by omega)|fail))|fail) ?_)
  refine ret1 (Or.inl rfl) Try.results87 (by first | exact ResV.tmp rfl | exact ResV.agg rfl rfl (by assumption) (by first | exact dc_length _ | exact nc_length _ | exact rc_length _ _ _ | exact ec_length _ | exact dl_length _ _ _ _ | rfl) | exact ResV.cell rfl rfl (by assumption)) ?_
  exact ⟨rfl, hk1⟩
theorem sorti_spec {w : World} {base bp p b1 : Nat} {v vp : Value} {room : Int} {ms : List Em} {l : List Nat} (hP : Pl w bp p vp room ms) (h1 : Row w b1 0 [.pointer (some ⟨p, 0, none⟩)]) (hb : Nb ms) (ho : w.ownsRow base 3 1 v l.length (flt nI l)) (hlt : ∀ j ∈ l, j < ms.length) (hn : 0 < ms.length) (hl : l.length ≤ 1000000)
    (hbb : bp ≤ base) (hb1 : b1 ∉ ownB v) (hbp : p ∉ ownB v) (hbv : ∀ b, vp.ownBlock = some b → b ∉ ownB v) :
    Calls Try.prog 86 #[v, fnv 87 [.pointer (some ⟨b1, 0, none⟩)]] w (fun e w' => e = .returned (.tuple #[]) ∧ Kp (ownB v) w w' ∧ ∃ l', l'.Perm l ∧ l'.Pairwise (fun x y => pN ms x ≤ pN ms y) ∧ w'.ownsRow base 3 1 v l'.length (flt nI l')) := by
  haveI : Inhabited (_root_.Fin ms.length) := ⟨⟨0, hn⟩⟩
  obtain ⟨L, hL⟩ : ∃ L : List (_root_.Fin ms.length), L.map (fun x => x.1) = l := ⟨l.pmap (fun j h => (⟨j, h⟩ : _root_.Fin ms.length)) hlt, by rw [List.map_pmap]; simp⟩
  have efl : ∀ M : List (_root_.Fin ms.length), flt (fun x : _root_.Fin ms.length => [Value.int .i64 (x.1 : Int)]) M = flt nI (M.map (fun x => x.1)) := fun M => by
    rw [flt_map1 (fun x : _root_.Fin ms.length => Value.int .i64 (x.1 : Int)), show flt nI = flt (fun j : Nat => [Value.int .i64 (j : Int)]) from rfl, flt_map1 (fun j : Nat => Value.int .i64 (j : Int)), List.map_map]
    rfl
  have hLl : L.length = l.length := by rw [← hL, List.length_map]
  have ho' : w.ownsRow base 3 1 v L.length (flt (fun x : _root_.Fin ms.length => [Value.int .i64 (x.1 : Int)]) L) := by
    rw [efl, hL, hLl]
    exact ho
  refine (sort_own1 sortL1 (fun _ => rfl) (fun x y : _root_.Fin ms.length => pN ms x.1 - pN ms y.1) (swo_key _ (fun x => (pN ms x.1).toNat) (fun x y => by have := hb.n0 x.1; have := hb.n0 y.1; omega)) 87 (fun args w => fn.i87.run w args) [.pointer (some ⟨b1, 0, none⟩)] ho' (by omega) (fun x y W hk => ?_)).mono (fun e w' hh => ?_)
  · refine bynum_spec (base := bp) (v := vp) (room := room) (hP.kp hk hbp hbv (Oth.own ho hbb (by decide))) (h1.kp hk hb1) hb x.2 y.2
  · obtain ⟨he, hk, l', hp, hs, ho2⟩ := hh
    refine ⟨he, hk, l'.map (fun x => x.1), ?_, ?_, ?_⟩
    · rw [← hL]
      exact hp.map _
    · rw [List.pairwise_map]
      refine hs.imp (fun {x y} h => ?_)
      have h3 : ¬ (pN ms y.1 - pN ms x.1 < 0) := of_decide_eq_false h
      omega
    · rw [← efl, List.length_map, hp.length_eq]
      exact ho2
end Go.Proofs.Ytgbgnlboogalgaa
namespace Go.Proofs.Ytgbgnlboogalgaa
open Go.Proofs Go.Shelf Go.Sort
set_option linter.unusedVariables false
theorem aput_keys {m : List (Dg × Value)} {k : Dg} {v : Value} {z : Dg} {u : Value} (h : alook (aput m k v) z = some u) : (z = k ∧ u = v) ∨ (z ≠ k ∧ alook m z = some u) := by
  rw [alook_put] at h
  by_cases e : k = z
  · rw [if_pos e] at h
    cases h
    exact Or.inl ⟨e.symm, rfl⟩
  · rw [if_neg e] at h
    exact Or.inr ⟨fun h' => e h'.symm, h⟩
theorem alook_mem : ∀ {m : List (Dg × Value)} {k : Dg} {v : Value}, alook m k = some v → (k, v) ∈ m
  | [], _, _, h => by cases h
  | (k', v') :: m, k, v, h => by
    unfold alook at h
    by_cases e : k' = k
    · rw [if_pos e] at h
      cases h
      subst e
      exact List.mem_cons_self
    · rw [if_neg e] at h
      exact List.mem_cons_of_mem _ (alook_mem h)
/-- One more place in its key's row. -/
theorem Kr.add {w w' : World} {base i : Nat} {m : List (Dg × Value)} {K : Nat → Dg} {v0 v' : Value} (h : Kr w base m (cN K i)) (hv0 : alook m (K i) = some v0 ∨ (alook m (K i) = none ∧ v0 = .slice none 0 0)) (hk : Kp (ownB v0) w w') (ho : w'.ownsRow base 3 1 v' (cN K i (K i) ++ [i]).length (flt nI (cN K i (K i) ++ [i])))
    (hv' : ∀ g, v'.ownBlock = some g → v0.ownBlock = some g ∨ g = w.heap.size) : Kr w' base (aput m (K i) v') (cN K (i + 1)) := by
  have hsz : ∀ k v, alook m k = some v → ∀ b, v.ownBlock = some b → b < w.heap.size := fun k v hv => own_lt (h.rows k v hv)
  have hap : ∀ k v, k ≠ K i → alook m k = some v → ∀ b, v.ownBlock = some b → b ∉ ownB v0 := fun k v hne hv b hb hm => by
    rcases hv0 with h0 | ⟨_, rfl⟩
    · exact h.sep k (K i) v v0 hv h0 hne b hb (ownB_mem hm)
    · cases ownB_mem hm
  refine ⟨fun k v hv => ?_, fun k k' v u hv hu hne b hb => ?_⟩
  · rcases aput_keys hv with ⟨rfl, rfl⟩ | ⟨hne, hv⟩
    · rw [cN_succ, if_pos rfl]
      exact ho
    · rw [cN_succ, if_neg (fun e => hne e.symm)]
      exact own_kpB (h.rows k v hv) hk (hap k v hne hv)
  · have key : ∀ k u, k ≠ K i → alook m k = some u → ∀ b, v'.ownBlock = some b → u.ownBlock ≠ some b := fun k u hne hu b hb hb2 => by
      rcases hv' b hb with hh | hh
      · exact hap k u hne hu b hb2 (ownB_of hh)
      · have := hsz k u hu b hb2
        omega
    rcases aput_keys hv with ⟨e1, e2⟩ | ⟨h1, hv2⟩
    · rcases aput_keys hu with ⟨e3, e4⟩ | ⟨h2, hu2⟩
      · exact absurd (e1.trans e3.symm) hne
      · rw [e2] at hb
        exact key k' u h2 hu2 b hb
    · rcases aput_keys hu with ⟨e3, e4⟩ | ⟨h2, hu2⟩
      · intro hb2
        rw [e4] at hb2
        exact key k v h1 hv2 b hb2 hb
      · exact h.sep k k' v u hv2 hu2 hne b hb
attribute [local irreducible] CG NG SG Vals Der Row Blk MapIs IterAt nameT wrongT
set_option maxHeartbeats 16000000 in
theorem keys_spec {w : World} {base p : Nat} {v : Value} {room : Int} {ms : List Em} (hP : Pl w base p v room ms) (hb : Nb ms) (hl : ms.length ≤ 100000) :
    Calls Try.prog 72 #[.pointer (some ⟨p, 0, none⟩)] w (fun e w' => ∃ bm m C, e = .returned (.map (some bm)) ∧ Kp [] w w' ∧ MapIs w' bm (dv (n := 8)) (fun v : Value => v) m ∧ Kr w' w.heap.size m C ∧ (∀ k, (C k).Perm (cN (pK ms) ms.length k)) ∧ (∀ k v, alook m k = some v → (C k).Pairwise (fun x y => pN ms x ≤ pN ms y)) ∧ (∀ j, j < ms.length → ∃ v, alook m (pK ms j) = some v) ∧ (∀ k v, alook m k = some v → cN (pK ms) ms.length k ≠ [])) := by
  refine enter1 Try.func72 rfl Try.ntmps72 rfl ?_
  have hlp := hP.blk.lt
  have hvp : ∀ b, v.ownBlock = some b → b < w.heap.size := own_lt hP.own
  repeat (first|apply cA|apply cB)
  refine SG.box rfl rfl rfl (by exact rho_of rfl) (fun b1 w1 hk1 hb1 hB1 => ?_)
  have hB1 : Blk w1 b1 (.cells #[.pointer (some ⟨p, 0, none⟩)] 23) := hB1
  have lt1 := hB1.lt
  repeat (first|apply cA|apply cB|apply cD|apply cE|refine cU rfl rfl rfl rfl (by first|(apply qas<;>(exact rfl))|fail) ?_)
  refine SG.makeMap (dv (n := 8)) (fun v : Value => v) rfl rfl (fun bm w2 hk2 hbm hM => ?_)
  have k2 := hk1.trans hk2
  have ltm := hM.lt
  have hP2 := hP.kp0 k2
  obtain ⟨a, c, rfl, hc, hS⟩ := hP2.sl
  obtain ⟨-, q1⟩ := hP2.rows
  have r1 : Row w2 b1 0 [.pointer (some ⟨p, 0, none⟩)] := (Row.all (l := [.pointer (some ⟨p, 0, none⟩)]) hB1 rfl).kp0 hk2
  repeat (first|apply cA|apply cB|apply cD|apply cE|apply cG|refine cU rfl rfl rfl rfl (by first|((first|apply qmv|apply qas|apply qlc|apply qfa|apply qnc|apply qln)<;>(first|exact rfl|assumption|exact List.not_mem_nil))|fail) ?_)
  clear q1 r1
  have s1 := hk1.size
  have s2 := hk2.size
  refine CG.loop (X := Nat × List (Dg × Value)) (fun x => [(1, .pointer (some ⟨b1, 0, none⟩)), (3, .map (some bm)), (12, .slice a ms.length c), (13, .int .i64 (ms.length : Int)), (14, .int .i64 (x.1 : Int))])
    (fun x w' => x.1 ≤ ms.length ∧ Kp [bm] w2 w' ∧ MapIs w' bm (dv (n := 8)) (fun v : Value => v) x.2 ∧ Kr w' w2.heap.size x.2 (cN (pK ms) x.1) ∧ (∀ j, j < x.1 → ∃ v, alook x.2 (pK ms j) = some v) ∧ (∀ k v, alook x.2 k = some v → cN (pK ms) x.1 k ≠ [])) (fun x => ms.length - x.1) (0, []) ⟨Nat.zero_le _, Kp.refl _ _, hM, ⟨fun _ _ h => (by cases h), fun _ _ _ _ h => (by cases h)⟩, fun j h => absurd h (Nat.not_lt_zero j), fun _ _ h => (by cases h)⟩ (by (repeat' (first | exact True.intro | exact rfl | refine And.intro ?_ ?_))) ?_
  rintro ⟨i, m⟩ w3 ⟨hi, hk3, hM3, hR, hcov, hne⟩
  simp only at hi hM3 hR hcov hne
  refine CG.to [(1, .pointer (some ⟨b1, 0, none⟩)), (3, .map (some bm)), (12, .slice a ms.length c), (13, .int .i64 (ms.length : Int)), (14, .int .i64 (i : Int))] (by (repeat' (first | exact True.intro | exact rfl | refine And.intro ?_ ?_))) ?_
  have s3 := hk3.size
  have nbm : ∀ b, b < w.heap.size → b ∉ [bm] := fun b h => nm1 (by omega)
  have hO : Oth base w2 [bm] := hM.noth (by have := hP.base_le; have := hk1.size; omega)
  have hP3 : Pl w3 base p (.slice a ms.length c) room ms := hP2.kp hk3 (nbm p hlp) (fun b hb => nbm b (hvp b hb)) hO
  have k3 : Kp [] w w3 := k2.trans_new hk3 (new1 (by omega))
  have r1 : Row w3 b1 0 [.pointer (some ⟨p, 0, none⟩)] := ((Row.all (l := [.pointer (some ⟨p, 0, none⟩)]) hB1 rfl).kp0 hk2).kp hk3 (nm1 (by omega))
  by_cases hlt : i < ms.length
  · have g1 : (i : Int) < (ms.length : Int) := by omega
    obtain ⟨a', c', e', -, hS3⟩ := hP3.sl
    cases e'
    obtain ⟨g, o1, rfl, hri⟩ := hS3.at hlt
    repeat (first|apply cA|apply cB|apply cD|apply cE|refine cU rfl rfl rfl rfl (by first|(apply qls<;>(first|exact rfl|exact dct (by first|assumption|omega)|fail))|fail) ?_)
    refine cV rfl (by exact rho_of rfl) rfl ?_
    repeat (first|apply cA|apply cB|apply cE|apply cF|apply cG|refine cU rfl rfl rfl rfl (by first|((first|apply qmv|apply qla|apply qix)<;>(first|exact rfl|exact Ar.mk (by omega)|assumption|exact List.not_mem_nil|apply ec_length|fail))|fail) ?_)
    refine SG.alloc rfl rfl rfl (fun b5 w4 hk4 hb5 hB5 => ?_)
    repeat (first|refine cU rfl rfl rfl rfl (by first|(apply qas<;>(exact rfl))|fail) ?_)
    refine SG.setAll (l := ec ms[i]) rfl rfl (by exact rho_of rfl) (by exact rho_of rfl) hB5 (ec_length _) rfl (ec_one _) (fun w5 hk5 hB5 => ?_)
    have hB5 : Blk w5 b5 (.cells (ec ms[i]).toArray 78) := hB5
    have k35 : Kp [] w3 w5 := hk4.trans_new hk5 (new1 (by omega))
    have hM5 := hM3.kp0 k35
    have hR5 := hR.kp0 k35
    clear hri
    obtain ⟨-, u0, -⟩ := ec_rows (Row.all hB5 rfl)
    rw [← pK_at hlt] at u0
    repeat (first|apply cB|apply cD|apply cE|refine cU rfl rfl rfl rfl (by first|((first|apply qmv|apply qla|apply qfa)<;>(first|exact rfl|assumption|exact List.not_mem_nil|apply dc_length))|fail) ?_)
    refine SG.buildSlice rfl rfl rfl rfl (bsi (i : Int)) (fun b6 w6 hk6 hb6 hB6 => ?_)
    have hM6 := hM5.kp0 hk6
    have hR6 := hR5.kp0 hk6
    have k36 := k35.trans hk6
    have ltb6 := hB6.lt
    have hS6 : Sl nI 1 w6 (some ⟨b6, 0, none⟩) [i] := Sl.of_blk (pre := []) (post := []) nI_len (l := [i]) (T := 3) hB6
    obtain ⟨v0, hv0, hv0'⟩ : ∃ v0, (alook m (pK ms i)).elim (Value.slice none 0 0) (fun v : Value => v) = v0 ∧ (alook m (pK ms i) = some v0 ∨ (alook m (pK ms i) = none ∧ v0 = .slice none 0 0)) := by
      cases h : alook m (pK ms i) with
      | none => exact ⟨_, rfl, Or.inr ⟨rfl, rfl⟩⟩
      | some u => exact ⟨_, rfl, Or.inl rfl⟩
    refine SG.mapEntry (enc := dv (n := 8)) (V := fun v : Value => v) (kx := pK ms i) (z := .slice none 0 0) rfl rfl rfl (by exact rho_of rfl) (by exact rho_of rfl) hM6 BArr.key rfl (fun st o' w7 hk7 hBo hmo hE => ?_)
    rw [hv0]
    have s7 := hk7.size
    have s36 := k36.size
    have hR7 : Kr w7 w2.heap.size m (cN (pK ms) i) := hR6.kp hk7 (fun b hb => by
      rw [List.mem_singleton] at hb
      subst hb
      exact Or.inl hM6.nint)
    have ho6 : w6.ownsRow w2.heap.size 3 1 v0 (cN (pK ms) i (pK ms i)).length (flt nI (cN (pK ms) i (pK ms i))) := by
      rcases hv0' with h | ⟨h, rfl⟩
      · exact hR6.rows _ _ h
      · have : cN (pK ms) i (pK ms i) = [] := by
          apply List.eq_nil_iff_forall_not_mem.2
          intro j hj
          obtain ⟨h1, h2⟩ := cN_mem.1 hj
          obtain ⟨u, hu⟩ := hcov j h1
          rw [h2, h] at hu
          cases hu
        rw [this]
        exact own_nil
    have hnm : bm ∉ ownB v0 := hM6.nown ho6
    have ho7 := own_kpB ho6 hk7 (fun b hb hm => by
      rw [List.mem_singleton] at hm
      subst hm
      exact hnm (ownB_of hb))
    have s35 := k35.size
    have hlc := cN_len (pK ms) i (pK ms i)
    repeat (first|refine cU rfl rfl rfl rfl (by first|(apply qxt<;>(exact rfl))|fail) ?_)
    refine SG.appO (enc := nI) (xs := cN (pK ms) i (pK ms i)) (ys := [i]) (base := w2.heap.size) rfl rfl rfl (by exact rho_of rfl) (by exact rho_of rfl) rfl rfl rfl rfl nI_len nI_one ho7 (hS6.kp hk7 (fun b off e => by cases e; exact nm1 (by omega))) (by simp only [maxLen, List.length_cons, List.length_nil]; omega) (by simp only [List.length_cons, List.length_nil]; show (_ + _) * 8 ≤ _; omega) (by omega) (fun v' w8 hk8 ho8 hv8 => ?_)
    have hR8 := hR7.add hv0' hk8 ho8 hv8
    repeat (first|refine cU rfl rfl rfl rfl (by first|(apply qxt<;>(exact rfl))|fail) ?_)
    refine SG.entryStore (enc := dv (n := 8)) (V := fun v : Value => v) (kx := pK ms i) (vy := v') rfl rfl (by exact rho_of rfl) (by exact rho_of rfl) (by exact rho_of rfl) hE (hBo.kp hk8 hnm) (fun w9 hk9 hM9 => ?_)
    have hB8 := hBo.kp hk8 hnm
    have hR9 : Kr w9 w2.heap.size (aput m (pK ms i) v') (cN (pK ms) (i + 1)) := hR8.kp hk9 (fun b hb => by
      rw [List.mem_singleton] at hb
      subst hb
      obtain ⟨es, cl, rfl⟩ := hmo
      exact Or.inl (Blk.nint hB8))
    have k29 : Kp [bm] w2 w9 := (((hk3.trans k36.any).trans hk7).trans_new hk8 (fun z hz => by
      exact Or.inr (own_geB ho7 z (ownB_mem hz)))).trans hk9
    repeat (first|apply cB|apply cD|apply cE|apply cQ|refine cU rfl rfl rfl rfl (by first|((first|apply qmv|apply qad)<;>(first|exact rfl|exact Ar.mk (by omega)|fail))|fail) ?_)
    refine NG.round (i + 1, aput m (pK ms i) v') (by (repeat' (first | exact True.intro | exact rfl | refine And.intro ?_ ?_))) ⟨by simp only; omega, k29, hM9, hR9, fun j hj => ?_, fun k v hv => ?_⟩ (by simp only; omega)
    · simp only at hj
      rw [alook_put]
      by_cases e : pK ms i = pK ms j
      · exact ⟨v', by rw [if_pos e]⟩
      · rw [if_neg e]
        exact hcov j (by
          have : j ≠ i := fun h => e (by rw [h])
          omega)
    · rw [cN_succ]
      rcases aput_keys hv with ⟨e1, e2⟩ | ⟨e1, h2⟩
      · rw [if_pos e1.symm]
        simp
      · rw [if_neg (fun e => e1 e.symm)]
        exact hne k v h2
  · have g1 : ¬ (i : Int) < (ms.length : Int) := by omega
    have hin : i = ms.length := by omega
    subst hin
    have hM3' := hM3
    repeat (first|apply cA|apply cB|apply cD|apply cE|refine cU rfl rfl rfl rfl (by first|(apply qls<;>(first|exact rfl|exact dcf (by first|assumption|omega)|fail))|fail) ?_)
    refine cX rfl (by exact rho_of rfl) rfl ?_
    repeat (first|apply cA|apply cB|apply cE|apply cJ|apply cK|refine cM rfl ?_|refine cU rfl rfl rfl rfl (by first|(apply qmv<;>(exact rfl))|fail) ?_)
    refine SG.range rfl rfl rfl (by exact rho_of rfl) hM3 (fun r w4 hk4 hr4 hI => ?_)
    have k4 := k3.trans hk4
    have s4 := hk4.size
    have hK0 : (Kp [] w w4) := k4
    repeat (first|apply cD|apply cE|apply cG)
    refine CG.loop (X := (Dg → List Nat) × List (Dg × Value) × Option (Dg × Value)) (fun x => [(1, .pointer (some ⟨b1, 0, none⟩)), (3, .map (some bm)), (31, .pointer (some ⟨r, 0, none⟩))])
      (fun x w' => Kp [] w w' ∧ r < w'.heap.size ∧ IterAt w' r bm (dv (n := 8)) (fun v : Value => v) m x.2.1 x.2.2 ∧ Kr w' w2.heap.size m x.1 ∧ (∀ k, (x.1 k).Perm (cN (pK ms) ms.length k)) ∧ (∀ k v, alook m k = some v → (k, v) ∉ x.2.1 → (x.1 k).Pairwise (fun x y => pN ms x ≤ pN ms y)) ∧ Row w' b1 0 [.pointer (some ⟨p, 0, none⟩)] ∧ (∀ q ∈ x.2.1, q ∈ m))
      (fun x => x.2.1.length) (cN (pK ms) ms.length, m, none) ⟨k4, hI.ltr, hI, hR.kp0 hk4, fun k => List.Perm.refl _, fun k v hv hn => absurd (alook_mem hv) hn, r1.kp0 hk4, fun _ h => h⟩ (by (repeat' (first | exact True.intro | exact rfl | refine And.intro ?_ ?_))) ?_
    rintro ⟨C, left, cur⟩ w5 ⟨hk5, hrs, hI5, hR5, hC, hsd, hr5, hsub⟩
    simp only at hI5 hR5 hC hsd hsub
    refine CG.to [(1, .pointer (some ⟨b1, 0, none⟩)), (3, .map (some bm)), (31, .pointer (some ⟨r, 0, none⟩))] (by (repeat' (first | exact True.intro | exact rfl | refine And.intro ?_ ?_))) ?_
    repeat (first|apply cA|apply cB)
    refine SG.next rfl rfl rfl (by exact rho_of rfl) hI5 (fun h0 => ?_) (fun pre q post w6 hl6 hk6 hI6 => ?_)
    · subst h0
      repeat (first|apply cA|apply cD|apply cE|refine cU rfl rfl rfl rfl (by first|(apply qxt<;>(exact rfl))|fail) ?_)
      refine cX rfl (by exact rho_of rfl) rfl ?_
      repeat (first|apply cA|apply cB|apply cD|apply cE|apply cH|apply cJ|apply cK|refine cM rfl ?_|refine cU rfl rfl rfl rfl (by first|((first|apply qmv|apply qas)<;>(exact rfl))|fail) ?_)
      refine ret1 (Or.inl rfl) Try.results72 (by first | exact ResV.tmp rfl | exact ResV.agg rfl rfl (by assumption) (by first | exact dc_length _ | exact nc_length _ | exact rc_length _ _ _ | exact ec_length _ | exact dl_length _ _ _ _ | rfl) | exact ResV.cell rfl rfl (by assumption)) ?_
      exact ⟨bm, m, C, rfl, hk5, hI5.map, hR5.mono (by omega), hC, fun k v hv => hsd k v hv List.not_mem_nil, hcov, hne⟩
    · repeat (first|apply cA|apply cD|apply cE|refine cU rfl rfl rfl rfl (by first|(apply qxt<;>(exact rfl))|fail) ?_)
      refine cV rfl (by exact rho_of rfl) rfl ?_
      have hqm : q ∈ m := hsub q (by rw [hl6]; simp)
      have hqa : alook m q.1 = some q.2 := alook_of_mem hM3.nodup hqm
      have s5 := hk5.size
      have k6 : Kp [] w w6 := hk5.trans_new hk6 (new1 (by omega))
      have hR6 : Kr w6 w2.heap.size m C := hR5.kp hk6 (fun b hb => by
        rw [List.mem_singleton] at hb
        subst hb
        exact Or.inl (IterAt.nint hI5))
      have hP6 := hP.kp0 k6
      have ho6 := hR6.rows _ _ hqa
      have hr6 : Row w6 b1 0 [.pointer (some ⟨p, 0, none⟩)] := hr5.kp hk6 (nm1 (by omega))
      have hge := own_geB ho6
      have hbO : ∀ b, b < w2.heap.size → b ∉ ownB q.2 := fun b hlt hm => by
        have := hge b (ownB_mem hm)
        omega
      have hcl : (C q.1).length ≤ 100000 := by
        rw [(hC q.1).length_eq]
        have := cN_len (pK ms) ms.length q.1
        omega
      repeat (first|apply cA|apply cB|apply cD|apply cE|apply cF|apply cG|refine cU rfl rfl rfl rfl (by first|((first|apply qmv|apply qas|apply qxt|apply qen)<;>(first|exact rfl|assumption|exact List.not_mem_nil))|fail) ?_)
      refine cU rfl rfl rfl rfl (qmf (vs := [.pointer (some ⟨b1, 0, none⟩)]) rfl) ?_
      refine SG.call rfl rfl rfl (vs := [q.2, fnv 87 [.pointer (some ⟨b1, 0, none⟩)]]) (by repeat' (first | exact True.intro | exact rho_of rfl | refine And.intro ?_ ?_)) ((sorti_spec hP6 hr6 hb ho6 (fun j hj => (cN_mem.1 ((hC q.1).mem_iff.1 hj)).1) (by
        have := hne q.1 q.2 hqa
        obtain ⟨j, hj⟩ := List.exists_mem_of_ne_nil _ this
        have := (cN_mem.1 hj).1
        omega) (by omega) (by have := hP.base_le; have := hk2.size; have := hk1.size; omega) (hbO b1 (by omega)) (hbO p (by omega)) (fun b hb => hbO b (by have := hvp b hb; omega))).mono (fun e w7 hh => ?_))
      obtain ⟨he, hk7, l', hp', hs', ho7⟩ := hh
      refine ⟨_, he, ?_⟩
      repeat (first|apply cD|apply cQ)
      have hI7 := hI6.kp hk7 (IterAt.nown hI6 ho6) (MapIs.nown hI6.map ho6)
      refine NG.round (fun k => if k = q.1 then l' else C k, pre ++ post, some q) (by (repeat' (first | exact True.intro | exact rfl | refine And.intro ?_ ?_))) ⟨k6.trans_new hk7 (fun z hz => Or.inr (by have := hge z (ownB_mem hz); omega)), hI7.ltr, hI7, ⟨fun k v hv => ?_, hR6.sep⟩, fun k => ?_, fun k v hv hn => ?_, hr6.kp hk7 (hbO b1 (by omega)), fun x hx => ?_⟩ ?_
      · simp only
        by_cases e : k = q.1
        · subst e
          rw [hqa] at hv
          cases hv
          rw [if_pos rfl]
          exact ho7
        · rw [if_neg e]
          exact own_kpB (hR6.rows k v hv) hk7 (fun b hb hm => hR6.sep k q.1 v q.2 hv hqa e b hb (ownB_mem hm))
      · simp only
        by_cases e : k = q.1
        · subst e
          rw [if_pos rfl]
          exact hp'.trans (hC _)
        · rw [if_neg e]
          exact hC k
      · simp only at hn ⊢
        by_cases e : k = q.1
        · rw [if_pos e]
          exact hs'
        · rw [if_neg e]
          refine hsd k v hv (fun hm => hn ?_)
          rw [hl6] at hm
          rcases List.mem_append.1 hm with h | h
          · exact List.mem_append.2 (Or.inl h)
          · rcases List.mem_cons.1 h with h | h
            · exact absurd (congrArg Prod.fst h) e
            · exact List.mem_append.2 (Or.inr h)
      · refine hsub x ?_
        rw [hl6]
        rcases List.mem_append.1 hx with h | h
        · exact List.mem_append.2 (Or.inl h)
        · exact List.mem_append.2 (Or.inr (List.mem_cons_of_mem _ h))
      · simp only
        rw [hl6]
        simp only [List.length_append, List.length_cons]
        omega
end Go.Proofs.Ytgbgnlboogalgaa
namespace Go.Proofs.Ytgbgnlboogalgaa
set_option linter.unusedVariables false
section
variable {κ : Type} {K : Nat → κ} {N F : Nat → Int}
/-- What is so of rows of places that are still to be taken (R), some being taken (out). -/
structure Stp (K : Nat → κ) (N F : Nat → Int) (n : Nat) (Ls : List (List Nat)) (R out : List Nat) : Prop where
  asc : R.Pairwise (· < ·)
  lt : ∀ j ∈ R, j < n
  len : R.length + out.length = n
  ord : ∀ r, Ord K N F R r → Ord K N F (List.range n) (out ++ r)
  srt : ∀ l ∈ Ls, l.Pairwise (fun x y => N x < N y ∧ K x = K y)
  sep : ∀ (i j : Nat) (l l' : List Nat), Ls[i]? = some l → Ls[j]? = some l' → i ≠ j → ∀ x ∈ l, ∀ y ∈ l', K x ≠ K y
  mem : ∀ j, j ∈ R ↔ ∃ l ∈ Ls, j ∈ l
def aheadP (F : Nat → Int) (a x : Nat) : Prop := F x < F a ∨ (F a = F x ∧ a < x)
/-- Of the first k rows, the one with the best head. -/
inductive InB (F : Nat → Int) (Ls : List (List Nat)) (k : Nat) : Int → Prop
  | no : (∀ (i : Nat) (l : List Nat), i < k → Ls[i]? = some l → l = []) → InB F Ls k (-1)
  | att (b a : Nat) (t : List Nat) : b < k → Ls[b]? = some (a :: t) → (∀ (i x : Nat) (t' : List Nat), i < k → Ls[i]? = some (x :: t') → x = a ∨ aheadP F a x) → InB F Ls k (b : Int)
theorem aheadP.trans {a x y : Nat} (h : aheadP F a x) (h2 : aheadP F x y) : aheadP F a y := by
  unfold aheadP at *
  omega
theorem aheadP.tot {a x : Nat} (h : ¬ aheadP F a x) : x = a ∨ aheadP F x a := by
  unfold aheadP at *
  omega
theorem InB.init (Ls : List (List Nat)) : InB F Ls 0 (-1) := .no (fun i l h => absurd h (Nat.not_lt_zero i))
theorem InB.skip {Ls : List (List Nat)} {k : Nat} {z : Int} (h : InB F Ls k z) (hk : Ls[k]? = some []) : InB F Ls (k + 1) z := by
  cases h with
  | no h => exact .no (fun i l hi hl => by
      by_cases e : i = k
      · subst e; rw [hk] at hl; cases hl; rfl
      · exact h i l (by omega) hl)
  | att b a t h1 h2 h3 => exact .att b a t (by omega) h2 (fun i x t' hi hl => by
      by_cases e : i = k
      · subst e; rw [hk] at hl; cases hl
      · exact h3 i x t' (by omega) hl)
theorem InB.first {Ls : List (List Nat)} {k x : Nat} {t : List Nat} (h : InB F Ls k (-1)) (hk : Ls[k]? = some (x :: t)) : InB F Ls (k + 1) (k : Int) := by
  generalize hz : (-1 : Int) = z at h
  cases h with
  | no h => exact .att k x t (by omega) hk (fun i y t' hi hl => by
      by_cases e : i = k
      · subst e; rw [hk] at hl; cases hl; exact Or.inl rfl
      · have := h i _ (by omega) hl
        cases this)
  | att b a t h1 h2 h3 => omega
theorem InB.keep {Ls : List (List Nat)} {k b a x : Nat} {t t2 : List Nat} (h : InB F Ls k (b : Int)) (hb : Ls[b]? = some (a :: t2)) (hk : Ls[k]? = some (x :: t)) (hn : ¬ aheadP F x a) : InB F Ls (k + 1) (b : Int) := by
  generalize hz : (b : Int) = z at h
  cases h with
  | no h => omega
  | att b' a' t' h1 h2 h3 =>
    have : b' = b := by omega
    subst this
    rw [hb] at h2
    cases h2
    refine .att b' a t2 (by omega) hb (fun i y t3 hi hl => ?_)
    by_cases e : i = k
    · subst e
      rw [hk] at hl
      cases hl
      rcases aheadP.tot hn with h | h
      · exact Or.inl h.symm
      · exact Or.inr h
    · exact h3 i y t3 (by omega) hl
theorem InB.turn {Ls : List (List Nat)} {k b a x : Nat} {t t2 : List Nat} (h : InB F Ls k (b : Int)) (hb : Ls[b]? = some (a :: t2)) (hk : Ls[k]? = some (x :: t)) (hn : aheadP F x a) : InB F Ls (k + 1) (k : Int) := by
  generalize hz : (b : Int) = z at h
  cases h with
  | no h => omega
  | att b' a' t' h1 h2 h3 =>
    have : b' = b := by omega
    subst this
    rw [hb] at h2
    cases h2
    refine .att k x t (by omega) hk (fun i y t3 hi hl => ?_)
    by_cases e : i = k
    · subst e
      rw [hk] at hl
      cases hl
      exact Or.inl rfl
    · rcases h3 i y t3 (by omega) hl with h | h
      · rw [h]; exact Or.inr hn
      · exact Or.inr (hn.trans h)
theorem InB.get {Ls : List (List Nat)} {z : Int} (h : InB F Ls Ls.length z) (hne : ∃ l ∈ Ls, l ≠ []) : ∃ (b a : Nat) (t : List Nat), z = (b : Int) ∧ Ls[b]? = some (a :: t) ∧ ∀ l ∈ Ls, ∀ x t', l = x :: t' → x = a ∨ aheadP F a x := by
  cases h with
  | no h =>
    obtain ⟨l, hl, hn⟩ := hne
    obtain ⟨i, hi, rfl⟩ := List.getElem_of_mem hl
    exact absurd (h i _ hi (List.getElem?_eq_getElem hi)) hn
  | att b a t h1 h2 h3 =>
    refine ⟨b, a, t, rfl, h2, fun l hl x t' e => ?_⟩
    subst e
    obtain ⟨i, hi, e⟩ := List.getElem_of_mem hl
    exact h3 i x t' hi (by rw [List.getElem?_eq_getElem hi, e])
theorem asc_mid {X Y : List Nat} {a : Nat} (h : (X ++ a :: Y).Pairwise (· < ·)) : (X ++ Y).Pairwise (· < ·) ∧ (∀ x ∈ X, x < a) ∧ (∀ y ∈ Y, a < y) := by
  rw [List.pairwise_append, List.pairwise_cons] at h
  obtain ⟨h1, ⟨h2, h3⟩, h4⟩ := h
  exact ⟨List.pairwise_append.2 ⟨h1, h3, fun x hx y hy => h4 x hx y (List.mem_cons_of_mem _ hy)⟩, fun x hx => h4 x hx a List.mem_cons_self, h2⟩
theorem Stp.step {n : Nat} {Ls : List (List Nat)} {R out : List Nat} (h : Stp K N F n Ls R out) {b a : Nat} {t : List Nat} (hb : Ls[b]? = some (a :: t)) (hbest : ∀ l ∈ Ls, ∀ x t', l = x :: t' → x = a ∨ aheadP F a x) :
    ∃ R', Stp K N F n (Ls.set b t) R' (out ++ [a]) ∧ R'.length + 1 = R.length := by
  have hbl : b < Ls.length := (List.getElem?_eq_some_iff.1 hb).1
  have hbm : a :: t ∈ Ls := List.mem_of_getElem? hb
  have haR : a ∈ R := (h.mem a).2 ⟨_, hbm, List.mem_cons_self⟩
  obtain ⟨X, Y, rfl⟩ := List.append_of_mem haR
  obtain ⟨g1, g2, g3⟩ := asc_mid h.asc
  have hsa := List.pairwise_cons.1 (h.srt _ hbm)
  have hmemR : ∀ j, j ∈ X ++ Y ↔ (j ∈ X ++ a :: Y ∧ j ≠ a) := fun j => by
    rw [List.mem_append, List.mem_append, List.mem_cons]
    constructor
    · rintro (hj | hj)
      · exact ⟨Or.inl hj, by have := g2 j hj; omega⟩
      · exact ⟨Or.inr (Or.inr hj), by have := g3 j hj; omega⟩
    · rintro ⟨hj | hj | hj, hn⟩
      · exact Or.inl hj
      · exact absurd hj hn
      · exact Or.inr hj
  -- the first of its key is its row's head
  have hhead : ∀ e ∈ X ++ a :: Y, Frst K N (X ++ a :: Y) e → ∃ l ∈ Ls, ∃ t', l = e :: t' := fun e he hf => by
    obtain ⟨l, hl, hel⟩ := (h.mem e).1 he
    cases l with
    | nil => cases hel
    | cons x t' =>
      rcases List.mem_cons.1 hel with rfl | hel
      · exact ⟨_, hl, t', rfl⟩
      · have hs := (List.pairwise_cons.1 (h.srt _ hl)).1 e hel
        have hx : x ∈ X ++ a :: Y := (h.mem x).2 ⟨_, hl, List.mem_cons_self⟩
        have := hf x hx hs.2
        omega
  have hbestS : BestS K N F X a Y := by
    refine ⟨fun o ho hk => ?_, fun e he hf => ?_, fun e he hf => ?_⟩
    · obtain ⟨l, hl, hol⟩ := (h.mem o).1 ho
      obtain ⟨i, hi⟩ := List.getElem?_of_mem hl
      by_cases e : i = b
      · subst e
        rw [hb] at hi
        cases hi
        rcases List.mem_cons.1 hol with rfl | hol
        · exact Int.le_refl _
        · have := (hsa.1 o hol).1
          omega
      · exact absurd hk (h.sep i b l (a :: t) hi hb e o hol a List.mem_cons_self)
    · obtain ⟨l, hl, t', e2⟩ := hhead e he hf
      rcases hbest l hl e t' e2 with rfl | hh
      · exact Int.le_refl _
      · unfold aheadP at hh
        omega
    · have hm : e ∈ X ++ a :: Y := List.mem_append.2 (Or.inl he)
      obtain ⟨l, hl, t', e2⟩ := hhead e hm hf
      have := g2 e he
      rcases hbest l hl e t' e2 with rfl | hh
      · omega
      · unfold aheadP at hh
        omega
  refine ⟨X ++ Y, ⟨g1, fun j hj => h.lt j ((hmemR j).1 hj).1, ?_, fun r hr => ?_, fun l hl => ?_, fun i j l l' hi hj hne x hx y hy => ?_, fun j => ?_⟩, ?_⟩
  · have := h.len
    simp only [List.length_append, List.length_cons, List.length_nil] at this ⊢
    omega
  · have := h.ord _ (Ord.step X a Y r hbestS hr)
    rw [List.append_assoc]
    exact this
  · rcases List.mem_or_eq_of_mem_set hl with hl | rfl
    · exact h.srt l hl
    · exact hsa.2
  · have key : ∀ (i : Nat) (l : List Nat) (x : Nat), (Ls.set b t)[i]? = some l → x ∈ l → ∃ l2, Ls[i]? = some l2 ∧ x ∈ l2 := fun i l x hi hx => by
      rw [List.getElem?_set] at hi
      by_cases e : b = i
      · subst e
        rw [if_pos rfl, if_pos hbl] at hi
        cases hi
        exact ⟨_, hb, List.mem_cons_of_mem _ hx⟩
      · rw [if_neg e] at hi
        exact ⟨l, hi, hx⟩
    obtain ⟨l2, q1, q2⟩ := key i l x hi hx
    obtain ⟨l3, q3, q4⟩ := key j l' y hj hy
    exact h.sep i j l2 l3 q1 q3 hne x q2 y q4
  · rw [hmemR, h.mem]
    constructor
    · rintro ⟨⟨l, hl, hjl⟩, hne⟩
      obtain ⟨i, hi⟩ := List.getElem?_of_mem hl
      by_cases e : i = b
      · subst e
        rw [hb] at hi
        cases hi
        rcases List.mem_cons.1 hjl with rfl | hjl
        · exact absurd rfl hne
        · exact ⟨t, List.mem_of_getElem? (i := i) (by rw [List.getElem?_set, if_pos rfl, if_pos hbl]), hjl⟩
      · exact ⟨l, List.mem_of_getElem? (i := i) (by rw [List.getElem?_set, if_neg (fun h => e h.symm)]; exact hi), hjl⟩
    · rintro ⟨l, hl, hjl⟩
      obtain ⟨i, hi⟩ := List.getElem?_of_mem hl
      rw [List.getElem?_set] at hi
      by_cases e : b = i
      · subst e
        rw [if_pos rfl, if_pos hbl] at hi
        cases hi
        refine ⟨⟨_, hbm, List.mem_cons_of_mem _ hjl⟩, fun e2 => ?_⟩
        subst e2
        have := (hsa.1 j hjl).1
        omega
      · rw [if_neg e] at hi
        refine ⟨⟨l, List.mem_of_getElem? hi, hjl⟩, fun e2 => ?_⟩
        subst e2
        exact h.sep b i (j :: t) l hb hi e j List.mem_cons_self j hjl rfl
  · simp only [List.length_append, List.length_cons]
    omega
theorem Stp.full {n : Nat} {Ls : List (List Nat)} {R out : List Nat} (h : Stp K N F n Ls R out) (hl : out.length < n) : ∃ l ∈ Ls, l ≠ [] := by
  have := h.len
  cases R with
  | nil => simp at this; omega
  | cons x R =>
    obtain ⟨l, hl, hx⟩ := (h.mem x).1 List.mem_cons_self
    exact ⟨l, hl, fun e => by rw [e] at hx; cases hx⟩
theorem Stp.last {n : Nat} {Ls : List (List Nat)} {R out : List Nat} (h : Stp K N F n Ls R out) (hl : ¬ out.length < n) : Ord K N F (List.range n) out := by
  have := h.len
  have hR : R = [] := List.eq_nil_of_length_eq_zero (by omega)
  subst hR
  have := h.ord [] .nil
  simpa using this
end
end Go.Proofs.Ytgbgnlboogalgaa
namespace Go.Proofs.Ytgbgnlboogalgaa
set_option linter.unusedVariables false
section
variable {α : Type} {enc : α → List Value} {sz : Nat}
/-- One is written over. -/
theorem own_storeV {P : Program} {w : World} {base cap g n : Nat} {T : TypeId} {inf : TypeInfo} [f : Inf P T inf] {l : List α} (he : ∀ x, (enc x).length = inf.size) (hone : ∀ x, allOne (enc x) = true) (ho : w.ownsRow base T inf.size (.slice (some ⟨g, 0, none⟩) n cap) n (flt enc l)) (hn : l.length = n) {k : Nat} (hk : k < l.length) (x : α) {vx : Value} (hcells : vx.cells.toList = enc x) :
    ∃ w', (Instr.storeAt T (.pointer (some ⟨g, 0 + k * inf.size, none⟩)) vx).run P w = .ok () w' ∧ w'.ownsRow base T inf.size (.slice (some ⟨g, 0, none⟩) n cap) n (flt enc (l.set k x)) ∧ Kp [g] w w' := by
  rcases ho with ⟨h1, ⟨h2, _⟩ | ⟨g', cap', cur, h2, hb, hg, hc1, hc2, hc3, hc4⟩⟩
  · cases h2
  · cases h2
    have hB : Blk w g (.cells cur T) := hg
    have hlt : k * inf.size + inf.size ≤ n * inf.size := by
      have : (k + 1) * inf.size ≤ n * inf.size := Nat.mul_le_mul_right _ (by omega)
      rwa [Nat.add_mul, Nat.one_mul] at this
    have hle : n * inf.size ≤ cap * inf.size := Nat.mul_le_mul_right _ hc1
    have hrun := run_storeAt (P := P) (T := T) (off := 0 + k * inf.size) (v := vx) hB (by rw [hcells]; exact he x) (by rw [hcells, he x]; omega) (by rw [hcells]; exact hone x)
    rw [hcells] at hrun
    refine ⟨_, hrun, ⟨by rw [flt_length he, List.length_set, hn], Or.inr ⟨g, cap, _, rfl, hb, hB.set _, hc1, hc2, ?_, ?_⟩⟩, Kp.set w hB rfl rfl⟩
    · have := spl_length (cs := cur.toList) (off := 0 + k * inf.size) (l := enc x) (by rw [he x]; simp; omega)
      rw [List.size_toArray, this]
      simpa using hc3
    · have hsplit : cur.toList = [] ++ (flt enc l ++ cur.toList.drop (n * inf.size)) := by
        rw [List.nil_append]
        conv => lhs; rw [← List.take_append_drop (n * inf.size) cur.toList]
        rw [hc4]
      have hset := flt_set he l k hk x [] (cur.toList.drop (n * inf.size))
      rw [← hsplit, List.length_nil, List.nil_append] at hset
      rw [List.toList_toArray, hset]
      refine (List.take_append_of_le_length ?_).trans (List.take_of_length_le ?_)
      · rw [flt_length he, List.length_set, hn]; exact Nat.le_refl _
      · rw [flt_length he, List.length_set, hn]; exact Nat.le_refl _
end
section
variable {P : Program} {α : Type} {enc : α → List Value} {m : Nat} {Q : Exit → Act → World → Prop} {ops rest : List Oper} {L : Env} {w : World} {ty : TypeId} {pos : String} {af : Array Edge} {q : Option (Nat × Bool)}
/-- .. in text order. -/
theorem SG.storeV {base cap g n : Nat} {T : TypeId} {inf : TypeInfo} [f : Inf P T inf] {l : List α} {a x : Operand} {y : α} {k o : Nat} (he : ∀ x, (enc x).length = inf.size) (hone : ∀ x, allOne (enc x) = true) (hw : want ops L ⟨none, .store T a x, ty, pos, af, q⟩ = some true) (hk : (known L a && known L x) = true)
    (ha : rho L a = .pointer (some ⟨g, o, none⟩)) (ho' : o = 0 + k * inf.size) {vy : Value} (hx : rho L x = vy) (hcells : vy.cells.toList = enc y) (ho : w.ownsRow base T inf.size (.slice (some ⟨g, 0, none⟩) n cap) n (flt enc l)) (hn : l.length = n) (hkl : k < l.length)
    (h : ∀ w', Kp [g] w w' → w'.ownsRow base T inf.size (.slice (some ⟨g, 0, none⟩) n cap) n (flt enc (l.set k y)) → SG P m ops Q rest L w') : SG P m ops Q (⟨none, .store T a x, ty, pos, af, q⟩ :: rest) L w := by
  subst ho'
  refine SG.op rfl rfl hw (by simpa [Op.operands] using hk) ?_
  obtain ⟨w', h1, h2, h3⟩ := own_storeV (P := P) he hone ho hn hkl y hcells
  unfold OpRun
  have : (execOp (rho L) ⟨none, .store T a x, ty, pos, af, q⟩).run P w = .ok .skip w' := by
    simp only [execOp, hx, ha, Sem.run_bind, h1, Result.andThen, Sem.run_pure]
  rw [this]
  exact h w' h3 h2
end
end Go.Proofs.Ytgbgnlboogalgaa
namespace Go.Proofs.Ytgbgnlboogalgaa
open Go.Proofs Go.Shelf Go.Sort
set_option linter.unusedVariables false
/-- A row of places, as it lies. -/
structure Hw where
  a : Option Addr
  c : Nat
  l : List Nat
def hwv (h : Hw) : Value := .slice h.a h.l.length h.c
def hwc (h : Hw) : List Value := [hwv h]
theorem hwc_len (h : Hw) : (hwc h).length = 1 := rfl
theorem hwc_one (h : Hw) : allOne (hwc h) = true := rfl
theorem bsh (a : Option Addr) (n c : Nat) (w : World) : (Instr.buildSlice 121 1 #[(0, .slice a n c)]).run Try.prog w = .ok (.slice (some ⟨w.heap.size, 0, none⟩) 1 1) { w with heap := w.heap.push (.cells #[.slice a n c] 105) } := by kernel_rfl
noncomputable def ordP (ms : List Em) : List Nat := ordL (pK ms) (pN ms) (pF ms) (List.range ms.length)
theorem dst_at {room : Int} {ms : List Em} (hI : PInv room (ms.map Em.en)) {i j : Nat} (hi : i < ms.length) (hj : j < ms.length) (hij : i ≠ j) (hk : pK ms i = pK ms j) : pN ms i ≠ pN ms j := by
  have key : ∀ {i j : Nat} (hi : i < ms.length) (hj : j < ms.length), i < j → pK ms i = pK ms j → pN ms i ≠ pN ms j := fun {i j} hi hj hlt hk => by
    have h := List.pairwise_iff_getElem.1 hI.dst i j (by simpa using hi) (by simpa using hj) hlt
    rw [pK_at hi, pK_at hj] at hk
    rw [pN_at hi, pN_at hj]
    intro hn
    refine h ⟨?_, ?_⟩
    · simp only [List.getElem_map]
      exact hk
    · simp only [List.getElem_map]
      exact hn
  rcases Nat.lt_or_gt_of_ne hij with h | h
  · exact key hi hj h hk
  · exact fun e => key hj hi h hk.symm e.symm
theorem strict_of {K : Nat → Dg} {N : Nat → Int} {n : Nat} {k : Dg} (hd : ∀ i j, i < n → j < n → i ≠ j → K i = K j → N i ≠ N j) {l : List Nat} (hp : l.Perm (cN K n k)) (hs : l.Pairwise (fun x y => N x ≤ N y)) : l.Pairwise (fun x y => N x < N y ∧ K x = K y) := by
  have hn : l.Nodup := hp.nodup_iff.2 (cN_nodup K n k)
  refine (List.Pairwise.and hs hn).imp_of_mem (fun {x y} hx hy h => ?_)
  have q1 := cN_mem.1 (hp.mem_iff.1 hx)
  have q2 := cN_mem.1 (hp.mem_iff.1 hy)
  have hk : K x = K y := q1.2.trans q2.2.symm
  have := hd x y q1.1 q2.1 h.2 hk
  have := h.1
  exact ⟨by omega, hk⟩
/-- The rows by key, to begin with. -/
theorem stp_init {K : Nat → Dg} {N F : Nat → Int} {n : Nat} {m : List (Dg × Value)} {C : Dg → List Nat} {dn : List (Dg × Hw)} (hd : ∀ i j, i < n → j < n → i ≠ j → K i = K j → N i ≠ N j) (hm : (m.map (·.1)).Nodup)
    (hC : ∀ k, (C k).Perm (cN K n k)) (hs : ∀ k v, alook m k = some v → (C k).Pairwise (fun x y => N x ≤ N y)) (hcov : ∀ j, j < n → ∃ v, alook m (K j) = some v) (hp : (dn.map (fun y => (y.1, hwv y.2))).Perm m) (hl : ∀ y ∈ dn, y.2.l = C y.1) :
    Stp K N F n (dn.map (fun y => y.2.l)) (List.range n) [] := by
  have hnd : (dn.map (fun y => y.1)).Nodup := by
    have h1 : ((dn.map (fun y => (y.1, hwv y.2))).map (·.1)).Perm (m.map (·.1)) := hp.map _
    rw [List.map_map] at h1
    exact h1.nodup_iff.2 hm
  have hin : ∀ y ∈ dn, alook m y.1 = some (hwv y.2) := fun y hy => by
    have : (y.1, hwv y.2) ∈ m := hp.mem_iff.1 (List.mem_map.2 ⟨y, hy, rfl⟩)
    exact alook_of_mem hm this
  refine ⟨List.pairwise_lt_range, fun j hj => List.mem_range.1 hj, by simp, fun r h => h, fun l hlm => ?_, fun i j l l' hi hj hne x hx y hy => ?_, fun j => ?_⟩
  · obtain ⟨y, hy, rfl⟩ := List.mem_map.1 hlm
    rw [hl y hy]
    exact strict_of hd (hC y.1) (hs y.1 _ (hin y hy))
  · rw [List.getElem?_map] at hi hj
    obtain ⟨y1, h1, rfl⟩ := Option.map_eq_some_iff.1 hi
    obtain ⟨y2, h2, rfl⟩ := Option.map_eq_some_iff.1 hj
    have m1 := List.mem_of_getElem? h1
    have m2 := List.mem_of_getElem? h2
    rw [hl y1 m1] at hx
    rw [hl y2 m2] at hy
    have k1 := (cN_mem.1 ((hC _).mem_iff.1 hx)).2
    have k2 := (cN_mem.1 ((hC _).mem_iff.1 hy)).2
    rw [k1, k2]
    intro e
    obtain ⟨l1, g1⟩ := List.getElem?_eq_some_iff.1 h1
    obtain ⟨l2, g2⟩ := List.getElem?_eq_some_iff.1 h2
    have := (List.getElem_inj (xs := dn.map (fun y => y.1)) (i := i) (j := j) (h₀ := by simpa using l1) (h₁ := by simpa using l2) hnd).1 (by simp only [List.getElem_map, g1, g2]; exact e)
    exact hne this
  · rw [List.mem_range]
    constructor
    · intro hj
      obtain ⟨v, hv⟩ := hcov j hj
      have hvm := hp.mem_iff.2 (alook_mem hv)
      obtain ⟨y, hy, e⟩ := List.mem_map.1 hvm
      refine ⟨y.2.l, List.mem_map.2 ⟨y, hy, rfl⟩, ?_⟩
      rw [hl y hy]
      have : y.1 = K j := congrArg Prod.fst e
      rw [this]
      exact (hC _).mem_iff.2 (cN_mem.2 ⟨hj, rfl⟩)
    · rintro ⟨l, hlm, hj⟩
      obtain ⟨y, hy, rfl⟩ := List.mem_map.1 hlm
      rw [hl y hy] at hj
      exact (cN_mem.1 ((hC _).mem_iff.1 hj)).1
attribute [local irreducible] CG NG SG Vals Der Row Blk MapIs IterAt nameT wrongT
set_option maxHeartbeats 16000000 in
theorem ahead_spec {w : World} {base p : Nat} {v : Value} {room : Int} {ms : List Em} (hP : Pl w base p v room ms) {x y : Nat} (hx : x < ms.length) (hy : y < ms.length) :
    ∃ r : Bool, (r = true ↔ aheadP (pF ms) x y) ∧ Ret Try.prog 73 #[.pointer (some ⟨p, 0, none⟩), .int .i64 (x : Int), .int .i64 (y : Int)] w (.bool r) := by
  refine ⟨(decide (pF ms y < pF ms x)) || ((decide (pF ms x = pF ms y)) && decide (x < y)), by unfold aheadP; simp, ?_⟩
  refine enter3 Try.func73 rfl Try.ntmps73 rfl ?_
  obtain ⟨a, c, rfl, hc, hS⟩ := hP.sl
  obtain ⟨-, q1⟩ := hP.rows
  obtain ⟨g, o1, rfl, hrx⟩ := hS.at hx
  have hry : Row w g (o1 + y * 22) (ec ms[y]) := hS.row (List.getElem?_eq_getElem hy)
  obtain ⟨-, -, -, rx, -⟩ := ec_rows hrx
  obtain ⟨-, -, -, ry, -⟩ := ec_rows hry
  rw [pF_at hx, pF_at hy]
  repeat (first|apply cA|apply cB|apply cD|apply cE|refine cU rfl rfl rfl rfl (by first|(apply qas<;>(exact rfl))|fail) ?_)
  refine CG.tail mixed 19 [0, 1, 2, 3, 4, 5, 6, 7, 8, 9, 10, 11, 12, 13, 14, 15, 16, 17, 18] (by kernel_rfl) ?_
  repeat (refine Der.val rfl rfl rfl (by first|((first|apply qmv|apply qas|apply qlc|apply qfa|apply qnc|apply qix)<;>(first|exact rfl|exact Ar.mk (by omega)|assumption|exact List.not_mem_nil|fail))|fail) ?_)
  refine Der.tl (fun w1 hk1 _ _ => ?_)
  clear rx ry q1 hrx hry
  generalize ms[x].x.t.fee = f1
  generalize ms[y].x.t.fee = f2
  by_cases g1 : f2 < f1
  · have e : ((decide (f2 < f1)) || ((decide (f1 = f2)) && decide (x < y))) = true := by simp [g1]
    rw [e]
    repeat (first | first|apply cA|apply cB|apply cD|apply cE|apply cH|refine cU rfl rfl rfl rfl (by first|((first|apply qmv|apply qas|apply qpk|apply qgt)<;>(first|exact rfl|exact dct (by first|assumption|omega)|fail))|fail) ?_ | refine SG.skip rfl rfl ?_)
    refine ret1 (Or.inl rfl) Try.results73 (by first | exact ResV.tmp rfl | exact ResV.agg rfl rfl (by assumption) (by first | exact dc_length _ | exact nc_length _ | exact rc_length _ _ _ | exact ec_length _ | exact dl_length _ _ _ _ | rfl) | exact ResV.cell rfl rfl (by assumption)) ?_
    exact ⟨rfl, hk1⟩
  · by_cases g2 : f1 = f2
    · by_cases g3 : (x : Int) < (y : Int)
      · have g4 : x < y := by omega
        have e : ((decide (f2 < f1)) || ((decide (f1 = f2)) && decide (x < y))) = true := by simp [g2, g4]
        rw [e]
        repeat (first|apply cA|apply cB|apply cD|apply cE|apply cH|refine cU rfl rfl rfl rfl (by first|((first|apply qmv|apply qas|apply qpk|apply qls|apply qei|apply qgt)<;>(first|exact rfl|exact dct (by first|assumption|omega)|exact dcf (by first|assumption|omega)|fail))|fail) ?_)
        refine ret1 (Or.inl rfl) Try.results73 (by first | exact ResV.tmp rfl | exact ResV.agg rfl rfl (by assumption) (by first | exact dc_length _ | exact nc_length _ | exact rc_length _ _ _ | exact ec_length _ | exact dl_length _ _ _ _ | rfl) | exact ResV.cell rfl rfl (by assumption)) ?_
        exact ⟨rfl, hk1⟩
      · have g4 : ¬ x < y := by omega
        have e : ((decide (f2 < f1)) || ((decide (f1 = f2)) && decide (x < y))) = false := by simp only [decide_eq_false g1, decide_eq_false g4, Bool.and_false, Bool.or_false]
        rw [e]
        repeat (first|apply cA|apply cB|apply cD|apply cE|apply cH|refine cU rfl rfl rfl rfl (by first|((first|apply qmv|apply qas|apply qpk|apply qls|apply qei|apply qgt)<;>(first|exact rfl|exact dct (by first|assumption|omega)|exact dcf (by first|assumption|omega)|fail))|fail) ?_)
        refine ret1 (Or.inl rfl) Try.results73 (by first | exact ResV.tmp rfl | exact ResV.agg rfl rfl (by assumption) (by first | exact dc_length _ | exact nc_length _ | exact rc_length _ _ _ | exact ec_length _ | exact dl_length _ _ _ _ | rfl) | exact ResV.cell rfl rfl (by assumption)) ?_
        exact ⟨rfl, hk1⟩
    · have e : ((decide (f2 < f1)) || ((decide (f1 = f2)) && decide (x < y))) = false := by simp only [decide_eq_false g1, decide_eq_false g2, Bool.false_and, Bool.or_false]
      rw [e]
      repeat (first | first|apply cA|apply cB|apply cD|apply cE|apply cH|refine cU rfl rfl rfl rfl (by first|((first|apply qmv|apply qas|apply qpk|apply qei|apply qgt)<;>(first|exact rfl|exact dcf (by first|assumption|omega)|fail))|fail) ?_ | refine SG.skip rfl rfl ?_)
      refine ret1 (Or.inl rfl) Try.results73 (by first | exact ResV.tmp rfl | exact ResV.agg rfl rfl (by assumption) (by first | exact dc_length _ | exact nc_length _ | exact rc_length _ _ _ | exact ec_length _ | exact dl_length _ _ _ _ | rfl) | exact ResV.cell rfl rfl (by assumption)) ?_
      exact ⟨rfl, hk1⟩
end Go.Proofs.Ytgbgnlboogalgaa
namespace Go.Proofs.Ytgbgnlboogalgaa
open Go.Proofs Go.Shelf Go.Sort
set_option linter.unusedVariables false
theorem nodup_sub {α : Type} : ∀ {l u : List α}, l.Nodup → (∀ x ∈ l, x ∈ u) → l.length ≤ u.length
  | [], u, _, _ => Nat.zero_le _
  | x :: l, u, hn, hs => by
    obtain ⟨X, Y, rfl⟩ := List.append_of_mem (hs x List.mem_cons_self)
    have hn' := List.nodup_cons.1 hn
    have := nodup_sub (l := l) (u := X ++ Y) hn'.2 (fun z hz => by
      have h1 := hs z (List.mem_cons_of_mem _ hz)
      rw [List.mem_append, List.mem_cons] at h1
      rw [List.mem_append]
      rcases h1 with h | rfl | h
      · exact Or.inl h
      · exact absurd hz hn'.1
      · exact Or.inr h)
    simp only [List.length_append, List.length_cons] at this ⊢
    omega
theorem blk_of {w : World} {b : Nat} {o : Obj} (h : w.heap[b]? = some o) : Blk w b o := h
attribute [local irreducible] CG NG SG Vals Der Row Blk MapIs IterAt nameT wrongT
set_option maxHeartbeats 32000000 in
theorem order_spec {w : World} {base p : Nat} {v : Value} {room : Int} {ms : List Em} (hP : Pl w base p v room ms) (hI : PInv room (ms.map Em.en)) (hr : room ≤ 1024) :
    RetO Try.prog 3 nI 1 56 #[.pointer (some ⟨p, 0, none⟩)] w (ordP ms) := by
  refine enter1 Try.func56 rfl Try.ntmps56 rfl ?_
  have hll : ms.length ≤ 1024 := by have := hI.len; rw [List.length_map] at this; omega
  have hb := hI.nb
  repeat (first|apply cA|apply cB|apply cD|apply cE|refine cU rfl rfl rfl rfl (by first|((first|apply qmv|apply qas)<;>(exact rfl))|fail) ?_)
  refine SG.call rfl rfl rfl (vs := [.pointer (some ⟨p, 0, none⟩)]) (by repeat' (first | exact True.intro | exact rho_of rfl | refine And.intro ?_ ?_)) ((keys_spec hP hb (by omega)).mono (fun e w1 hh => ?_))
  obtain ⟨bm, m, C, he, hk1, hM, hR, hC, hsd, hcov, hne⟩ := hh
  refine ⟨_, he, ?_⟩
  clear he
  refine SG.range rfl rfl rfl (by exact rho_of rfl) hM (fun r w2 hk2 hr2 hIt => ?_)
  have s1 := hk1.size
  repeat (first|apply cD|apply cE|apply cG)
  refine CG.loop (X := Value × List (Dg × Hw) × List (Dg × Value) × Option (Dg × Value)) (fun x => [(0, .pointer (some ⟨p, 0, none⟩)), (3, x.1), (12, .pointer (some ⟨r, 0, none⟩))])
    (fun x w' => Kp [] w1 w' ∧ r < w'.heap.size ∧ IterAt w' r bm (dv (n := 8)) (fun v : Value => v) m x.2.2.1 x.2.2.2 ∧ (x.2.1.map (fun y => (y.1, hwv y.2)) ++ x.2.2.1).Perm m ∧ (∀ y ∈ x.2.1, y.2.l = C y.1 ∧ Sl nI 1 w1 y.2.a y.2.l ∧ y.2.l.length ≤ y.2.c) ∧ w'.ownsRow w1.heap.size 105 1 x.1 (x.2.1.map (·.2)).length (flt hwc (x.2.1.map (·.2))))
    (fun x => x.2.2.1.length) (.slice none 0 0, [], m, none) ⟨hk2, hIt.ltr, hIt, by simp, fun y hy => (by cases hy), own_nil⟩ (by (repeat' (first | exact True.intro | exact rfl | refine And.intro ?_ ?_))) ?_
  rintro ⟨hv, dn, left, cur⟩ w3 ⟨hk3, hrs, hI3, hp, hdn, ho3⟩
  simp only at hI3 hp hdn ho3
  refine CG.to [(0, .pointer (some ⟨p, 0, none⟩)), (3, hv), (12, .pointer (some ⟨r, 0, none⟩))] (by (repeat' (first | exact True.intro | exact rfl | refine And.intro ?_ ?_))) ?_
  have s3 := hk3.size
  have hml : m.length ≤ 1024 := by
    have h1 : (m.map (·.1)).Nodup := hM.nodup
    have h2 : ∀ k ∈ m.map (·.1), k ∈ (List.range ms.length).map (pK ms) := fun k hk => by
      obtain ⟨q, hq, rfl⟩ := List.mem_map.1 hk
      have := hne q.1 q.2 (alook_of_mem h1 hq)
      obtain ⟨j, hj⟩ := List.exists_mem_of_ne_nil _ this
      have := cN_mem.1 hj
      exact List.mem_map.2 ⟨j, List.mem_range.2 this.1, this.2⟩
    have h3 := nodup_sub h1 h2
    simp only [List.length_map, List.length_range] at h3
    omega
  have hlen := hp.length_eq
  rw [List.length_append, List.length_map] at hlen
  repeat (first|apply cA|apply cB)
  refine SG.next rfl rfl rfl (by exact rho_of rfl) hI3 (fun h0 => ?_) (fun pre q post w4 hl4 hk4 hI4 => ?_)
  rotate_left
  · have hqm : q ∈ m := hp.mem_iff.1 (by rw [hl4]; simp)
    have hqa : alook m q.1 = some q.2 := alook_of_mem hM.nodup hqm
    obtain ⟨a', c', e', hc', hS'⟩ := Sl.own nI_len (hR.rows _ _ hqa) rfl
    have k4 : Kp [] w1 w4 := hk3.trans_new hk4 (new1 (by have := hk2.size; omega))
    have ho4 := own_kpB ho3 hk4 (fun b hb hm => by
      rw [List.mem_singleton] at hm
      subst hm
      exact IterAt.nown hI3 ho3 (ownB_of hb))
    have s4 := hk4.size
    rw [hl4] at hlen
    simp only [List.length_append, List.length_cons] at hlen
    repeat (first|apply cA|apply cD|apply cE|refine cU rfl rfl rfl rfl (by first|(apply qxt<;>(exact rfl))|fail) ?_)
    refine cV rfl (by exact rho_of rfl) rfl ?_
    repeat (first|apply cA|apply cB|apply cD|apply cE|apply cF|apply cG|refine cU rfl rfl rfl rfl (by first|((first|apply qmv|apply qas|apply qxt|apply qen)<;>(first|exact rfl|assumption|exact List.not_mem_nil))|fail) ?_)
    rw [e']
    refine SG.buildSlice rfl rfl rfl rfl (bsh a' (C q.1).length c') (fun b6 w5 hk5 hb6 hB6 => ?_)
    have hS6 : Sl hwc 1 w5 (some ⟨b6, 0, none⟩) [(⟨a', c', C q.1⟩ : Hw)] := Sl.of_blk (pre := []) (post := []) hwc_len (l := [(⟨a', c', C q.1⟩ : Hw)]) (T := 105) hB6
    have ho5 := own_kp0 ho4 hk5
    skip
    refine SG.appO (enc := hwc) (xs := dn.map (·.2)) (ys := [(⟨a', c', C q.1⟩ : Hw)]) (base := w1.heap.size) rfl rfl rfl (by exact rho_of rfl) (by exact rho_of rfl) rfl rfl rfl rfl hwc_len hwc_one ho5 hS6 (by simp only [maxLen, List.length_cons, List.length_nil, List.length_map]; omega) (by simp only [List.length_cons, List.length_nil, List.length_map]; show (_ + _) * 24 ≤ _; omega) (by have := hk5.size; omega) (fun v' w6 hk6 ho6 hv6 => ?_)
    have hI5 := hI4.kp0 hk5
    have hI6 := hI5.kp hk6 (IterAt.nown hI5 ho5) (MapIs.nown hI5.map ho5)
    repeat (first|apply cD|apply cQ|refine cU rfl rfl rfl rfl (by first|(apply qas<;>(exact rfl))|fail) ?_)
    refine NG.round (v', dn ++ [(q.1, ⟨a', c', C q.1⟩)], pre ++ post, some q) (by (repeat' (first | exact True.intro | exact rfl | refine And.intro ?_ ?_))) ⟨(k4.trans hk5).trans_new hk6 (own_new ho5 (Nat.le_refl _)), hI6.ltr, hI6, ?_, fun y hy => ?_, ?_⟩ ?_
    · simp only [List.map_append, List.map_cons, List.map_nil]
      have e2 : (q.1, hwv ⟨a', c', C q.1⟩) = q := by
        have : hwv ⟨a', c', C q.1⟩ = q.2 := e'.symm
        rw [this]
      rw [e2, List.append_assoc]
      refine List.Perm.trans ?_ hp
      rw [hl4]
      refine List.Perm.append_left _ ?_
      exact (List.perm_middle (l₁ := pre) (l₂ := post) (a := q)).symm
    · simp only at hy
      rcases List.mem_append.1 hy with hy | hy
      · exact hdn y hy
      · rw [List.mem_singleton] at hy
        subst hy
        exact ⟨rfl, hS', hc'⟩
    · simp only [List.map_append, List.map_cons, List.map_nil]
      exact ho6
    · simp only
      rw [hl4]
      simp only [List.length_append, List.length_cons]
      omega
  subst h0
  rw [List.append_nil] at hp
  repeat (first|apply cA|apply cD|apply cE|refine cU rfl rfl rfl rfl (by first|(apply qxt<;>(exact rfl))|fail) ?_)
  refine cX rfl (by exact rho_of rfl) rfl ?_
  have hst := stp_init (F := pF ms) (fun i j hi hj hij hk => dst_at hI hi hj hij hk) hM.nodup hC hsd hcov hp (fun y hy => (hdn y hy).1)
  obtain ⟨H0, hH0⟩ : ∃ H0, H0 = dn.map (·.2) := ⟨_, rfl⟩
  rw [← hH0] at ho3
  have hst : Stp (pK ms) (pN ms) (pF ms) ms.length (H0.map (·.l)) (List.range ms.length) [] := by
    rw [hH0, List.map_map]
    exact hst
  have hH : ∀ h ∈ H0, Sl nI 1 w1 h.a h.l ∧ h.l.length ≤ h.c := fun h hm => by
    rw [hH0] at hm
    obtain ⟨y, hy, rfl⟩ := List.mem_map.1 hm
    exact (hdn y hy).2
  have hH0l : H0.length ≤ 1024 := by
    rw [hH0, List.length_map]
    simp only [List.length_nil] at hlen
    omega
  clear hI3 hR hC hsd hcov hdn hp hM hlen hml hH0 hrs
  have k3 : Kp [] w w3 := hk1.trans hk3
  repeat (first|apply cA|apply cB|apply cD|apply cE|apply cG|apply cJ|apply cK|refine cM rfl ?_|refine cU rfl rfl rfl rfl (by first|(apply qas<;>(exact rfl))|fail) ?_)
  refine CG.loop (X := (Value × List Hw) × (Value × List Nat) × List Nat) (fun x => [(0, .pointer (some ⟨p, 0, none⟩)), (3, x.1.1), (6, x.2.1.1)])
    (fun x w' => Kp [] w1 w' ∧ Stp (pK ms) (pN ms) (pF ms) ms.length (x.1.2.map (·.l)) x.2.2 x.2.1.2 ∧ w'.ownsRow w1.heap.size 105 1 x.1.1 x.1.2.length (flt hwc x.1.2) ∧ w'.ownsRow w1.heap.size 3 1 x.2.1.1 x.2.1.2.length (flt nI x.2.1.2) ∧ (∀ h ∈ x.1.2, Sl nI 1 w1 h.a h.l ∧ h.l.length ≤ h.c) ∧ x.1.2.length ≤ 1024)
    (fun x => x.2.2.length) ((hv, H0), (.slice none 0 0, []), List.range ms.length) ⟨hk3, hst, ho3, own_nil, hH, hH0l⟩ (by (repeat' (first | exact True.intro | exact rfl | refine And.intro ?_ ?_))) ?_
  clear hst hH hH0l ho3 k3 hk3 s3
  rintro ⟨⟨hv, H⟩, ⟨ov, out⟩, R⟩ w3 ⟨hk3, hst, ho3, hoo3, hH, hHl⟩
  simp only at hst ho3 hoo3 hH hHl
  refine CG.to [(0, .pointer (some ⟨p, 0, none⟩)), (3, hv), (6, ov)] (by (repeat' (first | exact True.intro | exact rfl | refine And.intro ?_ ?_))) ?_
  have k3 : Kp [] w w3 := hk1.trans hk3
  have s3 := hk3.size
  have hP3 := hP.kp0 k3
  obtain ⟨a, c, rfl, hc, hS⟩ := hP3.sl
  obtain ⟨-, q1⟩ := hP3.rows
  obtain ⟨ao, co, rfl, hco, hSo⟩ := Sl.own nI_len hoo3 rfl
  by_cases hlt : out.length < ms.length
  rotate_left
  · have g1 : ¬ (out.length : Int) < (ms.length : Int) := by omega
    have hord := (hst.last hlt).eq
    repeat (first|apply cA|apply cB|apply cD|apply cE|refine cU rfl rfl rfl rfl (by first|((first|apply qmv|apply qlc|apply qfa|apply qnc|apply qls|apply qln)<;>(first|exact rfl|assumption|exact dcf (by first|assumption|omega)|exact List.not_mem_nil|fail))|fail) ?_)
    refine cX rfl (by exact rho_of rfl) rfl ?_
    repeat (first|apply cA|apply cB|apply cD|apply cE|apply cH|apply cJ|apply cK|refine cM rfl ?_|refine cU rfl rfl rfl rfl (by first|((first|apply qmv|apply qas)<;>(exact rfl))|fail) ?_)
    refine ret1 (Or.inl rfl) Try.results56 (by first | exact ResV.tmp rfl | exact ResV.agg rfl rfl (by assumption) (by first | exact dc_length _ | exact nc_length _ | exact rc_length _ _ _ | exact ec_length _ | exact dl_length _ _ _ _ | rfl) | exact ResV.cell rfl rfl (by assumption)) ?_
    refine ⟨_, rfl, ?_, k3⟩
    unfold ordP
    rw [hord]
    exact own_mono hoo3 s1
  have g1 : (out.length : Int) < (ms.length : Int) := by omega
  have hful := hst.full hlt
  have hHpos : 0 < H.length := by
    obtain ⟨l, hl, _⟩ := hful
    obtain ⟨h, hh, _⟩ := List.mem_map.1 hl
    exact List.length_pos_of_mem hh
  obtain ⟨gh, caph, rfl, hch⟩ := own_slice ho3 hHpos
  repeat (first|apply cA|apply cB|apply cD|apply cE|refine cU rfl rfl rfl rfl (by first|((first|apply qmv|apply qlc|apply qfa|apply qnc|apply qls|apply qln)<;>(first|exact rfl|assumption|exact dct (by first|assumption|omega)|exact List.not_mem_nil|fail))|fail) ?_)
  refine cV rfl (by exact rho_of rfl) rfl ?_
  repeat (first|apply cA|apply cB|apply cD|apply cE|apply cF|apply cG|refine cU rfl rfl rfl rfl (by first|((first|apply qmv|apply qas|apply qln)<;>(exact rfl))|fail) ?_)
  clear q1
  refine CG.loop (X := Nat × Int) (fun x => [(0, .pointer (some ⟨p, 0, none⟩)), (3, .slice (some ⟨gh, 0, none⟩) H.length caph), (6, .slice ao out.length co), (7, .int .i64 x.2), (29, .slice (some ⟨gh, 0, none⟩) H.length caph), (30, .int .i64 (H.length : Int)), (31, .int .i64 (x.1 : Int))])
    (fun x w' => x.1 ≤ H.length ∧ Kp [] w3 w' ∧ InB (pF ms) (H.map (·.l)) x.1 x.2) (fun x => H.length - x.1) (0, -1) ⟨Nat.zero_le _, Kp.refl _ _, InB.init _⟩ (by (repeat' (first | exact True.intro | exact rfl | refine And.intro ?_ ?_))) ?_
  rintro ⟨k, z⟩ w4 ⟨hk, hk4, hin⟩
  simp only at hk hin
  refine CG.to [(0, .pointer (some ⟨p, 0, none⟩)), (3, .slice (some ⟨gh, 0, none⟩) H.length caph), (6, .slice ao out.length co), (7, .int .i64 z), (29, .slice (some ⟨gh, 0, none⟩) H.length caph), (30, .int .i64 (H.length : Int)), (31, .int .i64 (k : Int))] (by (repeat' (first | exact True.intro | exact rfl | refine And.intro ?_ ?_))) ?_
  have k14 := hk3.trans hk4
  have ho4 := own_kp0 ho3 hk4
  have hP4 := hP3.kp0 hk4
  have hrow : ∀ j (hj : j < H.length), Row w4 gh (0 + j * 1) [hwv H[j]] := fun j hj => own_at hwc_len ho4 rfl hj
  by_cases hkl : k < H.length
  · have g2 : (k : Int) < (H.length : Int) := by omega
    have hrk := hrow k hkl
    have hgk : (H.map (·.l))[k]? = some H[k].l := by rw [List.getElem?_map, List.getElem?_eq_getElem hkl]; rfl
    obtain ⟨hSk, hck⟩ := hH _ (List.getElem_mem hkl)
    have hSk := hSk.kp0 k14
    unfold hwv at hrk
    rcases hHk : H[k] with ⟨ak, ck, lk⟩
    rw [hHk] at hrk hgk hSk
    simp only at hrk hgk hSk
    repeat (first|apply cA|apply cB|apply cD|apply cE|refine cU rfl rfl rfl rfl (by first|(apply qls<;>(first|exact rfl|exact dct (by first|assumption|omega)|fail))|fail) ?_)
    refine cV rfl (by exact rho_of rfl) rfl ?_
    repeat (first|apply cA|apply cB|apply cD|apply cE|apply cF|apply cG|refine cU rfl rfl rfl rfl (by first|((first|apply qmv|apply qas|apply qlc|apply qix)<;>(first|exact rfl|exact Ar.mk (by omega)|assumption|exact List.not_mem_nil|fail))|fail) ?_)
    cases lk with
    | nil =>
      have g3 : ¬ (0 : Int) < (([] : List Nat).length : Int) := by simp
      refine CG.tail mixed 17 [0, 1, 2, 3, 4, 5, 6, 7, 8, 9, 10, 11, 12, 13, 14, 15, 16] (by kernel_rfl) ?_
      repeat (first | refine Der.val rfl rfl rfl (by first|((first|apply qmv|apply qln|apply qgt)<;>(first|exact rfl|exact dcf (by first|assumption|omega)|fail))|fail) ?_ | refine Der.skip rfl rfl ?_)
      refine Der.tl (fun w5 hk5 _ _ => ?_)
      repeat (first | first|apply cD|apply cE|refine cU rfl rfl rfl rfl (by first|(apply qpk<;>(exact rfl))|fail) ?_ | refine SG.skip rfl rfl ?_)
      refine cX rfl (by exact rho_of rfl) rfl ?_
      repeat (first|apply cB|apply cD|apply cE|apply cF|apply cQ|refine cU rfl rfl rfl rfl (by first|((first|apply qmv|apply qad)<;>(first|exact rfl|exact Ar.mk (by omega)|fail))|fail) ?_)
      refine NG.round (k + 1, z) (by (repeat' (first | exact True.intro | exact rfl | refine And.intro ?_ ?_))) ⟨by simp only; omega, hk4.trans hk5, hin.skip hgk⟩ (by simp only; omega)
    | cons x tk =>
      have g3 : (0 : Int) < ((x :: tk).length : Int) := by simp only [List.length_cons]; omega
      obtain ⟨gk, ok, rfl, hr0⟩ := hSk.at (i := 0) (by simp)
      simp only [List.getElem_cons_zero] at hr0
      have hxm : x < ms.length := hst.lt x ((hst.mem x).2 ⟨_, List.mem_of_getElem? hgk, List.mem_cons_self⟩)
      have hcase : z = -1 ∨ ∃ (b a : Nat) (t : List Nat), z = (b : Int) ∧ (H.map (·.l))[b]? = some (a :: t) := by
        cases hin with
        | no h => exact Or.inl rfl
        | att b a t h1 h2 h3 => exact Or.inr ⟨b, a, t, rfl, h2⟩
      rcases hcase with rfl | ⟨b, aa, t, rfl, hgb⟩
      · have g4 : (-1 : Int) < 0 := by omega
        refine CG.tail mixed 17 [0, 1, 2, 3, 4, 5, 6, 7, 8, 9, 10, 11, 12, 13, 14, 15, 16] (by kernel_rfl) ?_
        repeat (first | refine Der.val rfl rfl rfl (by first|((first|apply qmv|apply qls|apply qln|apply qgt)<;>(first|exact rfl|exact dct (by first|assumption|omega)|fail))|fail) ?_ | refine Der.skip rfl rfl ?_)
        refine Der.tl (fun w5 hk5 _ _ => ?_)
        repeat (first | first|apply cD|apply cE|refine cU rfl rfl rfl rfl (by first|(apply qpk<;>(exact rfl))|fail) ?_ | refine SG.skip rfl rfl ?_)
        refine cV rfl (by exact rho_of rfl) rfl ?_
        repeat (first|apply cB|apply cD|apply cE|apply cQ|refine cU rfl rfl rfl rfl (by first|((first|apply qmv|apply qas|apply qad)<;>(first|exact rfl|exact Ar.mk (by omega)|fail))|fail) ?_)
        refine NG.round (k + 1, (k : Int)) (by (repeat' (first | exact True.intro | exact rfl | refine And.intro ?_ ?_))) ⟨by simp only; omega, hk4.trans hk5, hin.first hgk⟩ (by simp only; omega)
      · have hbl : b < H.length := by
          have := (List.getElem?_eq_some_iff.1 hgb).1
          simpa using this
        have g4 : ¬ (b : Int) < 0 := by omega
        have g5 : (b : Int) < (H.length : Int) := by omega
        have hrb := hrow b hbl
        obtain ⟨hSb, -⟩ := hH _ (List.getElem_mem hbl)
        have hSb := hSb.kp0 k14
        have hgb' : H[b].l = aa :: t := by
          rw [List.getElem?_map, List.getElem?_eq_getElem hbl] at hgb
          simpa using hgb
        unfold hwv at hrb
        rcases hHb : H[b] with ⟨ab, cb, lb⟩
        rw [hHb] at hrb hgb' hSb
        simp only at hrb hgb' hSb
        subst hgb'
        obtain ⟨gb, ob, rfl, hs0⟩ := hSb.at (i := 0) (by simp)
        simp only [List.getElem_cons_zero] at hs0
        have ham : aa < ms.length := hst.lt aa ((hst.mem aa).2 ⟨_, List.mem_of_getElem? hgb, List.mem_cons_self⟩)
        have g6 : (0 : Int) < ((aa :: t).length : Int) := by simp only [List.length_cons]; omega
        refine CG.tail mixed 17 [0, 1, 2, 3, 4, 5, 6, 7, 8, 9, 10, 11, 12, 13, 14, 15, 16] (by kernel_rfl) ?_
        repeat (refine Der.val rfl rfl rfl (by first|((first|apply qmv|apply qlc|apply qic|apply qix|apply qls|apply qln|apply qgt)<;>(first|exact rfl|exact Ar.mk (by omega)|assumption|exact dct (by first|assumption|omega)|exact dcf (by first|assumption|omega)|exact List.not_mem_nil|fail))|fail) ?_)
        refine Der.tl (fun w5 hk5 _ _ => ?_)
        obtain ⟨rr, hrr, hret⟩ := ahead_spec (hP4.kp0 hk5) hxm ham
        skip
        refine SG.ret rfl rfl rfl (vs := [.pointer (some ⟨p, 0, none⟩), .int .i64 (x : Int), .int .i64 (aa : Int)]) (by repeat' (first | exact True.intro | exact rho_of rfl | refine And.intro ?_ ?_)) hret (fun w6 hk6 => ?_)
        have k46 := (hk4.trans hk5).trans hk6
        cases rr with
        | true =>
          repeat (first|apply cD|apply cE|refine cU rfl rfl rfl rfl (by first|(apply qpk<;>(exact rfl))|fail) ?_)
          refine cV rfl (by exact rho_of rfl) rfl ?_
          repeat (first|apply cB|apply cD|apply cE|apply cQ|refine cU rfl rfl rfl rfl (by first|((first|apply qmv|apply qas|apply qad)<;>(first|exact rfl|exact Ar.mk (by omega)|fail))|fail) ?_)
          refine NG.round (k + 1, (k : Int)) (by (repeat' (first | exact True.intro | exact rfl | refine And.intro ?_ ?_))) ⟨by simp only; omega, k46, hin.turn hgb hgk (hrr.1 rfl)⟩ (by simp only; omega)
        | false =>
          repeat (first|apply cD|apply cE|refine cU rfl rfl rfl rfl (by first|(apply qpk<;>(exact rfl))|fail) ?_)
          refine cX rfl (by exact rho_of rfl) rfl ?_
          repeat (first|apply cB|apply cD|apply cE|apply cF|apply cQ|refine cU rfl rfl rfl rfl (by first|((first|apply qmv|apply qad)<;>(first|exact rfl|exact Ar.mk (by omega)|fail))|fail) ?_)
          refine NG.round (k + 1, (b : Int)) (by (repeat' (first | exact True.intro | exact rfl | refine And.intro ?_ ?_))) ⟨by simp only; omega, k46, hin.keep hgb hgk (fun h => by have := hrr.2 h; cases this)⟩ (by simp only; omega)
  · have hke : k = (H.map (·.l)).length := by rw [List.length_map]; omega
    have g2 : ¬ (k : Int) < (H.length : Int) := by omega
    have hin' := hin
    rw [hke] at hin'
    obtain ⟨b, aa, t, rfl, hgb, hbest⟩ := hin'.get hful
    have hbl : b < H.length := by
      have := (List.getElem?_eq_some_iff.1 hgb).1
      simpa using this
    obtain ⟨R', hst', hR'⟩ := hst.step hgb hbest
    have g5 : (b : Int) < (H.length : Int) := by omega
    have hrb := hrow b hbl
    obtain ⟨hSb, hcb⟩ := hH _ (List.getElem_mem hbl)
    have hgb' : H[b].l = aa :: t := by
      rw [List.getElem?_map, List.getElem?_eq_getElem hbl] at hgb
      simpa using hgb
    unfold hwv at hrb
    rcases hHb : H[b] with ⟨ab, cb, lb⟩
    rw [hHb] at hrb hgb' hSb hcb
    simp only at hrb hgb' hSb hcb
    subst hgb'
    have hSb4 := hSb.kp0 k14
    obtain ⟨gb, ob, rfl, hs0⟩ := hSb4.at (i := 0) (by simp)
    simp only [List.getElem_cons_zero] at hs0
    have g6 : (0 : Int) < ((aa :: t).length : Int) := by simp only [List.length_cons]; omega
    have hol : out.length ≤ 1024 := by have := hst.len; omega
    have hoo4 := own_kp0 hoo3 hk4
    repeat (first|apply cA|apply cB|apply cD|apply cE|refine cU rfl rfl rfl rfl (by first|(apply qls<;>(first|exact rfl|exact dcf (by first|assumption|omega)|fail))|fail) ?_)
    refine cX rfl (by exact rho_of rfl) rfl ?_
    repeat (first|apply cA|apply cB|apply cE|apply cJ|apply cK|refine cM rfl ?_|refine cU rfl rfl rfl rfl (by first|((first|apply qmv|apply qlc|apply qic|apply qix)<;>(first|exact rfl|exact Ar.mk (by omega)|assumption|exact List.not_mem_nil|fail))|fail) ?_)
    refine SG.buildSlice rfl rfl rfl rfl (bsi (aa : Int)) (fun b6 w5 hk5 hb6 hB6 => ?_)
    have hS6 : Sl nI 1 w5 (some ⟨b6, 0, none⟩) [aa] := Sl.of_blk (pre := []) (post := []) nI_len (l := [aa]) (T := 3) hB6
    clear hrb hs0
    skip
    refine SG.appO (enc := nI) (xs := out) (ys := [aa]) (base := w1.heap.size) rfl rfl rfl (by exact rho_of rfl) (by exact rho_of rfl) rfl rfl rfl rfl nI_len nI_one (own_kp0 hoo4 hk5) hS6 (by simp only [maxLen, List.length_cons, List.length_nil]; omega) (by simp only [List.length_cons, List.length_nil]; show (_ + _) * 8 ≤ _; omega) (by have := (k14.trans hk5).size; omega) (fun v' w6 hk6 ho6 hv6 => ?_)
    have hdis : ∀ g, (Value.slice (some ⟨gh, 0, none⟩) H.length caph).ownBlock = some g → g ∉ ownB (.slice ao out.length co) := fun g hg hm => by
      obtain ⟨cs, T, hT, hB⟩ : ∃ cs T, T = 105 ∧ Blk w4 g (.cells cs T) := by
        rcases ho4.2 with ⟨e, _⟩ | ⟨g', cap, cur, e, _, hg', _⟩
        · cases e
        · cases e
          cases hg
          exact ⟨_, _, rfl, blk_of hg'⟩
      subst hT
      exact own_neb hoo4 (by decide) hB g (ownB_mem hm) List.mem_cons_self
    have ho5 := own_kp0 ho4 hk5
    have ho6h := own_kpB ho5 hk6 hdis
    have k16 : Kp [] w1 w6 := (k14.trans hk5).trans_new hk6 (own_new hoo4 (Nat.le_refl _))
    have hrb6 : Row w6 gh (0 + b * 1) (hwc H[b]) := own_at hwc_len ho6h rfl hbl
    rw [hHb] at hrb6
    unfold hwc hwv at hrb6
    simp only at hrb6
    repeat (first|apply cB|apply cD|apply cE|refine cU rfl rfl rfl rfl (by first|((first|apply qmv|apply qas|apply qlc|apply qix)<;>(first|exact rfl|exact Ar.mk (by omega)|assumption|exact List.not_mem_nil|fail))|fail) ?_)
    refine cU rfl rfl rfl rfl (qfr (j := 1) rfl rfl rfl (Ar.mk (by simp only [List.length_cons]; omega))) ?_
    repeat (first|refine cU rfl rfl rfl rfl (by first|(apply qix<;>(first|exact rfl|exact Ar.mk (by omega)|fail))|fail) ?_)
    obtain ⟨y, hy⟩ : ∃ y : Hw, y = ⟨some ⟨gb, if cb = 1 then ob else ob + 1 * 1, none⟩, cb - 1, t⟩ := ⟨_, rfl⟩
    refine SG.storeV (k := b) (y := y) (vy := .slice (some ⟨gb, if cb = 1 then ob else ob + 1 * 1, none⟩) t.length (cb - 1)) hwc_len hwc_one rfl rfl (by exact rho_of rfl) rfl (by exact rho_of rfl) (by rw [hy]; rfl) ho6h rfl hbl (fun w7 hk7 ho7 => ?_)
    repeat (first|apply cD|apply cQ)
    refine NG.round ((.slice (some ⟨gh, 0, none⟩) H.length caph, H.set b y), (v', out ++ [aa]), R') (by (repeat' (first | exact True.intro | exact rfl | refine And.intro ?_ ?_))) ⟨k16.trans_new hk7 (fun z hz => ?_), ?_, ?_, ?_, fun h hh => ?_, ?_⟩ (by simp only; omega)
    · rw [List.mem_singleton] at hz
      subst hz
      exact Or.inr (own_geB ho4 _ rfl)
    · simp only
      rw [List.map_set, hy]
      exact hst'
    · simp only
      rw [List.length_set]
      exact ho7
    · simp only
      refine own_kpB ho6 hk7 (fun g hg hm => ?_)
      rw [List.mem_singleton] at hm
      subst hm
      obtain ⟨cs, T, hT, hB⟩ : ∃ cs T, T = 105 ∧ Blk w6 g (.cells cs T) := by
        rcases ho6h.2 with ⟨e, _⟩ | ⟨g', cap, cur, e, _, hg', _⟩
        · cases e
        · cases e
          exact ⟨_, _, rfl, blk_of hg'⟩
      subst hT
      exact own_neb ho6 (by decide) hB g hg List.mem_cons_self
    · simp only at hh
      rcases List.mem_or_eq_of_mem_set hh with hh | rfl
      · exact hH h hh
      · rw [hy]
        refine ⟨drop_sl hSb hcb, ?_⟩
        simp only [List.length_cons] at hcb ⊢
        omega
    · simp only [List.length_set]
      exact hHl
end Go.Proofs.Ytgbgnlboogalgaa
namespace Go.Proofs.Ytgbgnlboogalgaa
set_option linter.unusedVariables false
def noE : En := ⟨⟨zd, 0, 0, 0, [], []⟩, 0⟩
def enA (l : List En) (j : Nat) : En := (l[j]?).getD noE
theorem enA_at {l : List En} {j : Nat} (h : j < l.length) : enA l j = l[j] := by unfold enA; rw [List.getElem?_eq_getElem h]; rfl
noncomputable def ordE (l : List En) : List En := ordL En.key En.non En.fee l
theorem range_enA (l : List En) : (List.range l.length).map (enA l) = l := by
  apply List.ext_getElem?
  intro i
  rw [List.getElem?_map]
  by_cases h : i < l.length
  · rw [List.getElem?_eq_getElem (by simpa using h), List.getElem_range, List.getElem?_eq_getElem h, Option.map_some, enA_at h]
  · rw [List.getElem?_eq_none (by simpa using h), List.getElem?_eq_none (by omega)]
    rfl
theorem pK_enA (ms : List Em) : pK ms = fun j => En.key (enA (ms.map Em.en) j) := by
  funext j
  unfold pK enA
  rw [List.getElem?_map]
  cases ms[j]? <;> rfl
theorem pN_enA (ms : List Em) : pN ms = fun j => En.non (enA (ms.map Em.en) j) := by
  funext j
  unfold pN enA
  rw [List.getElem?_map]
  cases ms[j]? <;> rfl
theorem pF_enA (ms : List Em) : pF ms = fun j => En.fee (enA (ms.map Em.en) j) := by
  funext j
  unfold pF enA
  rw [List.getElem?_map]
  cases ms[j]? <;> rfl
theorem ordP_map (ms : List Em) : (ordP ms).map (enA (ms.map Em.en)) = ordE (ms.map Em.en) := by
  have h : Ord (pK ms) (pN ms) (pF ms) (List.range ms.length) (ordP ms) := ordL_spec _
  rw [pK_enA, pN_enA, pF_enA] at h
  have h2 := Ord.map (key := En.key) (non := En.non) (fee := En.fee) (enA (ms.map Em.en)) h
  have e : (List.range ms.length).map (enA (ms.map Em.en)) = ms.map Em.en := by
    have := range_enA (ms.map Em.en)
    rwa [List.length_map] at this
  rw [e] at h2
  exact h2.eq.symm
theorem ordP_perm (ms : List Em) : (ordP ms).Perm (List.range ms.length) := ordL_perm _
theorem ordP_lt {ms : List Em} {j : Nat} (h : j ∈ ordP ms) : j < ms.length := List.mem_range.1 ((ordP_perm ms).mem_iff.1 h)
theorem ordP_length (ms : List Em) : (ordP ms).length = ms.length := by rw [(ordP_perm ms).length_eq, List.length_range]
def pickL (g : List Nat → Nat → Bool) : List Nat → List Nat → List Nat
  | _, [] => []
  | pre, j :: r => if g pre j then j :: pickL g (pre ++ [j]) r else pickL g (pre ++ [j]) r
theorem pickL_append (g : List Nat → Nat → Bool) : ∀ (pre a b : List Nat), pickL g pre (a ++ b) = pickL g pre a ++ pickL g (pre ++ a) b
  | pre, [], b => by simp [pickL]
  | pre, j :: a, b => by
    simp only [List.cons_append, pickL]
    rw [pickL_append g (pre ++ [j]) a b]
    have e : pre ++ [j] ++ a = pre ++ j :: a := by simp
    rw [e]
    split <;> simp
theorem pickL_one (g : List Nat → Nat → Bool) (pre : List Nat) (j : Nat) : pickL g pre [j] = if g pre j then [j] else [] := by
  simp only [pickL]
theorem pickL_filter (q : Nat → Bool) : ∀ (pre l : List Nat), pickL (fun _ j => q j) pre l = l.filter q
  | pre, [] => rfl
  | pre, j :: l => by
    simp only [pickL]
    rw [pickL_filter q]
    by_cases h : q j = true
    · rw [if_pos h, List.filter_cons_of_pos h]
    · rw [if_neg h, List.filter_cons_of_neg h]
theorem pickL_le (g : List Nat → Nat → Bool) : ∀ (pre l : List Nat), (pickL g pre l).length ≤ l.length
  | pre, [] => Nat.le_refl _
  | pre, j :: l => by
    have := pickL_le g (pre ++ [j]) l
    simp only [pickL]
    split <;> simp only [List.length_cons] <;> omega
theorem map_filter {ms : List Em} (q : En → Bool) : ((ordP ms).filter (fun j => q (enA (ms.map Em.en) j))).map (enA (ms.map Em.en)) = (ordE (ms.map Em.en)).filter q := by
  rw [← ordP_map, List.filter_map]
  rfl
section
variable {κ : Type} [DecidableEq κ]
def MaxM (m : List (κ × Int)) (L : List (κ × Int)) : Prop := ∀ k z, (∃ n, alook m k = some n ∧ z ≤ n) ↔ ∃ p ∈ L, p.1 = k ∧ z ≤ p.2
def MinM (m : List (κ × Int)) (L : List (κ × Int)) : Prop := ∀ k z, (∃ n, alook m k = some n ∧ n ≤ z) ↔ ∃ p ∈ L, p.1 = k ∧ p.2 ≤ z
theorem MaxM.nil : MaxM ([] : List (κ × Int)) [] := fun k z => by
  constructor
  · rintro ⟨n, h, _⟩; cases h
  · rintro ⟨p, h, _⟩; cases h
theorem MaxM.keep {m L : List (κ × Int)} {k : κ} {z n : Int} (h : MaxM m L) (hk : alook m k = some n) (hn : ¬ n < z) : MaxM m (L ++ [(k, z)]) := fun k' z' => by
  rw [h k' z']
  constructor
  · rintro ⟨p, h1, h2⟩; exact ⟨p, List.mem_append_left _ h1, h2⟩
  · rintro ⟨p, h1, h2, h3⟩
    rcases List.mem_append.1 h1 with h1 | h1
    · exact ⟨p, h1, h2, h3⟩
    · rw [List.mem_singleton] at h1
      subst h1
      simp only at h2 h3
      subst h2
      exact (h k z').1 ⟨n, hk, by omega⟩
theorem MaxM.put {m L : List (κ × Int)} {k : κ} {z : Int} (h : MaxM m L) (hn : ∀ n, alook m k = some n → n < z) : MaxM (aput m k z) (L ++ [(k, z)]) := fun k' z' => by
  rw [alook_put]
  by_cases e : k = k'
  · subst e
    rw [if_pos rfl]
    constructor
    · rintro ⟨n, h1, h2⟩
      cases h1
      exact ⟨(k, z), by simp, rfl, h2⟩
    · rintro ⟨p, h1, h2, h3⟩
      rcases List.mem_append.1 h1 with h1 | h1
      · obtain ⟨n, g1, g2⟩ := (h k z').2 ⟨p, h1, h2, h3⟩
        have := hn n g1
        exact ⟨z, rfl, by omega⟩
      · rw [List.mem_singleton] at h1
        subst h1
        exact ⟨z, rfl, h3⟩
  · rw [if_neg e, h k' z']
    constructor
    · rintro ⟨p, h1, h2⟩; exact ⟨p, List.mem_append_left _ h1, h2⟩
    · rintro ⟨p, h1, h2, h3⟩
      rcases List.mem_append.1 h1 with h1 | h1
      · exact ⟨p, h1, h2, h3⟩
      · rw [List.mem_singleton] at h1
        subst h1
        exact absurd h2 e
end
def hasN (d : Dg) (e : En) : Bool := decide (nameT e.t = d)
noncomputable def findE (l : List En) (d : Dg) : Option En := (ordE l).find? (hasN d)
def nmP (ms : List Em) (d : Dg) (j : Nat) : Bool := hasN d (enA (ms.map Em.en) j)
/-- The place of the first one of a name in the order. -/
noncomputable def namedZ (ms : List Em) (d : Dg) : Int := ((ordP ms).find? (nmP ms d)).elim (-1) (fun j => (j : Int))
end Go.Proofs.Ytgbgnlboogalgaa
namespace Go.Proofs.Ytgbgnlboogalgaa
open Go.Proofs
set_option linter.unusedVariables false
def isN (d : Dg) (e : Em) : Bool := decide (nameT e.x.t = d)
/-- One has gone. -/
noncomputable def dropN (l : List En) (d : Dg) : List En := match findE l d with
  | some e => l.eraseIdx (likeN l e.key e.non)
  | none => l
attribute [local irreducible] CG NG SG Vals Der Row Blk MapIs IterAt nameT wrongT
end Go.Proofs.Ytgbgnlboogalgaa
namespace Go.Proofs.Ytgbgnlboogalgaa
open Go.Proofs
set_option linter.unusedVariables false
/-- Transactions that a caller may dispose of. -/
structure TxsO (w : World) (base : Nat) (v : Value) (xs : List Tm) : Prop where
  own : w.ownsRow base 35 13 v xs.length (flt txc xs)
  ins : ∀ x ∈ xs, x.In 0 w
theorem TxsO.nil {w : World} {base : Nat} : TxsO w base (.slice none 0 0) [] := ⟨own_nil, fun x h => (by cases h)⟩
theorem TxsO.kp {w w' : World} {base : Nat} {v : Value} {xs : List Tm} {S : List Nat} (h : TxsO w base v xs) (hk : Kp S w w') (hv : ∀ b, v.ownBlock = some b → b ∉ S) (hO : Oth 0 w S) : TxsO w' base v xs :=
  ⟨own_kpB h.own hk hv, fun x hx => (h.ins x hx).kpO hk hO⟩
theorem TxsO.kp0 {w w' : World} {base : Nat} {v : Value} {xs : List Tm} (h : TxsO w base v xs) (hk : Kp [] w w') : TxsO w' base v xs := h.kp hk (fun _ _ => List.not_mem_nil) Oth.nil
theorem TxsO.sl {w : World} {base : Nat} {v : Value} {xs : List Tm} (h : TxsO w base v xs) : ∃ a c, v = .slice a xs.length c ∧ xs.length ≤ c ∧ Sl txc 13 w a xs := Sl.own txc_length h.own rfl
theorem own_apT {w : World} {base base' n n' sz sz' : Nat} {T T' : TypeId} {v v' : Value} {xs xs' : List Value} (ho : w.ownsRow base T sz v n xs) (ho' : w.ownsRow base' T' sz' v' n' xs') (hT : T ≠ T') : ∀ b, v.ownBlock = some b → b ∉ ownB v' := fun b hb hm => by
  have hm := ownB_mem hm
  rcases ho.2 with ⟨rfl, _⟩ | ⟨g, cap, cur, rfl, _, hg, _⟩
  · cases hb
  · cases hb
    rcases ho'.2 with ⟨rfl, _⟩ | ⟨g', cap', cur', rfl, _, hg', _⟩
    · cases hm
    · cases hm
      rw [hg] at hg'
      cases hg'
      exact hT rfl
set_option maxHeartbeats 4000000 in
theorem bstx' (w : World) (a0 a1 a2 a3 a4 a5 a6 a7 : UInt8) (n f k : Int) (x1 x2 : Option Addr) (m1 m2 c1' c2' : Nat) :
    (Instr.buildSlice 22 1 #[(0, .agg #[bv a0, bv a1, bv a2, bv a3, bv a4, bv a5, bv a6, bv a7, .int .i64 n, .int .i64 f, .int .i64 k, .slice x1 m1 c1', .slice x2 m2 c2'])]).run Try.prog w = .ok (.slice (some ⟨w.heap.size, 0, none⟩) 1 1) { w with heap := w.heap.push (.cells #[bv a0, bv a1, bv a2, bv a3, bv a4, bv a5, bv a6, bv a7, .int .i64 n, .int .i64 f, .int .i64 k, .slice x1 m1 c1', .slice x2 m2 c2'] 35) } := by kernel_rfl
theorem bstx (x : Tm) (w : World) : (Instr.buildSlice 22 1 #[(0, txv x)]).run Try.prog w = .ok (.slice (some ⟨w.heap.size, 0, none⟩) 1 1) { w with heap := w.heap.push (.cells (txc x).toArray 35) } := by
  obtain ⟨⟨⟨l, hl⟩, n, f, k, b, g⟩, a1, c1, a2, c2⟩ := x
  match l, hl with
  | [x0, x1, x2, x3, x4, x5, x6, x7], _ => exact bstx' w x0 x1 x2 x3 x4 x5 x6 x7 n f k a1 a2 b.length g.length c1 c2
attribute [local irreducible] CG NG SG Vals Der Row Blk MapIs IterAt nameT wrongT
set_option maxHeartbeats 16000000 in
theorem pick_spec {w : World} {base p : Nat} {v : Value} {room : Int} {ms : List Em} (hP : Pl w base p v room ms) (hI : PInv room (ms.map Em.en)) (hr : room ≤ 1024) {f : FuncId} [Fn : Fnc Try.prog f] {caps : List Value} {g : List Nat → Nat → Bool} {S : List Nat} (J : List Nat → World → Prop)
    (hJ0 : J [] w) (hJk : ∀ pre W W' T, (∀ b ∈ T, w.heap.size ≤ b) → Kp T W W' → J pre W → J pre W') (hPS : ∀ W, Kp S w W → Pl W base p v room ms) (hSlt : ∀ b ∈ S, b < w.heap.size) (hSO : ∀ pre W, J pre W → Oth 0 W S)
    (hcall : ∀ pre j (hj : j < ms.length) W, ordP ms = pre ++ j :: (ordP ms).drop (pre.length + 1) → Kp S w W → J pre W → Calls Try.prog f (ev ms[j] :: caps).toArray W (fun e w' => e = .returned (.bool (g pre j)) ∧ Kp S W w' ∧ J (pre ++ [j]) w')) :
    Calls Try.prog 33 #[.pointer (some ⟨p, 0, none⟩), fnv f caps] w (fun e w' => ∃ v' xs, e = .returned v' ∧ Kp S w w' ∧ TxsO w' w.heap.size v' xs ∧ xs.map (·.t) = (pickL g [] (ordP ms)).map (fun j => (enA (ms.map Em.en) j).t) ∧ J (ordP ms) w') := by
  refine enter2 Try.func33 rfl Try.ntmps33 rfl ?_
  have hll : ms.length ≤ 1024 := by have := hI.len; rw [List.length_map] at this; omega
  repeat (first|apply cA|apply cB|apply cD|apply cE|refine cU rfl rfl rfl rfl (by first|((first|apply qmv|apply qas)<;>(exact rfl))|fail) ?_)
  refine SG.call rfl rfl rfl (vs := [.pointer (some ⟨p, 0, none⟩)]) (by repeat' (first | exact True.intro | exact rho_of rfl | refine And.intro ?_ ?_)) ((order_spec hP hI hr).mono (fun e w1 hh => ?_))
  obtain ⟨vo, he, ho1, hk1⟩ := hh
  refine ⟨_, he, ?_⟩
  clear he
  have hol := ordP_length ms
  obtain ⟨ao, co, rfl, hco, -⟩ := Sl.own nI_len ho1 rfl
  have hJ1 := hJk [] w w1 [] (fun b hb => by cases hb) hk1 hJ0
  have s1 := hk1.size
  repeat (first|apply cD|apply cE|apply cG|refine cU rfl rfl rfl rfl (by first|((first|apply qmv|apply qln)<;>(exact rfl))|fail) ?_)
  refine CG.loop (X := Nat × (Value × List Tm)) (fun x => [(0, .pointer (some ⟨p, 0, none⟩)), (1, fnv f caps), (5, x.2.1), (9, .slice ao (ordP ms).length co), (10, .int .i64 ((ordP ms).length : Int)), (11, .int .i64 (x.1 : Int))])
    (fun x w' => x.1 ≤ (ordP ms).length ∧ Kp S w w' ∧ J ((ordP ms).take x.1) w' ∧ TxsO w' w.heap.size x.2.1 x.2.2 ∧ x.2.2.map (·.t) = (pickL g [] ((ordP ms).take x.1)).map (fun j => (enA (ms.map Em.en) j).t) ∧ w'.ownsRow w.heap.size 3 1 (.slice ao (ordP ms).length co) (ordP ms).length (flt nI (ordP ms)))
    (fun x => (ordP ms).length - x.1) (0, (.slice none 0 0, [])) ⟨Nat.zero_le _, hk1.any, hJ1, TxsO.nil, rfl, ho1⟩ (by (repeat' (first | exact True.intro | exact rfl | refine And.intro ?_ ?_))) ?_
  rintro ⟨k, vr, xs⟩ w2 ⟨hk, hk2, hJ2, hX, hxs, ho2⟩
  simp only at hk hJ2 hX hxs
  refine CG.to [(0, .pointer (some ⟨p, 0, none⟩)), (1, fnv f caps), (5, vr), (9, .slice ao (ordP ms).length co), (10, .int .i64 ((ordP ms).length : Int)), (11, .int .i64 (k : Int))] (by (repeat' (first | exact True.intro | exact rfl | refine And.intro ?_ ?_))) ?_
  have s2 := hk2.size
  by_cases hlt : k < (ordP ms).length
  rotate_left
  · have g2 : ¬ (k : Int) < ((ordP ms).length : Int) := by omega
    rw [List.take_of_length_le (by omega)] at hJ2 hxs
    repeat (first|apply cA|apply cB|apply cD|apply cE|refine cU rfl rfl rfl rfl (by first|(apply qls<;>(first|exact rfl|exact dcf (by first|assumption|omega)|fail))|fail) ?_)
    refine cX rfl (by exact rho_of rfl) rfl ?_
    repeat (first|apply cA|apply cB|apply cD|apply cE|apply cH|apply cJ|apply cK|refine cM rfl ?_|refine cU rfl rfl rfl rfl (by first|((first|apply qmv|apply qas)<;>(exact rfl))|fail) ?_)
    refine ret1 (Or.inl rfl) Try.results33 (by first | exact ResV.tmp rfl | exact ResV.agg rfl rfl (by assumption) (by first | exact dc_length _ | exact nc_length _ | exact rc_length _ _ _ | exact ec_length _ | exact dl_length _ _ _ _ | rfl) | exact ResV.cell rfl rfl (by assumption)) ?_
    exact ⟨_, xs, rfl, hk2, hX, hxs, hJ2⟩
  have g2 : (k : Int) < ((ordP ms).length : Int) := by omega
  obtain ⟨bo, cpo, eo, -⟩ := own_slice ho2 (by omega)
  cases eo
  have hro := own_at nI_len ho2 rfl hlt
  have hjm : (ordP ms)[k] < ms.length := ordP_lt (List.getElem_mem hlt)
  have htk : (ordP ms).take (k + 1) = (ordP ms).take k ++ [(ordP ms)[k]] := List.take_succ_eq_append_getElem hlt
  have hsplit : ordP ms = (ordP ms).take k ++ (ordP ms)[k] :: (ordP ms).drop (((ordP ms).take k).length + 1) := by
    rw [List.length_take, Nat.min_eq_left (by omega), ← List.drop_eq_getElem_cons hlt, List.take_append_drop]
  have hpl : pickL g [] ((ordP ms).take (k + 1)) = pickL g [] ((ordP ms).take k) ++ if g ((ordP ms).take k) (ordP ms)[k] then [(ordP ms)[k]] else [] := by
    rw [htk, pickL_append, pickL_one]
    rfl
  have hple := pickL_le g [] ((ordP ms).take k)
  rw [List.length_take, Nat.min_eq_left (by omega)] at hple
  have hxl : xs.length ≤ 1024 := by
    have := congrArg List.length hxs
    simp only [List.length_map] at this
    omega
  generalize hpre : (ordP ms).take k = pre at hJ2 hxs hpl htk hsplit
  generalize (ordP ms)[k] = jj at hro hjm hpl htk hsplit
  have g3 : (jj : Int) < (ms.length : Int) := by omega
  have g4 : (0 : Int) ≤ (jj : Int) := by omega
  have hP2 := hPS w2 hk2
  obtain ⟨a, c, rfl, hc, hS2⟩ := hP2.sl
  obtain ⟨-, q2⟩ := hP2.rows
  obtain ⟨b1, o1, rfl, hrj⟩ := hS2.at hjm
  have hen : (enA (ms.map Em.en) jj).t = ms[jj].x.t := by rw [enA_at (by simpa using hjm), List.getElem_map]; rfl
  repeat (first|apply cA|apply cB|apply cD|apply cE|refine cU rfl rfl rfl rfl (by first|(apply qls<;>(first|exact rfl|exact dct (by first|assumption|omega)|fail))|fail) ?_)
  refine cV rfl (by exact rho_of rfl) rfl ?_
  repeat (first|apply cA|apply cB|apply cD|apply cE|apply cF|apply cG|refine cU rfl rfl rfl rfl (by first|((first|apply qmv|apply qas|apply qlc|apply qla|apply qfa|apply qnc|apply qix)<;>(first|exact rfl|exact Ar.mk (by omega)|assumption|exact List.not_mem_nil|apply ec_length|fail))|fail) ?_)
  refine SG.callV (Fn := Fn) (f := f) (vs := [ev ms[jj]]) (caps := caps) rfl rfl rfl (by exact rho_of rfl) (by repeat' (first | exact True.intro | exact rho_of rfl | refine And.intro ?_ ?_)) ((hcall pre jj hjm w2 hsplit hk2 hJ2).mono (fun e w3 hh => ?_))
  obtain ⟨he, hk3, hJ3⟩ := hh
  refine ⟨_, he, ?_⟩
  clear he q2 hrj hS2
  rw [← htk] at hJ3
  have k3 := hk2.trans hk3
  have hX3 := hX.kp hk3 (fun b hb hm => by have := own_geB hX.own b hb; have := hSlt b hm; omega) (hSO _ _ hJ2)
  have ho3 := own_kpB ho2 hk3 (fun b hb hm => by have := own_geB ho2 b hb; have := hSlt b hm; omega)
  have s3 := hk3.size
  cases hg : g pre jj with
  | false =>
    rw [hg] at hpl
    simp only [Bool.false_eq_true, if_false, List.append_nil] at hpl
    repeat (first|apply cD|apply cE)
    refine cX rfl (by exact rho_of rfl) rfl ?_
    repeat (first|apply cB|apply cD|apply cE|apply cF|apply cQ|refine cU rfl rfl rfl rfl (by first|((first|apply qmv|apply qad)<;>(first|exact rfl|exact Ar.mk (by omega)|fail))|fail) ?_)
    refine NG.round (k + 1, (vr, xs)) (by (repeat' (first | exact True.intro | exact rfl | refine And.intro ?_ ?_))) ⟨by simp only; omega, k3, hJ3, hX3, by simp only; rw [hpl]; exact hxs, ho3⟩ (by simp only; omega)
  | true =>
    rw [hg] at hpl
    simp only [if_true] at hpl
    have hP3 := hPS w3 k3
    obtain ⟨a3, c3, e3, -, hS3⟩ := hP3.sl
    cases e3
    obtain ⟨-, q3⟩ := hP3.rows
    have hrj3 : Row w3 b1 (o1 + jj * 22) (ec ms[jj]) := hS3.row (List.getElem?_eq_getElem hjm)
    obtain ⟨rx, -⟩ := ec_rows hrj3
    repeat (first|apply cD|apply cE)
    refine cV rfl (by exact rho_of rfl) rfl ?_
    repeat (first|apply cB|refine cU rfl rfl rfl rfl (by first|((first|apply qmv|apply qlc|apply qla|apply qfa|apply qnc|apply qix)<;>(first|exact rfl|exact Ar.mk (by omega)|assumption|exact List.not_mem_nil|apply txc_length|fail))|fail) ?_)
    refine SG.call rfl rfl rfl (vs := [txv ms[jj].x]) (by repeat' (first | exact True.intro | exact rho_of rfl | refine And.intro ?_ ?_)) ((tclone_spec (hP3.ins _ (List.getElem_mem hjm))).mono (fun e w4 hh => ?_))
    obtain ⟨y, hy, he, hin, hk4, -, -⟩ := hh
    refine ⟨_, he, ?_⟩
    clear he q3 hrj3 rx
    refine SG.buildSlice rfl rfl rfl rfl (bstx y) (fun b6 w5 hk5 hb6 hB6 => ?_)
    have hS6 : Sl txc 13 w5 (some ⟨b6, 0, none⟩) [y] := sl_one txc_length hB6
    have k35 : Kp [] w3 w5 := hk4.trans hk5
    have hX5 := hX3.kp0 k35
    have ho5 := own_kp0 ho3 k35
    have hin5 := hin.kp0 hk5
    have s5 := k35.size
    skip
    refine SG.appO (enc := txc) (xs := xs) (ys := [y]) (base := w.heap.size) rfl rfl rfl (by exact rho_of rfl) (by exact rho_of rfl) rfl rfl rfl rfl txc_length txc_one hX5.own hS6 (by simp only [maxLen, List.length_cons, List.length_nil]; omega) (by simp only [List.length_cons, List.length_nil]; show (_ + _) * 80 ≤ _; omega) (by omega) (fun v' w6 hk6 ho6 hv6 => ?_)
    have hO6 : Oth 0 w5 (ownB vr) := Oth.own hX5.own (Nat.zero_le _) (by decide)
    have hnew : ∀ b ∈ ownB vr, w.heap.size ≤ b := fun b hb => own_geB hX5.own b (ownB_mem hb)
    have hJ6 := hJk _ w5 w6 _ hnew hk6 (hJk _ w3 w5 [] (fun b hb => by cases hb) k35 hJ3)
    repeat (first|apply cB|apply cD|apply cE|apply cQ|refine cU rfl rfl rfl rfl (by first|((first|apply qmv|apply qas|apply qad)<;>(first|exact rfl|exact Ar.mk (by omega)|fail))|fail) ?_)
    refine NG.round (k + 1, (v', xs ++ [y])) (by (repeat' (first | exact True.intro | exact rfl | refine And.intro ?_ ?_))) ⟨by simp only; omega, (k3.trans k35.any).trans_new hk6 (fun b hb => Or.inr (hnew b hb)), hJ6, ⟨ho6, fun x hx => ?_⟩, ?_, own_kpB ho5 hk6 (own_apT ho5 hX5.own (by decide))⟩ (by simp only; omega)
    · rcases List.mem_append.1 hx with hx | hx
      · exact (hX5.ins x hx).kpO hk6 hO6
      · rw [List.mem_singleton] at hx
        subst hx
        exact hin5.kpO hk6 hO6
    · simp only
      rw [hpl, List.map_append, List.map_append, hxs, List.map_cons, List.map_cons, hy, hen]
      rfl
/-- .. where what is told hangs on nothing else. -/
theorem pickF_spec {w : World} {base p : Nat} {v : Value} {room : Int} {ms : List Em} (hP : Pl w base p v room ms) (hI : PInv room (ms.map Em.en)) (hr : room ≤ 1024) {f : FuncId} [Fn : Fnc Try.prog f] {caps : List Value} (q : En → Bool)
    (hcall : ∀ (e : Em) W T, (∀ b ∈ T, w.heap.size ≤ b) → Kp T w W → Ret Try.prog f (ev e :: caps).toArray W (.bool (q e.en))) :
    Calls Try.prog 33 #[.pointer (some ⟨p, 0, none⟩), fnv f caps] w (fun e w' => ∃ v' xs, e = .returned v' ∧ Kp [] w w' ∧ TxsO w' w.heap.size v' xs ∧ xs.map (·.t) = ((ordE (ms.map Em.en)).filter q).map (·.t)) := by
  refine (pick_spec (g := fun _ j => q (enA (ms.map Em.en) j)) (S := []) (Fn := Fn) hP hI hr (fun _ W => ∃ T, (∀ b ∈ T, w.heap.size ≤ b) ∧ Kp T w W) ⟨[], fun b hb => (by cases hb), Kp.refl _ _⟩ (fun pre W W' T hT hk ⟨T2, h1, h2⟩ => ⟨T2 ++ T, fun b hb => (by rcases List.mem_append.1 hb with h | h; exact h1 b h; exact hT b h), (h2.mono (fun b hb => List.mem_append_left _ hb)).trans (hk.mono (fun b hb => List.mem_append_right _ hb))⟩) (fun W hk => hP.kp0 hk) (fun b hb => by cases hb) (fun _ _ _ => Oth.nil) (fun pre j hj W _ hk ⟨T, h1, h2⟩ => (hcall ms[j] W T h1 h2).mono (fun e w' ⟨he, hk'⟩ => ⟨?_, hk', T, h1, h2.trans hk'.any⟩))).mono (fun e w' hh => ?_)
  · obtain ⟨v', xs, he, hk, hX, hxs, -⟩ := hh
    refine ⟨v', xs, he, hk, hX, ?_⟩
    rw [hxs, pickL_filter (fun j => q (enA (ms.map Em.en) j)), ← map_filter, List.map_map]
    rfl
  · rw [he, enA_at (by simpa using hj), List.getElem_map]
set_option maxHeartbeats 16000000 in
theorem allc_spec {w : World} (e : Em) : Ret Try.prog 34 #[ev e] w (.bool true) := by
  refine enterL (args := [ev e]) Try.func34 rfl Try.ntmps34 rfl ?_
  repeat (first|apply cA|apply cB)
  refine SG.box rfl rfl rfl (by exact rho_of rfl) (fun b1 w1 hk1 hb1 hB1 => ?_)
  repeat (first|apply cA|apply cB|apply cD|apply cE|apply cH|refine cU rfl rfl rfl rfl (by first|(apply qas<;>(exact rfl))|fail) ?_)
  refine ret1 (Or.inl rfl) Try.results34 (by first | exact ResV.tmp rfl | exact ResV.agg rfl rfl (by assumption) (by first | exact dc_length _ | exact nc_length _ | exact rc_length _ _ _ | exact ec_length _ | exact dl_length _ _ _ _ | rfl) | exact ResV.cell rfl rfl (by assumption)) ?_
  exact ⟨rfl, hk1⟩
set_option maxHeartbeats 16000000 in
theorem all_spec {w : World} {base p : Nat} {v : Value} {room : Int} {ms : List Em} (hP : Pl w base p v room ms) (hI : PInv room (ms.map Em.en)) (hr : room ≤ 1024) :
    Calls Try.prog 11 #[.pointer (some ⟨p, 0, none⟩)] w (fun e w' => ∃ v' xs, e = .returned v' ∧ Kp [] w w' ∧ TxsO w' w.heap.size v' xs ∧ xs.map (·.t) = (ordE (ms.map Em.en)).map (·.t)) := by
  refine enter1 Try.func11 rfl Try.ntmps11 rfl ?_
  repeat (first|apply cA|apply cB|apply cD|apply cE|refine cU rfl rfl rfl rfl (by first|((first|apply qep|apply qmv|apply qas|apply qep)<;>(exact rfl))|fail) ?_)
  refine cX rfl (by exact rho_of rfl) rfl ?_
  repeat (first|apply cA|apply cB|apply cE|apply cF|refine cU rfl rfl rfl rfl (by first|(apply qmv<;>(exact rfl))|fail) ?_)
  refine SG.call rfl rfl rfl (vs := [.pointer (some ⟨p, 0, none⟩), fnv 34 []]) (by repeat' (first | exact True.intro | exact rho_of rfl | refine And.intro ?_ ?_)) ((pickF_spec (Fn := by infer_instance) hP hI hr (fun _ => true) (fun e W T _ _ => allc_spec e)).mono (fun e w1 hh => ?_))
  obtain ⟨v', xs, he, hk, hX, hxs⟩ := hh
  refine ⟨_, he, ?_⟩
  repeat (first|apply cD|apply cE|apply cH|refine cU rfl rfl rfl rfl (by first|(apply qas<;>(exact rfl))|fail) ?_)
  refine ret1 (Or.inl rfl) Try.results11 (by first | exact ResV.tmp rfl | exact ResV.agg rfl rfl (by assumption) (by first | exact dc_length _ | exact nc_length _ | exact rc_length _ _ _ | exact ec_length _ | exact dl_length _ _ _ _ | rfl) | exact ResV.cell rfl rfl (by assumption)) ?_
  refine ⟨v', xs, rfl, hk, hX, ?_⟩
  rw [hxs, List.filter_eq_self.2 (fun _ _ => rfl)]
end Go.Proofs.Ytgbgnlboogalgaa
namespace Go.Proofs.Ytgbgnlboogalgaa
open Go.Proofs
set_option linter.unusedVariables false
abbrev zcv (z : Int) : Value := .int .i64 z
/-- Up to the number of one of its key. -/
def upB (L : List (Dg × Int)) (e : En) : Bool := L.any (fun p => decide (p.1 = e.key ∧ e.non ≤ p.2))
theorem upB_iff {m L : List (Dg × Int)} {e : En} (h : MaxM m L) : upB L e = true ↔ ∃ n, alook m e.key = some n ∧ e.non ≤ n := by
  rw [h e.key e.non]
  unfold upB
  rw [List.any_eq_true]
  constructor
  · rintro ⟨p, h1, h2⟩; exact ⟨p, h1, of_decide_eq_true h2⟩
  · rintro ⟨p, h1, h2⟩; exact ⟨p, h1, decide_eq_true h2⟩
def pairE (e : En) : Dg × Int := (e.key, e.non)
/-- Whether a block of a height has to have what waits since another one. -/
def dueB (h leave : Int) (e : En) : Bool := decide (leave ≤ h - e.since - 1)
def dueL (l : List En) (h leave : Int) : List (Dg × Int) := (l.filter (dueB h leave)).map pairE
theorem dueL_succ {l : List En} {h leave : Int} {i : Nat} (hi : i < l.length) : dueL (l.take (i + 1)) h leave = if dueB h leave l[i] then dueL (l.take i) h leave ++ [pairE l[i]] else dueL (l.take i) h leave := by
  unfold dueL
  rw [List.take_succ_eq_append_getElem hi, List.filter_append, List.map_append]
  by_cases g : dueB h leave l[i] = true
  · rw [if_pos g, List.filter_cons_of_pos g]
    rfl
  · rw [if_neg g, List.filter_cons_of_neg g]
    simp
def fit64 (n : Int) : Prop := -9223372036854775808 ≤ n ∧ n ≤ 9223372036854775807
attribute [local irreducible] CG NG SG Vals Der Row Blk MapIs IterAt nameT wrongT
set_option maxHeartbeats 16000000 in
theorem due_spec {w : World} {h s l : Int} (hh : fit64 h) (h0 : 0 ≤ s) (h1 : s ≤ 1099511627776) (hl : fit64 l) : Ret Try.prog 36 #[.int .i64 h, .int .i64 s, .int .i64 l] w (.bool (decide (l ≤ h - s - 1))) := by
  refine enter3 Try.func36 rfl Try.ntmps36 rfl ?_
  obtain ⟨a1, a2⟩ := hh
  obtain ⟨a3, a4⟩ := hl
  by_cases g : h < -9223372036854775808 + s + 1
  · have e : decide (l ≤ h - s - 1) = false := decide_eq_false (by omega)
    rw [e]
    repeat (first|apply cA|apply cB|apply cD|apply cE|refine cU rfl rfl rfl rfl (by first|((first|apply qmv|apply qas|apply qls|apply qad)<;>(first|exact rfl|exact Ar.mk (by omega)|exact dct (by first|assumption|omega)|fail))|fail) ?_)
    refine cV rfl (by exact rho_of rfl) rfl ?_
    repeat (first|apply cA|apply cB|apply cD|apply cE|apply cH|apply NG.ret_then|refine cU rfl rfl rfl rfl (by first|(apply qas<;>(exact rfl))|fail) ?_)
    refine ret1 (Or.inl rfl) Try.results36 (by first | exact ResV.tmp rfl | exact ResV.agg rfl rfl (by assumption) (by first | exact dc_length _ | exact nc_length _ | exact rc_length _ _ _ | exact ec_length _ | exact dl_length _ _ _ _ | rfl) | exact ResV.cell rfl rfl (by assumption)) ?_
    exact ⟨rfl, Kp.refl _ _⟩
  · by_cases g2 : l ≤ h - s - 1
    · have e : decide (l ≤ h - s - 1) = true := decide_eq_true g2
      rw [e]
      repeat (first|apply cA|apply cB|apply cD|apply cE|refine cU rfl rfl rfl rfl (by first|((first|apply qmv|apply qas|apply qls|apply qad)<;>(first|exact rfl|exact Ar.mk (by omega)|exact dcf (by first|assumption|omega)|fail))|fail) ?_)
      refine cX rfl (by exact rho_of rfl) rfl ?_
      repeat (first|apply cA|apply cB|apply cD|apply cE|apply cF|apply cH|refine cU rfl rfl rfl rfl (by first|((first|apply qmv|apply qas|apply qge|apply qsb)<;>(first|exact rfl|exact Ar.mk (by omega)|exact dct (by first|assumption|omega)|fail))|fail) ?_)
      refine ret1 (Or.inl rfl) Try.results36 (by first | exact ResV.tmp rfl | exact ResV.agg rfl rfl (by assumption) (by first | exact dc_length _ | exact nc_length _ | exact rc_length _ _ _ | exact ec_length _ | exact dl_length _ _ _ _ | rfl) | exact ResV.cell rfl rfl (by assumption)) ?_
      exact ⟨rfl, Kp.refl _ _⟩
    · have e : decide (l ≤ h - s - 1) = false := decide_eq_false g2
      rw [e]
      repeat (first|apply cA|apply cB|apply cD|apply cE|refine cU rfl rfl rfl rfl (by first|((first|apply qmv|apply qas|apply qls|apply qad)<;>(first|exact rfl|exact Ar.mk (by omega)|exact dcf (by first|assumption|omega)|fail))|fail) ?_)
      refine cX rfl (by exact rho_of rfl) rfl ?_
      repeat (first|apply cA|apply cB|apply cD|apply cE|apply cF|apply cH|refine cU rfl rfl rfl rfl (by first|((first|apply qmv|apply qas|apply qge|apply qsb)<;>(first|exact rfl|exact Ar.mk (by omega)|exact dcf (by first|assumption|omega)|fail))|fail) ?_)
      refine ret1 (Or.inl rfl) Try.results36 (by first | exact ResV.tmp rfl | exact ResV.agg rfl rfl (by assumption) (by first | exact dc_length _ | exact nc_length _ | exact rc_length _ _ _ | exact ec_length _ | exact dl_length _ _ _ _ | rfl) | exact ResV.cell rfl rfl (by assumption)) ?_
      exact ⟨rfl, Kp.refl _ _⟩
set_option maxHeartbeats 16000000 in
theorem must1_spec {w : World} {b7 bm : Nat} {m L : List (Dg × Int)} (e : Em) (h7 : Row w b7 0 [.map (some bm)]) (hm : MapIs w bm (dv (n := 8)) zcv m) (hM : MaxM m L) : Ret Try.prog 37 #[ev e, .pointer (some ⟨b7, 0, none⟩)] w (.bool (upB L e.en)) := by
  refine enterL (args := [ev e, .pointer (some ⟨b7, 0, none⟩)]) Try.func37 rfl Try.ntmps37 rfl ?_
  repeat (first|apply cA|apply cB)
  refine SG.box rfl rfl rfl (by exact rho_of rfl) (fun b1 w1 hk1 hb1 hB1 => ?_)
  have hB1 : Blk w1 b1 (.cells (ec e).toArray 78) := hB1
  obtain ⟨-, q0, q1, -⟩ := ec_rows (Row.all hB1 rfl)
  simp only [Nat.zero_add] at q1
  have h7 := h7.kp0 hk1
  have hm := hm.kp0 hk1
  have hup := upB_iff (e := e.en) hM
  cases hl : alook m e.x.t.frm with
  | none =>
    have e1 : upB L e.en = false := by
      cases hb : upB L e.en with
      | false => rfl
      | true =>
        obtain ⟨n, h1, h2⟩ := hup.1 hb
        have h1 : alook m e.x.t.frm = some n := h1
        rw [hl] at h1
        cases h1
    rw [e1]
    repeat (first | first|apply cA|apply cB|apply cD|apply cE|apply cH|refine cU rfl rfl rfl rfl (by first|((first|apply qmv|apply qas|apply qlc|apply qla|apply qfa|apply qpk|apply qlk|apply qxt)<;>(first|exact rfl|assumption|exact List.not_mem_nil|apply dc_length|exact lk0 (by assumption)|fail))|fail) ?_ | refine SG.skip rfl rfl ?_)
    refine ret1 (Or.inl rfl) Try.results37 (by first | exact ResV.tmp rfl | exact ResV.agg rfl rfl (by assumption) (by first | exact dc_length _ | exact nc_length _ | exact rc_length _ _ _ | exact ec_length _ | exact dl_length _ _ _ _ | rfl) | exact ResV.cell rfl rfl (by assumption)) ?_
    exact ⟨rfl, hk1⟩
  | some n =>
    by_cases g : e.x.t.non ≤ n
    · have e1 : upB L e.en = true := hup.2 ⟨n, hl, g⟩
      rw [e1]
      repeat (first|apply cA|apply cB|apply cD|apply cE|apply cH|refine cU rfl rfl rfl rfl (by first|((first|apply qmv|apply qas|apply qlc|apply qla|apply qfa|apply qpk|apply qle|apply qlk|apply qxt)<;>(first|exact rfl|assumption|exact dct (by first|assumption|omega)|exact List.not_mem_nil|apply dc_length|exact lk1 (by assumption)|fail))|fail) ?_)
      refine ret1 (Or.inl rfl) Try.results37 (by first | exact ResV.tmp rfl | exact ResV.agg rfl rfl (by assumption) (by first | exact dc_length _ | exact nc_length _ | exact rc_length _ _ _ | exact ec_length _ | exact dl_length _ _ _ _ | rfl) | exact ResV.cell rfl rfl (by assumption)) ?_
      exact ⟨rfl, hk1⟩
    · have e1 : upB L e.en = false := by
        cases hb : upB L e.en with
        | false => rfl
        | true =>
          obtain ⟨n', h1, h2⟩ := hup.1 hb
          have h1 : alook m e.x.t.frm = some n' := h1
          rw [hl] at h1
          cases h1
          exact absurd h2 g
      rw [e1]
      repeat (first|apply cA|apply cB|apply cD|apply cE|apply cH|refine cU rfl rfl rfl rfl (by first|((first|apply qmv|apply qas|apply qlc|apply qla|apply qfa|apply qpk|apply qle|apply qlk|apply qxt)<;>(first|exact rfl|assumption|exact dcf (by first|assumption|omega)|exact List.not_mem_nil|apply dc_length|exact lk1 (by assumption)|fail))|fail) ?_)
      refine ret1 (Or.inl rfl) Try.results37 (by first | exact ResV.tmp rfl | exact ResV.agg rfl rfl (by assumption) (by first | exact dc_length _ | exact nc_length _ | exact rc_length _ _ _ | exact ec_length _ | exact dl_length _ _ _ _ | rfl) | exact ResV.cell rfl rfl (by assumption)) ?_
      exact ⟨rfl, hk1⟩
set_option maxHeartbeats 32000000 in
theorem must_spec {w : World} {base p : Nat} {v : Value} {room : Int} {ms : List Em} (hP : Pl w base p v room ms) (hI : PInv room (ms.map Em.en)) (hr : room ≤ 1024) {h f l s : Int} (hh : fit64 h) (hl : fit64 l) :
    Calls Try.prog 14 #[.pointer (some ⟨p, 0, none⟩), .int .i64 h, .agg #[.int .i64 f, .int .i64 l, .int .i64 s]] w (fun e w' => ∃ v' xs, e = .returned v' ∧ Kp [] w w' ∧ TxsO w' w.heap.size v' xs ∧ xs.map (·.t) = ((ordE (ms.map Em.en)).filter (upB (dueL (ms.map Em.en) h l))).map (·.t)) := by
  refine enter3 Try.func14 rfl Try.ntmps14 rfl ?_
  have hll : ms.length ≤ 1024 := by have := hI.len; rw [List.length_map] at this; omega
  have hlp := hP.blk.lt
  have hvp : ∀ b, v.ownBlock = some b → b < w.heap.size := own_lt hP.own
  repeat (first|apply cA|apply cB)
  refine SG.box rfl rfl rfl (by exact rho_of rfl) (fun b5 w1 hk1 hb5 hB5 => ?_)
  have hB5 : Blk w1 b5 (.cells #[.int .i64 f, .int .i64 l, .int .i64 s] 42) := hB5
  have r5 : Row w1 b5 1 [.int .i64 l] := Row.of hB5 [.int .i64 f] [.int .i64 s] rfl rfl
  have lt5 := hB5.lt
  clear hB5
  repeat (first|apply cA|apply cB|apply cD|apply cE|refine cU rfl rfl rfl rfl (by first|((first|apply qep|apply qmv|apply qas|apply qep)<;>(exact rfl))|fail) ?_)
  refine cX rfl (by exact rho_of rfl) rfl ?_
  repeat (first|apply cA|apply cB|apply cE|apply cF)
  refine SG.makeMap (dv (n := 8)) zcv rfl rfl (fun bm w2 hk2 hbm hm => ?_)
  refine SG.alloc rfl rfl rfl (fun b7 w3 hk3 hb7 hB7 => ?_)
  have k3 := (hk1.trans hk2).trans hk3
  have s1 := hk1.size
  have s2 := hk2.size
  have ltm := hm.lt
  have hm := hm.kp0 hk3
  refine SG.setAll1 rfl rfl (by exact rho_of rfl) (by exact rho_of rfl) hB7 rfl rfl (fun w4 hk4 hB7 => ?_)
  have hm : MapIs w4 bm (dv (n := 8)) zcv [] := hm.kp hk4 (nm1 (by omega))
  have r7 : Row w4 b7 0 [.map (some bm)] := Row.all hB7 rfl
  have k4 : Kp [] w w4 := k3.trans_new hk4 (new1 (by omega))
  have lt7 := hB7.lt
  have hP4 := hP.kp0 k4
  have r5 : Row w4 b5 1 [.int .i64 l] := ((r5.kp0 hk2).kp0 hk3).kp hk4 (nm1 (by omega))
  obtain ⟨a, c, rfl, hc, hS⟩ := hP4.sl
  obtain ⟨-, q1⟩ := hP4.rows
  have s4 := k4.size
  clear hB7
  repeat (first|apply cA|apply cB|apply cD|apply cE|apply cG|refine cU rfl rfl rfl rfl (by first|((first|apply qmv|apply qlc|apply qfa|apply qnc|apply qln)<;>(first|exact rfl|assumption|exact List.not_mem_nil))|fail) ?_)
  refine CG.loop (X := Nat × List (Dg × Int)) (fun x => [(0, .pointer (some ⟨p, 0, none⟩)), (1, .int .i64 h), (5, .pointer (some ⟨b5, 0, none⟩)), (7, .pointer (some ⟨b7, 0, none⟩)), (18, .slice a ms.length c), (19, .int .i64 (ms.length : Int)), (20, .int .i64 (x.1 : Int))])
    (fun x w' => x.1 ≤ ms.length ∧ Kp [bm] w4 w' ∧ MapIs w' bm (dv (n := 8)) zcv x.2 ∧ MaxM x.2 (dueL ((ms.map Em.en).take x.1) h l)) (fun x => ms.length - x.1) (0, []) ⟨Nat.zero_le _, Kp.refl _ _, hm, MaxM.nil⟩ (by (repeat' (first | exact True.intro | exact rfl | refine And.intro ?_ ?_))) ?_
  clear q1
  rintro ⟨i, m⟩ w5 ⟨hi, hk5, hm5, hM⟩
  simp only at hi hm5 hM
  refine CG.to [(0, .pointer (some ⟨p, 0, none⟩)), (1, .int .i64 h), (5, .pointer (some ⟨b5, 0, none⟩)), (7, .pointer (some ⟨b7, 0, none⟩)), (18, .slice a ms.length c), (19, .int .i64 (ms.length : Int)), (20, .int .i64 (i : Int))] (by (repeat' (first | exact True.intro | exact rfl | refine And.intro ?_ ?_))) ?_
  have k5 : Kp [] w w5 := k4.trans_new hk5 (new1 (by omega))
  have hP5 := hP.kp0 k5
  have r5' : Row w5 b5 1 [.int .i64 l] := r5.kp hk5 (nm1 (by omega))
  have r7' : Row w5 b7 0 [.map (some bm)] := r7.kp hk5 (nm1 (by omega))
  have s5 := hk5.size
  by_cases hlt : i < ms.length
  rotate_left
  · have g1 : ¬ (i : Int) < (ms.length : Int) := by omega
    rw [List.take_of_length_le (by rw [List.length_map]; omega)] at hM
    repeat (first|apply cA|apply cB|apply cD|apply cE|refine cU rfl rfl rfl rfl (by first|(apply qls<;>(first|exact rfl|exact dcf (by first|assumption|omega)|fail))|fail) ?_)
    refine cX rfl (by exact rho_of rfl) rfl ?_
    repeat (first|apply cA|apply cB|apply cE|apply cJ|apply cK|refine cM rfl ?_|refine cU rfl rfl rfl rfl (by first|(apply qmv<;>(exact rfl))|fail) ?_)
    refine cU rfl rfl rfl rfl (qmf (vs := [.pointer (some ⟨b7, 0, none⟩)]) rfl) ?_
    refine SG.call rfl rfl rfl (vs := [.pointer (some ⟨p, 0, none⟩), fnv 37 [.pointer (some ⟨b7, 0, none⟩)]]) (by repeat' (first | exact True.intro | exact rho_of rfl | refine And.intro ?_ ?_)) ((pickF_spec (Fn := by infer_instance) hP5 hI hr (upB (dueL (ms.map Em.en) h l)) (fun e W T hT hk => must1_spec e (r7'.kp hk (fun hm => by have := hT _ hm; omega)) (hm5.kp hk (fun hm => by have := hT _ hm; omega)) hM)).mono (fun e w6 hh => ?_))
    obtain ⟨v', xs, he, hk6, hX, hxs⟩ := hh
    refine ⟨_, he, ?_⟩
    repeat (first|apply cD|apply cE|apply cH|refine cU rfl rfl rfl rfl (by first|(apply qas<;>(exact rfl))|fail) ?_)
    refine ret1 (Or.inl rfl) Try.results14 (by first | exact ResV.tmp rfl | exact ResV.agg rfl rfl (by assumption) (by first | exact dc_length _ | exact nc_length _ | exact rc_length _ _ _ | exact ec_length _ | exact dl_length _ _ _ _ | rfl) | exact ResV.cell rfl rfl (by assumption)) ?_
    exact ⟨v', xs, rfl, k5.trans hk6, ⟨own_mono hX.own k5.size, hX.ins⟩, hxs⟩
  have g1 : (i : Int) < (ms.length : Int) := by omega
  obtain ⟨a', c', e', -, hS5⟩ := hP5.sl
  cases e'
  obtain ⟨g, o1, rfl, hri⟩ := hS5.at hlt
  have hsu := dueL_succ (l := ms.map Em.en) (h := h) (leave := l) (i := i) (by simpa using hlt)
  rw [List.getElem_map] at hsu
  have hsc := hI.sc _ (List.mem_map.2 ⟨ms[i], List.getElem_mem hlt, rfl⟩)
  have hsc : 0 ≤ ms[i].since ∧ ms[i].since ≤ 1099511627776 := hsc
  repeat (first|apply cA|apply cB|apply cD|apply cE|refine cU rfl rfl rfl rfl (by first|(apply qls<;>(first|exact rfl|exact dct (by first|assumption|omega)|fail))|fail) ?_)
  refine cV rfl (by exact rho_of rfl) rfl ?_
  repeat (first|apply cA|apply cB|apply cE|apply cF|apply cG|refine cU rfl rfl rfl rfl (by first|((first|apply qla|apply qix)<;>(first|exact rfl|exact Ar.mk (by omega)|assumption|exact List.not_mem_nil|apply ec_length|fail))|fail) ?_)
  refine SG.alloc rfl rfl rfl (fun b9 w6 hk6 hb9 hB9 => ?_)
  refine SG.setAll (l := ec ms[i]) rfl rfl (by exact rho_of rfl) (by exact rho_of rfl) hB9 (ec_length _) rfl (ec_one _) (fun w7 hk7 hB9 => ?_)
  have k57 : Kp [] w5 w7 := hk6.trans_new hk7 (new1 (by omega))
  have r9 : Row w7 b9 0 (ec ms[i]) := Row.all hB9 rfl
  obtain ⟨-, q0, q1, -, -, q5⟩ := ec_rows r9
  simp only [Nat.zero_add] at q0 q1 q5
  have r5' := r5'.kp0 k57
  have r7' := r7'.kp0 k57
  have hm7 := hm5.kp0 k57
  clear hri r9
  repeat (first|apply cA|apply cB|apply cD|apply cE|refine cU rfl rfl rfl rfl (by first|((first|apply qmv|apply qlc|apply qfa)<;>(first|exact rfl|assumption|exact List.not_mem_nil))|fail) ?_)
  refine SG.ret rfl rfl rfl (vs := [.int .i64 h, .int .i64 ms[i].since, .int .i64 l]) (by repeat' (first | exact True.intro | exact rho_of rfl | refine And.intro ?_ ?_)) (due_spec hh hsc.1 hsc.2 hl) (fun w8 hk8 => ?_)
  have k58 := k57.trans hk8
  have q0 := q0.kp0 hk8
  have q1 := q1.kp0 hk8
  have r7' := r7'.kp0 hk8
  have hm8 := hm7.kp0 hk8
  have hdd : dueB h l ms[i].en = decide (l ≤ h - ms[i].since - 1) := rfl
  rw [hdd] at hsu
  by_cases hd : l ≤ h - ms[i].since - 1
  rotate_left
  · rw [decide_eq_false hd] at hsu ⊢
    rw [if_neg (by decide)] at hsu
    repeat (first|apply cD|apply cE)
    refine cX rfl (by exact rho_of rfl) rfl ?_
    repeat (first|apply cB|apply cD|apply cE|apply cF|apply cQ|refine cU rfl rfl rfl rfl (by first|((first|apply qmv|apply qad)<;>(first|exact rfl|exact Ar.mk (by omega)|fail))|fail) ?_)
    refine NG.round (i + 1, m) (by (repeat' (first | exact True.intro | exact rfl | refine And.intro ?_ ?_))) ⟨by simp only; omega, hk5.trans k58.any, hm8, by simp only; rw [hsu]; exact hM⟩ (by simp only; omega)
  rw [decide_eq_true hd] at hsu ⊢
  rw [if_pos rfl] at hsu
  have hpe : pairE ms[i].en = (ms[i].x.t.frm, ms[i].x.t.non) := rfl
  rw [hpe] at hsu
  have put : (∀ n, alook m ms[i].x.t.frm = some n → n < ms[i].x.t.non) → MaxM (aput m ms[i].x.t.frm ms[i].x.t.non) (dueL ((ms.map Em.en).take (i + 1)) h l) := fun hn => by rw [hsu]; exact hM.put hn
  cases hlk : alook m ms[i].x.t.frm with
  | none =>
    have hput := put (fun n hn => by rw [hlk] at hn; cases hn)
    repeat (first|apply cD|apply cE)
    refine cV rfl (by exact rho_of rfl) rfl ?_
    repeat (first | first|apply cA|apply cB|apply cD|apply cE|refine cU rfl rfl rfl rfl (by first|((first|apply qmv|apply qas|apply qlc|apply qla|apply qfa|apply qpk|apply qlk|apply qxt|apply qnt)<;>(first|exact rfl|assumption|exact List.not_mem_nil|apply dc_length|exact lk0 (by assumption)|fail))|fail) ?_ | refine SG.skip rfl rfl ?_)
    refine cV rfl (by exact rho_of rfl) rfl ?_
    repeat (first|apply cB|refine cU rfl rfl rfl rfl (by first|((first|apply qlc|apply qla|apply qfa)<;>(first|exact rfl|assumption|exact List.not_mem_nil|apply dc_length))|fail) ?_)
    refine SG.mapUpdate (enc := dv (n := 8)) (V := zcv) (kx := ms[i].x.t.frm) (vy := ms[i].x.t.non) rfl rfl (by exact rho_of rfl) (by exact rho_of rfl) (by exact rho_of rfl) hm8 BArr.key (fun w9 hk9 hm9 => ?_)
    repeat (first|apply cB|apply cD|apply cE|apply cQ|refine cU rfl rfl rfl rfl (by first|((first|apply qmv|apply qad)<;>(first|exact rfl|exact Ar.mk (by omega)|fail))|fail) ?_)
    refine NG.round (i + 1, _) (by (repeat' (first | exact True.intro | exact rfl | refine And.intro ?_ ?_))) ⟨by simp only; omega, (hk5.trans k58.any).trans hk9, hm9, hput⟩ (by simp only; omega)
  | some n =>
    by_cases hlt2 : n < ms[i].x.t.non
    · have hput := put (fun n' hn => by rw [hlk] at hn; cases hn; exact hlt2)
      repeat (first|apply cD|apply cE)
      refine cV rfl (by exact rho_of rfl) rfl ?_
      repeat (first|apply cA|apply cB|apply cD|apply cE|refine cU rfl rfl rfl rfl (by first|((first|apply qmv|apply qas|apply qlc|apply qla|apply qfa|apply qpk|apply qls|apply qlk|apply qxt|apply qnt)<;>(first|exact rfl|assumption|exact dct (by first|assumption|omega)|exact List.not_mem_nil|apply dc_length|exact lk1 (by assumption)|fail))|fail) ?_)
      refine cV rfl (by exact rho_of rfl) rfl ?_
      repeat (first|apply cB|refine cU rfl rfl rfl rfl (by first|((first|apply qlc|apply qla|apply qfa)<;>(first|exact rfl|assumption|exact List.not_mem_nil|apply dc_length))|fail) ?_)
      refine SG.mapUpdate (enc := dv (n := 8)) (V := zcv) (kx := ms[i].x.t.frm) (vy := ms[i].x.t.non) rfl rfl (by exact rho_of rfl) (by exact rho_of rfl) (by exact rho_of rfl) hm8 BArr.key (fun w9 hk9 hm9 => ?_)
      repeat (first|apply cB|apply cD|apply cE|apply cQ|refine cU rfl rfl rfl rfl (by first|((first|apply qmv|apply qad)<;>(first|exact rfl|exact Ar.mk (by omega)|fail))|fail) ?_)
      refine NG.round (i + 1, _) (by (repeat' (first | exact True.intro | exact rfl | refine And.intro ?_ ?_))) ⟨by simp only; omega, (hk5.trans k58.any).trans hk9, hm9, hput⟩ (by simp only; omega)
    · have hkeep : MaxM m (dueL ((ms.map Em.en).take (i + 1)) h l) := by rw [hsu]; exact hM.keep hlk hlt2
      repeat (first|apply cD|apply cE)
      refine cV rfl (by exact rho_of rfl) rfl ?_
      repeat (first|apply cA|apply cB|apply cD|apply cE|refine cU rfl rfl rfl rfl (by first|((first|apply qmv|apply qas|apply qlc|apply qla|apply qfa|apply qpk|apply qls|apply qlk|apply qxt|apply qnt)<;>(first|exact rfl|assumption|exact dcf (by first|assumption|omega)|exact List.not_mem_nil|apply dc_length|exact lk1 (by assumption)|fail))|fail) ?_)
      refine cX rfl (by exact rho_of rfl) rfl ?_
      repeat (first|apply cB|apply cD|apply cE|apply cF|apply cQ|refine cU rfl rfl rfl rfl (by first|((first|apply qmv|apply qad)<;>(first|exact rfl|exact Ar.mk (by omega)|fail))|fail) ?_)
      refine NG.round (i + 1, m) (by (repeat' (first | exact True.intro | exact rfl | refine And.intro ?_ ?_))) ⟨by simp only; omega, hk5.trans k58.any, hm8, hkeep⟩ (by simp only; omega)
end Go.Proofs.Ytgbgnlboogalgaa
namespace Go.Proofs.Ytgbgnlboogalgaa
open Go.Proofs
set_option linter.unusedVariables false
/-- None of S holds cells of a type, none is older than n. -/
def NoT (T : TypeId) (n : Nat) (w : World) (S : List Nat) : Prop := ∀ b ∈ S, n ≤ b ∧ ∀ cs f, w.heap[b]? ≠ some (.cells cs T f)
/-- The block of a slice is of a type, or is older than n. -/
def Tg {α : Type} (T : TypeId) (n : Nat) (w : World) (a : Option Addr) (l : List α) : Prop := Ty T w a l ∨ ∀ b off, a = some ⟨b, off, none⟩ → b < n
/-- Transactions that come, in memory. -/
structure TxsI (w : World) (n : Nat) (a : Option Addr) (xs : List Tm) : Prop where
  sl : Sl txc 13 w a xs
  tg : Tg 35 n w a xs
  ins : ∀ x ∈ xs, x.In n w
def pairT (t : Tx) : Dg × Int := (t.frm, t.non)
/-- What stays behind a block of some. -/
def doneL (l : List En) (ts : List Tx) : List En := l.filter (fun e => !upB (ts.map pairT) e)
attribute [local irreducible] CG NG SG Vals Der Row Blk MapIs IterAt nameT wrongT
end Go.Proofs.Ytgbgnlboogalgaa
namespace Go.Proofs.Ytgbgnlboogalgaa
open Go.Proofs
set_option linter.unusedVariables false
/-- One that waits, in the document's memory. -/
structure Wm where
  x : Tm
  since : Int
def Wm.en (e : Wm) : En := ⟨e.x.t, e.since⟩
def wc (e : Wm) : List Value := txc e.x ++ [.int .i64 e.since]
def wv (e : Wm) : Value := .agg (wc e).toArray
/-- The document's list of what waits, in memory. -/
structure PD (w : World) (n : Nat) (a : Option Addr) (c : Nat) (ws : List Wm) : Prop where
  sl : Sl wc 14 w a ws
  tg : Tg 88 n w a ws
  cap : ws.length ≤ c
  sm : a = none ∧ ws = [] ∨ ∃ b off, a = some ⟨b, off, none⟩
  ins : ∀ e ∈ ws, e.x.In n w
def pdc (room : Int) (a : Option Addr) (m c : Nat) : List Value := [.int .i64 room, .slice a m c]
abbrev oW (base : Nat) (l : List Wm) := oP base 88 14 wc l
attribute [local irreducible] CG NG SG Vals Der Row Blk MapIs IterAt DerX DerR wrongT
end Go.Proofs.Ytgbgnlboogalgaa
namespace Go.Proofs.Ytgbgnlboogalgaa
open Go.Proofs
set_option linter.unusedVariables false
attribute [local irreducible] CG NG SG Vals Der Row Blk MapIs IterAt DerX DerR wrongT nameT
end Go.Proofs.Ytgbgnlboogalgaa
namespace Go.Proofs.Ytgbgnlboogalgaa
set_option linter.unusedVariables false
section
variable {P : Program} {L : Env} {ty : TypeId} {pos : String} {af : Array Edge} {g : Option (Nat × Bool)} {S : List Nat} {w0 : World} {ops : List Oper} {gh : List Nat} {K : Env → (World → Prop) → (World → Prop) → Prop} {i : Nat} {ord : List Nat} {F R : World → Prop}
theorem Der.loadCR {d : Nat} {T : TypeId} [c : CelT P T] {x : Operand} {b off : Nat} {v : Value}
    (ho : ops[i]? = some ⟨some d, .load T x, ty, pos, af, g⟩) (hw : want ops L ⟨some d, .load T x, ty, pos, af, g⟩ = some true) (hg : gh.elem (i + 1000) = true) (hk : known L x = true) (hx : ro L x = some (.pointer (some ⟨b, off, none⟩))) (hr : ∀ w, R w → Row w b off [v])
    (hd : Der P S w0 ops gh K ord ((d, v) :: L) F R) : Der P S w0 ops gh K (i :: ord) L F R :=
  Der.valR ho hw hg (by simpa [Op.operands] using hk) (fun w _ _ hR => qlc (S := []) (w0 := w) (F := fun _ => True) hx (hr w hR) List.not_mem_nil w (Kp.refl _ _) trivial) hd
theorem Der.storeMid {T T' : TypeId} {inf : TypeInfo} [f : Inf P T inf] {a x : Operand} {b off : Nat} (pre old post : List Value) {v : Value}
    (ho : ops[i]? = some ⟨none, .store T a x, ty, pos, af, g⟩) (hw : want ops L ⟨none, .store T a x, ty, pos, af, g⟩ = some true) (hg : gh.elem i = true) (hk : (known L a && known L x) = true) (ha : rho L a = .pointer (some ⟨b, off, none⟩)) (hx : rho L x = v)
    (hn : v.cells.toList.length = inf.size) (hold : old.length = inf.size) (hp : pre.length = off) (hone : allOne v.cells.toList = true) (hb : b ∈ S) (hFs : Stab S F)
    (hd : Der P S w0 ops gh K ord L (fun w => F w ∧ True) (fun w => Blk w b (.cells (pre ++ (v.cells.toList ++ post)).toArray T'))) : Der P S w0 ops gh K (i :: ord) L F (fun w => Blk w b (.cells (pre ++ (old ++ post)).toArray T')) := by
  refine Der.storeR (fun w => Blk w b (.cells (pre ++ (v.cells.toList ++ post)).toArray T')) ho hw hg hk ha hx hFs (fun w w' hk h => h.kp0 hk) (fun w h => ?_) hd
  have hrun := run_storeAt (P := P) (f := f) (off := off) (v := v) h hn (by simp only [List.size_toArray, List.length_append]; omega) hone
  refine ⟨_, hrun, ?_, (Kp.set w h rfl rfl).mono (by intro z hz; simp at hz; subst hz; exact hb)⟩
  have := h.set (.cells (spl (pre ++ (old ++ post)).toArray.toList off v.cells.toList).toArray T')
  rw [List.toList_toArray, ← hp, spl_mid (by omega)] at this
  rw [List.toList_toArray, ← hp, spl_mid (by omega)]
  exact this
end
end Go.Proofs.Ytgbgnlboogalgaa
namespace Go.Proofs.Ytgbgnlboogalgaa
open Go.Proofs
set_option linter.unusedVariables false
/-- A transaction that comes, of any length. -/
structure Tm.Rd (x : Tm) (n : Nat) (w : World) : Prop where
  b : Bs w x.a1 x.c1 x.t.body
  s : Bs w x.a2 x.c2 x.t.sig
  t1 : Tb n w x.a1 x.t.body
  t2 : Tb n w x.a2 x.t.sig
theorem Tm.Rd.kp0 {x : Tm} {n : Nat} {w w' : World} (h : x.Rd n w) (hk : Kp [] w w') : x.Rd n w' := ⟨h.b.kp0 hk, h.s.kp0 hk, h.t1.kp0 hk, h.t2.kp0 hk⟩
def cutT (t : Tx) : Tx := ⟨t.frm, t.non, t.fee, t.kind, t.body.take 400, t.sig.take 1100⟩
def cutM (x : Tm) : Tm := ⟨cutT x.t, x.a1, x.c1, x.a2, x.c2⟩
theorem Bs.take {w : World} {a : Option Addr} {c : Nat} {l : List UInt8} (h : Bs w a c l) (j : Nat) : Bs w a c (l.take j) := by
  refine ⟨h.sl.take j, Nat.le_trans (List.length_take_le' j l) h.len, ?_, fun hn b off e => h.lt (fun h0 => hn (by rw [h0, List.take_nil])) b off e⟩
  rcases h.some with ⟨rfl, h2⟩ | h2 | ⟨rfl, h2⟩
  · exact Or.inl ⟨List.take_nil, h2⟩
  · exact Or.inr (Or.inl h2)
  · exact Or.inr (Or.inr ⟨List.take_nil, h2⟩)
theorem Tb.take {n : Nat} {w : World} {a : Option Addr} {l : List UInt8} (h : Tb n w a l) (j : Nat) : Tb n w a (l.take j) := by
  rcases h with h | h
  · exact Or.inl (fun hn => h (fun h0 => hn (by rw [h0, List.take_nil])))
  · exact Or.inr h
theorem cutM_in {x : Tm} {n : Nat} {w : World} (h : x.Rd n w) : (cutM x).In n w :=
  ⟨h.b.take 400, h.s.take 1100, h.t1.take 400, h.t2.take 1100, by show (x.t.body.take 400).length ≤ _; rw [List.length_take]; omega, by show (x.t.sig.take 1100).length ≤ _; rw [List.length_take]; omega⟩
theorem mn_tk (n : Nat) (l : List UInt8) : (if (n : Int) < (l.length : Int) then (n : Int) else (l.length : Int)) = ((l.take n).length : Int) := by
  rw [List.length_take]
  split <;> omega
def p11 (t : Tx) : List Value := dc t.frm ++ [.int .i64 t.non, .int .i64 t.fee, .int .i64 t.kind]
def p12 (t : Tx) (v : Value) : List Value := dc t.frm ++ [.int .i64 t.non, .int .i64 t.fee, .int .i64 t.kind, v]
theorem txc_p11 (t : Tx) (a1 a2 : Option Addr) (c1 c2 : Nat) : txc ⟨t, a1, c1, a2, c2⟩ = p11 t ++ ([.slice a1 t.body.length c1] ++ [.slice a2 t.sig.length c2]) := txc_mid4 t a1 a2 c1 c2
attribute [local irreducible] CG NG SG Vals Der Row Blk MapIs IterAt DerX DerR wrongT nameT
set_option maxHeartbeats 16000000 in
theorem cut_spec {w : World} {n : Nat} {x : Tm} (hx : x.Rd n w) : Ret Try.prog 32 #[txv x] w (txv (cutM x)) := by
  refine enter1 Try.func32 rfl Try.ntmps32 rfl ?_
  have c1 := hx.b.len
  have c2 := hx.s.len
  have m1 : (if (400 : Int) < (x.t.body.length : Int) then (400 : Int) else (x.t.body.length : Int)) = ((x.t.body.take 400).length : Int) := mn_tk 400 x.t.body
  have m2 : (if (1100 : Int) < (x.t.sig.length : Int) then (1100 : Int) else (x.t.sig.length : Int)) = ((x.t.sig.take 1100).length : Int) := mn_tk 1100 x.t.sig
  have m1l : (x.t.body.take 400).length ≤ x.t.body.length := List.length_take_le' _ _
  have m2l : (x.t.sig.take 1100).length ≤ x.t.sig.length := List.length_take_le' _ _
  repeat (first|apply cA|apply cB)
  refine SG.box rfl rfl rfl (by exact rho_of rfl) (fun b1 w1 hk1 hb1 hB1 => ?_)
  have hB1 : Blk w1 b1 (.cells (txc x).toArray 35) := hB1
  have l1 := hB1.lt
  refine SG.alloc rfl rfl rfl (fun b2 w2 hk2 hb2 hB2 => ?_)
  have hB2 : Blk w2 b2 (.cells (txc ⟨⟨zd, 0, 0, 0, [], []⟩, none, 0, none, 0⟩).toArray 35) := hB2
  have hB1 := hB1.kp0 hk2
  have s1 := hk1.size
  rw [show txc x = p11 x.t ++ ([Value.slice x.a1 x.t.body.length x.c1] ++ [Value.slice x.a2 x.t.sig.length x.c2]) from txc_p11 x.t x.a1 x.a2 x.c1 x.c2] at hB1
  have hrow : ∀ {W : World}, Blk W b1 (.cells (p11 x.t ++ ([Value.slice x.a1 x.t.body.length x.c1] ++ [Value.slice x.a2 x.t.sig.length x.c2])).toArray 35) → Row W b1 11 [Value.slice x.a1 x.t.body.length x.c1] ∧ Row W b1 12 [Value.slice x.a2 x.t.sig.length x.c2] := fun {W} h => by
    rw [← txc_p11] at h
    obtain ⟨-, -, -, -, -, r4, r5⟩ := txc_rows h
    exact ⟨r4, r5⟩
  repeat (first|apply cA|apply cD|apply cE)
  refine CG.tailg mixed 16 [0, 1, 2, 3, 4, 5, 6, 7, 8, 9, 10, 11, 12, 13, 14, 15] [15, 1001, 1003, 1008, 1010] [b1] (fun W => Blk W b1 (.cells (p11 x.t ++ ([Value.slice x.a1 x.t.body.length x.c1] ++ [Value.slice x.a2 x.t.sig.length x.c2])).toArray 35)) (by kernel_rfl) hB1 (fun _ _ hk h => h.kp0 hk) ?_
  repeat (refine Der.val rfl rfl rfl (by first|(apply qfa<;>(exact rfl))|fail) ?_)
  refine Der.loadCR rfl rfl rfl rfl rfl (fun W h => (hrow h).1) ?_
  repeat (refine Der.val rfl rfl rfl (by first|(apply qfa<;>(exact rfl))|fail) ?_)
  refine Der.loadCR rfl rfl rfl rfl rfl (fun W h => (hrow h).1) ?_
  repeat (refine Der.val rfl rfl rfl (by first|((first|apply qmn|apply qfa|apply qln|apply qto)<;>(first|exact rfl|exact Ar.mk (by omega)|assumption|fail))|fail) ?_)
  rw [m1]
  skip
  refine Der.loadCR rfl rfl rfl rfl rfl (fun W h => (hrow h).2) ?_
  repeat (refine Der.val rfl rfl rfl (by first|(apply qfa<;>(exact rfl))|fail) ?_)
  refine Der.loadCR rfl rfl rfl rfl rfl (fun W h => (hrow h).2) ?_
  repeat (refine Der.val rfl rfl rfl (by first|((first|apply qmn|apply qfa|apply qln|apply qto)<;>(first|exact rfl|exact Ar.mk (by omega)|assumption|fail))|fail) ?_)
  rw [m2]
  skip
  refine Der.storeMid (p11 x.t) [Value.slice x.a1 x.t.body.length x.c1] [Value.slice x.a2 x.t.sig.length x.c2] rfl rfl rfl rfl (by exact rho_of rfl) (by exact rho_of rfl) rfl rfl (tx_len1 x.t) rfl (by simp) (fun _ _ _ _ => trivial) ?_
  refine Der.tl (fun w3 hk3 _ hB3 => ?_)
  have hB3 : Blk w3 b1 (.cells (p12 x.t (.slice x.a1 (x.t.body.take 400).length x.c1) ++ ([Value.slice x.a2 x.t.sig.length x.c2] ++ [])).toArray 35) := by
    have e : p12 x.t (.slice x.a1 (x.t.body.take 400).length x.c1) ++ ([Value.slice x.a2 x.t.sig.length x.c2] ++ []) = p11 x.t ++ ((Value.slice x.a1 (x.t.body.take 400).length x.c1).cells.toList ++ [Value.slice x.a2 x.t.sig.length x.c2]) := by simp [Value.cells, p11, p12]
    rw [e]
    exact hB3
  have s2 := hk2.size
  refine cU rfl rfl rfl rfl (by first|(apply qfa<;>(exact rfl))|fail) ?_
  refine SG.setMid (p12 x.t (.slice x.a1 (x.t.body.take 400).length x.c1)) [Value.slice x.a2 x.t.sig.length x.c2] [] rfl rfl (by exact rho_of rfl) (by exact rho_of rfl) hB3 rfl rfl rfl (tx_len2 x.t _) rfl (fun w4 hk4 hB4 => ?_)
  have hB4 : Blk w4 b1 (.cells (txc (cutM x)).toArray 35) := by
    have e : txc (cutM x) = p12 x.t (.slice x.a1 (x.t.body.take 400).length x.c1) ++ ((Value.slice x.a2 (x.t.sig.take 1100).length x.c2).cells.toList ++ []) := by
      rw [show txc (cutM x) = _ from txc_mid5 (cutT x.t) x.a1 x.a2 x.c1 x.c2]
      simp [cutT, Value.cells, p12]
    rw [e]
    exact hB4
  obtain ⟨r, -⟩ := txc_rows hB4
  repeat (first|apply cA|apply cB|apply cD|apply cE|refine cU rfl rfl rfl rfl (by first|(apply qla<;>(first|exact rfl|assumption|exact List.not_mem_nil|apply txc_length))|fail) ?_)
  refine SG.setAll (l := txc (cutM x)) rfl rfl (by exact rho_of rfl) (by exact rho_of rfl) ((hB2.kp hk3 (nm1 (by omega))).kp hk4 (nm1 (by omega))) (txc_length _) rfl (txc_one _) (fun w5 hk5 hB2 => ?_)
  have hr : Row w5 b2 0 (txc (cutM x)) := Row.all hB2 rfl
  repeat (first|apply cD|apply cE|apply cH)
  refine ret1 (Or.inl rfl) Try.results32 (ResV.agg rfl rfl hr (txc_length _)) ?_
  exact ⟨rfl, (((hk1.trans hk2).trans_new hk3 (new1 (by omega))).trans_new hk4 (new1 (by omega))).trans_new hk5 (new1 (by omega))⟩
end Go.Proofs.Ytgbgnlboogalgaa
