/-
  A region whose last operations stand behind all others: these in text order, the others in whatever order.
-/
import Derived.Test.YtfelaicoedlejaaSound4
namespace Go.Proofs.Ytfelaicoedlejaa
set_option linter.unusedVariables false

def chkT (n : Nat) (ops : List Oper) (ord gh : List Nat) (k : Nat) : Bool :=
  ops.all (fun o => !isSelect o.op) && ops.all (fun o => o.dst.all (fun d => Nat.blt d n)) && nodupB (ops.filterMap (·.dst)) &&
  (List.range k).all (fun i => ord.elem i) && nodupB ord && ordOk ops gh [] [] ord && ord.all (fun i => Nat.blt i k) && Nat.ble k ops.length &&
  ((List.range ops.length).all fun i => ((ops[i]?).map fun o => (edges o).all (fun e => Nat.blt e i)).getD false) &&
  ((List.range ops.length).all fun i => Nat.blt i k || (List.range i).all (fun j => anc ops i j))

section
variable {P : Program} {n : Nat} {ops : List Oper} {Q : Exit → Act → World → Prop} {S : List Nat} {w0 : World} {L0 : Env} {ord0 gh : List Nat}

structure ChkT (n : Nat) (ops : List Oper) (ord gh : List Nat) (k : Nat) : Prop where
  sel : ∀ o ∈ ops, isSelect o.op = false
  dlt : ∀ o ∈ ops, ∀ d, o.dst = some d → d < n
  one : ∀ (i j : Nat) (oi oj : Oper) (t : Nat), ops[i]? = some oi → ops[j]? = some oj → oi.dst = some t → oj.dst = some t → i = j
  cover : ∀ i, i < k → i ∈ ord
  nodup : ord.Nodup
  ok : ordOk ops gh [] [] ord = true
  lt : ∀ i ∈ ord, i < k
  le : k ≤ ops.length
  ed : ∀ (i : Nat) (o : Oper), ops[i]? = some o → ∀ e ∈ edges o, e < i
  tl : ∀ i, i < ops.length → k ≤ i → ∀ j, j < i → anc ops i j = true

theorem ChkT.of {k : Nat} (h : chkT n ops ord0 gh k = true) : ChkT n ops ord0 gh k := by
  simp only [chkT, Bool.and_eq_true] at h
  obtain ⟨⟨⟨⟨⟨⟨⟨⟨⟨h1, h2⟩, h3⟩, h4⟩, h5⟩, h6⟩, h7⟩, h8⟩, h9⟩, h10⟩ := h
  refine ⟨fun o ho => ?_, fun o ho d hd => ?_, nodup_filterMap_inj ops (nodup_of_B _ h3), fun i hi => ?_, nodup_of_B _ h5, h6, fun i hi => ?_, by simpa [Nat.ble_eq] using h8, fun i o ho e he => ?_, fun i hi hk j hj => ?_⟩
  · simpa using List.all_eq_true.1 h1 o ho
  · have := List.all_eq_true.1 h2 o ho
    rw [hd] at this
    simpa [Nat.blt_eq] using this
  · have := List.all_eq_true.1 h4 i (by simpa using hi)
    rw [List.elem_eq_mem] at this
    exact of_decide_eq_true this
  · simpa [Nat.blt_eq] using List.all_eq_true.1 h7 i hi
  · have := List.all_eq_true.1 h9 i (by simpa using (List.getElem?_eq_some_iff.1 ho).1)
    rw [ho] at this
    simp only [Option.map_some, Option.getD_some] at this
    simpa [Nat.blt_eq] using List.all_eq_true.1 this e he
  · have := List.all_eq_true.1 h10 i (by simpa using hi)
    simp only [Bool.or_eq_true, Nat.blt_eq] at this
    rcases this with h | h
    · omega
    · exact List.all_eq_true.1 h j (by simpa using hj)

theorem ChkT.chk {k : Nat} (c : ChkT n ops ord0 gh k) : Chk n ops ord0 gh (vsS []) :=
  ⟨c.sel, c.dlt, c.one, c.nodup, c.ok, fun i hi => Nat.lt_of_lt_of_le (c.lt i hi) c.le, c.ed, by simpa [vsS] using c.nodup, by simp [vsS], by simp [vsS], Or.inl rfl⟩

/-- The tail, in text order. -/
theorem wpAny_tail (hed : ∀ (i : Nat) (o : Oper), ops[i]? = some o → ∀ e ∈ edges o, e < i) : ∀ (m k : Nat) (listed : Array Bool) (a : Act) (w : World), k + m = ops.length → listed.size = ops.length → (∀ i, i < ops.length → k ≤ i → ∀ j, j < i → anc ops i j = true) →
    (∀ (i : Nat) (o : Oper), ops[i]? = some o → listed.getD i true = true → ∀ e ∈ edges o, listed.getD e true = true) → (∀ i, i < ops.length → listed.getD i true = decide (i < k)) → wpList P ops.toArray Q (ops.drop k) a w → Go.wpAny P .any ops.toArray Q m listed a w := by
  intro m
  induction m with
  | zero =>
    intro k listed a w hk hsz htl hcl hd h
    have : ops.drop k = [] := List.drop_eq_nil_of_le (by omega)
    rw [this] at h
    refine ⟨?_, h⟩
    rw [List.eq_nil_iff_forall_not_mem]
    intro i hi
    obtain ⟨o, ho, h1, _⟩ := (ready_iff hsz).1 hi
    have hil := (List.getElem?_eq_some_iff.1 ho).1
    rw [hd i hil] at h1
    simp at h1
    omega
  | succ m ih =>
    intro k listed a w hk hsz htl hcl hd h
    have hkl : k < ops.length := by omega
    have hko : ops[k]? = some ops[k] := by simp [hkl]
    have hread : k ∈ Region.ready .any ops.toArray listed := by
      refine (ready_iff hsz).2 ⟨ops[k], hko, ?_, fun e he => ?_⟩
      · rw [hd k hkl]; simp
      · have hek := hed k _ hko e he
        have := hd e (by omega)
        simp only [Array.getD_eq_getD_getElem?] at this ⊢
        rw [Array.getElem?_eq_getElem (by omega)] at this ⊢
        simp at this ⊢
        rw [this]
        simp [hek]
    refine ⟨fun hr => (by rw [hr] at hread; cases hread), fun i hi => ?_⟩
    obtain ⟨o, ho, h1, h2⟩ := (ready_iff hsz).1 hi
    have hil := (List.getElem?_eq_some_iff.1 ho).1
    have hge : k ≤ i := by
      rw [hd i hil] at h1
      simpa using h1
    have hik : i = k := by
      by_cases e : i = k
      · exact e
      · exfalso
        have hanc := htl i hil hge k (by omega)
        have := anc_closed hcl i o ho (fun e he => by
          have := h2 e he
          simp only [Array.getD_eq_getD_getElem?] at this ⊢
          cases h : listed[e]? with
          | none => rfl
          | some b => rw [h] at this; exact this) k hanc
        rw [hd k hkl] at this
        simp at this
    subst hik
    have hdrop : ops.drop i = o :: ops.drop (i + 1) := by
      rw [List.drop_eq_getElem_cons hil]
      congr 1
      exact (List.getElem?_eq_some_iff.1 ho).2
    rw [hdrop] at h
    have next : ∀ a' w', wpList P ops.toArray Q (ops.drop (i + 1)) a' w' → Go.wpAny P .any ops.toArray Q m (listed.setIfInBounds i true) a' w' := by
      intro a' w' h'
      refine ih (i + 1) _ a' w' (by omega) (by simp [hsz]) (fun j hj hij => htl j hj (by omega)) ?_ ?_ h'
      · intro j oj hj hdj e he
        rw [getD_set (by omega)] at hdj ⊢
        by_cases hji : j = i
        · subst hji
          rw [ho] at hj
          cases hj
          have hei := hed j o ho e he
          exact setD_of (by rw [hd e (by omega)]; simp [hei])
        · rw [setD_ne hji] at hdj
          exact setD_of (hcl j oj hj hdj e he)
      · intro j hj
        rw [getD_set (by omega)]
        by_cases hji : j = i
        · subst hji; simp [setD_same]
        · rw [setD_ne hji, hd j hj]
          by_cases hlt : j < i
          · simp [hlt, Nat.lt_succ_of_lt hlt]
          · have : ¬ j < i + 1 := by omega
            simp [hlt, this]
    unfold wpOp
    simp only [List.getElem?_toArray, ho]
    unfold wpList at h
    by_cases hw : Region.wanted o (yielded ops.toArray a.tmps) = true
    · rw [if_pos hw] at h ⊢
      rcases h with h | h
      · exact Or.inl (Oper.wp_mono next h)
      · exact Or.inr h
    · rw [if_neg hw] at h ⊢
      exact next _ _ h

def KTail (n : Nat) (S : List Nat) (w0 : World) (P : Program) (ops : List Oper) (Q : Exit → Act → World → Prop) (k : Nat) (L : Env) (F R : World → Prop) : Prop :=
  ∀ w', Kp S w0 w' → F w' → R w' → ∀ a, Fits n a L → wpList P ops.toArray Q (ops.drop k) a w'

theorem St.wpAnyT {k : Nat} (ct : ChkT n ops ord0 gh k) : ∀ (fuel : Nat) (listed : Array Bool) (F R : World → Prop) (a : Act) (w : World) (Dv : List Ent) (ord : List Nat),
    listed.size = ops.length → St P n ops gh S w0 L0 ord0 [] (fun j => listed.getD j true) Dv ord F R (fun _ => 0) a w → Der P S w0 ops gh (KTail n S w0 P ops Q k) ord (env L0 Dv) F R → Stab S F → Stab [] R → (∀ i, i < ops.length → k ≤ i → listed.getD i true = false) →
    (List.range ops.length).countP (fun i => !listed.getD i true) = fuel → Go.wpAny P .any ops.toArray Q fuel listed a w := by
  have c := ct.chk
  intro fuel
  induction fuel with
  | zero =>
    intro listed F R a w Dv ord hsz hst hder hFs hRs htl hcnt
    rw [List.countP_eq_zero] at hcnt
    have hall : ∀ i, i < ops.length → listed.getD i true = true := fun i hi => by simpa using hcnt i (by simpa using hi)
    obtain ⟨Dv', ord', hst', hn⟩ := St.adv c ord Dv hst hder
    have hk : k = ops.length := by
      have hle := ct.le
      by_cases h : k < ops.length
      · have := htl k h (Nat.le_refl _)
        rw [hall k h] at this
        cases this
      · omega
    rcases hn with ⟨rfl, hK⟩ | ⟨i, ord'', o, rfl, ho, _⟩
    · refine wpAny_tail ct.ed 0 k listed a w (by omega) hsz ct.tl hst'.closed (fun i hi => by rw [hall i hi]; simp; omega) (hK w hst'.kp hst'.hF hst'.hR a ⟨fun t v hv => ?_, hst'.size, hst'.defers⟩)
      refine hst'.frame t v ?_ (by simp)
      rw [curv_env Dv' (fun e he _ => hall e.i (c.lt e.i (hst'.ent_ord he)))]
      exact hv
    · have h1 := hst'.fresh i (by simp)
      rw [hall i (List.getElem?_eq_some_iff.1 ho).1] at h1
      cases h1
  | succ fuel ih =>
    intro listed F R a w Dv ord hsz hst hder hFs hRs htl hcnt
    obtain ⟨Dv', ord', hst', hn⟩ := St.adv c ord Dv hst hder
    have hder' : Der P S w0 ops gh (KTail n S w0 P ops Q k) ord' (env L0 Dv') F R := by
      rcases hn with ⟨rfl, hK⟩ | ⟨i, ord'', o, rfl, ho, hw, hg, X, val, F', R', hgh, hd⟩
      · exact hK
      · exact ⟨o, ho, Or.inr (Or.inr (Or.inr ⟨hw, hg, X, val, F', R', hgh, hd⟩))⟩
    by_cases hpre : ∀ i, i < k → listed.getD i true = true
    · -- the others are done
      have hle := ct.le
      have hdec : ∀ i, i < ops.length → listed.getD i true = decide (i < k) := by
        intro i hi
        by_cases hik : i < k
        · rw [hpre i hik]; simp [hik]
        · rw [htl i hi (by omega)]; simp [hik]
      have hm : k + (fuel + 1) = ops.length := by
        have : (List.range ops.length).countP (fun i => !listed.getD i true) = ops.length - k := by
          have e1 : (List.range ops.length).countP (fun i => !listed.getD i true) = (List.range ops.length).countP (fun i => !decide (i < k)) := by
            apply List.countP_congr
            intro i hi
            rw [hdec i (by simpa using hi)]
          rw [e1]
          have : ops.length = k + (ops.length - k) := by omega
          rw [this, List.range_add, List.countP_append, List.countP_map]
          have h1 : (List.range k).countP (fun i => !decide (i < k)) = 0 := by
            rw [List.countP_eq_zero]; intro i hi; simp at hi; simp [hi]
          have h2 : (List.range (ops.length - k)).countP ((fun i => !decide (i < k)) ∘ fun x => k + x) = (List.range (ops.length - k)).length := by
            rw [List.countP_eq_length]; intro i hi; simp
          rw [h1, h2]
          simp
        omega
      rcases hn with ⟨rfl, hK⟩ | ⟨i, ord'', o, rfl, ho, _⟩
      · refine wpAny_tail ct.ed (fuel + 1) k listed a w hm hsz ct.tl hst'.closed hdec (hK w hst'.kp hst'.hF hst'.hR a ⟨fun t v hv => ?_, hst'.size, hst'.defers⟩)
        refine hst'.frame t v ?_ (by simp)
        rw [curv_env Dv' (fun e he _ => hpre e.i (ct.lt e.i (hst'.ent_ord he)))]
        exact hv
      · have h1 := hst'.fresh i (by simp)
        have hi0 : i ∈ ord0 := by rw [← hst'.idx]; simp
        rw [hpre i (ct.lt i hi0)] at h1
        cases h1
    · constructor
      · intro hr
        exfalso
        apply hpre
        intro i
        induction i using Nat.strongRecOn with
        | _ i ihi =>
          intro hik
          have hle := ct.le
          cases hd : listed.getD i true with
          | true => rfl
          | false =>
            exfalso
            have : i ∈ Region.ready .any ops.toArray listed := by
              refine (ready_iff hsz).2 ⟨ops[i], by simp, hd, fun e he => ?_⟩
              have hei := ct.ed i ops[i] (by simp) e he
              have := ihi e hei (by omega)
              simp only [Array.getD_eq_getD_getElem?] at this ⊢
              rw [Array.getElem?_eq_getElem (by omega)] at this ⊢
              exact this
            rw [hr] at this
            cases this
      · intro i hi
        obtain ⟨o, ho, hnd, hed'⟩ := (ready_iff hsz).1 hi
        have hil : i < ops.length := (List.getElem?_eq_some_iff.1 ho).1
        have hed : ∀ e ∈ edges o, listed.getD e true = true := by
          intro e he
          have := hed' e he
          simp only [Array.getD_eq_getD_getElem?] at this ⊢
          cases h : listed[e]? with
          | none => rfl
          | some b => rw [h] at this; exact this
        have hanc : ∀ j, anc ops i j = true → listed.getD j true = true := anc_closed hst'.closed i o ho hed
        have hsz' : (listed.setIfInBounds i true).size = ops.length := by simp [hsz]
        have hset : (fun j => (listed.setIfInBounds i true).getD j true) = setD (fun j => listed.getD j true) i := funext fun j => getD_set (by omega)
        by_cases hik : i < k
        · have htl' : ∀ j, j < ops.length → k ≤ j → (listed.setIfInBounds i true).getD j true = false := by
            intro j hj hkj
            rw [getD_set (by omega), setD_ne (by omega)]
            exact htl j hj hkj
          have hcnt' : (List.range ops.length).countP (fun j => !(listed.setIfInBounds i true).getD j true) = fuel := by
            have key : ∀ (l : List Nat), l.Nodup → i ∈ l → l.countP (fun j => !listed.getD j true) = l.countP (fun j => !(listed.setIfInBounds i true).getD j true) + 1 := by
              intro l
              induction l with
              | nil => intro _ h; cases h
              | cons y l ihl =>
                intro hnl hm
                rw [List.nodup_cons] at hnl
                rw [List.countP_cons, List.countP_cons]
                by_cases e : y = i
                · subst e
                  have hsame : l.countP (fun j => !listed.getD j true) = l.countP (fun j => !(listed.setIfInBounds y true).getD j true) := by
                    apply List.countP_congr
                    intro j hj
                    rw [getD_set (by omega), setD_ne (show j ≠ y from fun e1 => hnl.1 (e1 ▸ hj))]
                  rw [hsame, getD_set (by omega), setD_same, hnd]
                  simp
                · have hm' : i ∈ l := by
                    rcases List.mem_cons.1 hm with h | h
                    · exact absurd h.symm e
                    · exact h
                  rw [ihl hnl.2 hm', getD_set (by omega), setD_ne e]
                  omega
            have := key (List.range ops.length) List.nodup_range (by simpa using hil)
            omega
          have hio := ct.cover i hik
          rcases hst'.mem_idx hio with ⟨e, he, rfl⟩ | hin
          · have heo : o = e.o := Option.some.inj (ho.symm.trans (hst'.ent e he))
            subst heo
            obtain ⟨pre, post, hD⟩ := List.append_of_mem he
            have hlk := hst'.looks c hD hnd hanc
            have next : ∀ w', Kp [] w w' → Go.wpAny P .any ops.toArray Q fuel (listed.setIfInBounds e.i true) (a.put e.o.dst e.v) w' := by
              intro w' hk
              refine ih _ F R _ w' Dv' ord' hsz' ?_ hder' hFs hRs htl' hcnt'
              rw [hset]
              exact hst'.did c hFs hRs (by simp) he hnd hed hk
            rcases hst'.obl pre e post hD hnd with ⟨hw, hkn, hp⟩ | ⟨hw, hv⟩ | ⟨hw, _, hkn, hp⟩
            · refine wpOp_of ho (wanted_of hlk hw) (fun _ => ?_) (fun h => by cases h)
              have hr := hp w hst'.kp hst'.hF
              have hr' := OpRun.congr (c.sel e.o (List.mem_of_getElem? ho)) (eval_of hlk hkn) hr
              exact hr'.wp (fun v w' ⟨h1, h2⟩ => by rw [h1]; exact next w' h2)
            · refine wpOp_of ho (wanted_of hlk hw) (fun h => by cases h) (fun _ => ?_)
              rw [← hv]
              exact next w (Kp.refl _ _)
            · refine wpOp_of ho (wanted_of hlk hw) (fun _ => ?_) (fun h => by cases h)
              have hr := hp w hst'.kp hst'.hF hst'.hR
              have hr' := OpRun.congr (c.sel e.o (List.mem_of_getElem? ho)) (eval_of hlk hkn) hr
              exact hr'.wp (fun v w' ⟨h1, h2⟩ => by rw [h1]; exact next w' h2)
          · rcases hn with ⟨rfl, _⟩ | ⟨q, ord'', ok, rfl, hok, hw, hg, X, val, F', R', hgh, hd⟩
            · cases hin
            · have hord : ord0 = (Dv'.map (·.i)).reverse ++ q :: ord'' := hst'.idx.symm
              obtain ⟨hs, hlater⟩ := ordOk_spec [] ord0 c.ok _ q _ hord ok hok
              rcases List.mem_cons.1 hin with rfl | hin
              · have heo : o = ok := Option.some.inj (ho.symm.trans hok)
                subst heo
                have hlk : ∀ t ∈ lks ops o, ∀ v, look (env L0 Dv') t = some v → a.tmps[t]? = some v := by
                  intro t ht v hv
                  obtain ⟨h1, h2, h3⟩ := hs t ht
                  refine hst'.frame t v ?_ (by simp)
                  rw [curv_env Dv']
                  · exact hv
                  · intro q hq hqt
                    exact hanc q.i (h1 q.i (Or.inr (by rw [List.mem_reverse]; exact List.mem_map.2 ⟨q, hq, rfl⟩)) (by simp [dstOf, hst'.ent q hq, hqt]))
                obtain ⟨hkn, hF's, hR's, hrun⟩ := hgh
                refine wpOp_of ho (wanted_of hlk hw) (fun _ => ?_) (fun h => by cases h)
                have hr := hrun w hst'.kp hst'.hF hst'.hR
                have hr' := OpRun.congr (c.sel o (List.mem_of_getElem? ho)) (eval_of hlk hkn) hr
                refine hr'.wp (fun v w' ⟨x, h1, h2, h3, h4⟩ => ?_)
                subst h1
                refine ih _ (fun w => F w ∧ F' x w) (R' x) _ w' (⟨i, o, val x⟩ :: Dv') ord'' hsz' ?_ (hd x) (fun w1 w2 hk hf => ⟨hFs _ _ hk hf.1, hF's x _ _ hk hf.2⟩) (hR's x) htl' hcnt'
                rw [hset]
                exact hst'.ghost c rfl hFs ho hed hg h4 h2 h3
              · have h1 := hanc q ((hlater hg).1 i hin)
                have h2 := hst'.fresh q (by simp)
                rw [h1] at h2
                cases h2
        · exfalso
          apply hpre
          intro j hj
          exact hanc j (ct.tl i hil (by omega) j (by omega))

/-- THE RULE, with a tail from k on. -/
theorem region_tail {id : Nat} {a : Act} (hm : P.follows .mixedOrders = true) (k : Nat) (ord gh : List Nat) (S : List Nat) (R : World → Prop)
    (hc : chkT n ops ord gh k = true) (ha : Fits n a L0) (hR0 : R w0) (hRs : Stab [] R)
    (h : Der P S w0 ops gh (KTail n S w0 P ops Q k) ord L0 (fun _ => True) R) : (Code.region id ops.toArray true).wp P Q a w0 := by
  have ct := ChkT.of hc
  refine wp_region_any hm ?_
  have hget : ∀ j, (Array.replicate ops.toArray.size false).getD j true = !decide (j < ops.length) := by
    intro j
    simp [Array.getD_eq_getD_getElem?, Array.getElem?_replicate]
    split <;> simp_all
  refine St.wpAnyT (L0 := L0) ct _ _ (fun _ => True) R a _ [] ord (by simp) ?_ h (fun _ _ _ _ => trivial) hRs ?_ ?_
  · have hD : (fun j => (Array.replicate ops.toArray.size false).getD j true) = fun j => !decide (j < ops.length) := funext hget
    rw [hD]
    refine ⟨fun i o ho hd => ?_, fun i hi => ?_, by simp, by simp, by simp, ha.size, ha.defers, fun t v hv _ => ha.slot t v (by simpa [curv] using hv), by simp, (Kp.refl S w0).drew, trivial, hRs _ _ (Kp.refl [] w0).drew hR0, by simp, by simp⟩
    · simp [(List.getElem?_eq_some_iff.1 ho).1] at hd
    · have h1 := ct.lt i hi
      have h2 := ct.le
      have : i < ops.length := by omega
      simp [this]
  · intro i hi _
    rw [hget]; simp [hi]
  · have : (List.range ops.length).countP (fun i => !(Array.replicate ops.toArray.size false).getD i true) = (List.range ops.length).length := by
      rw [List.countP_eq_length]
      intro i hi
      rw [hget]
      simp at hi
      simp [hi]
    rw [this]
    simp

end
end Go.Proofs.Ytfelaicoedlejaa
