/-
  The rule for a region that draws its order.
-/
import Derived.Test.YtfelaicoedlejaaSound3
namespace Go.Proofs.Ytfelaicoedlejaa
set_option linter.unusedVariables false

theorem getD_set {l : Array Bool} {i j : Nat} (hi : i < l.size) : (l.setIfInBounds i true).getD j true = setD (fun j => l.getD j true) i j := by
  unfold setD
  by_cases h : j = i
  · subst h
    simp [Array.getD_eq_getD_getElem?, hi]
  · rw [if_neg h]
    simp [Array.getD_eq_getD_getElem?, Array.getElem?_setIfInBounds_ne (fun e => h e.symm)]

theorem ready_iff {ops : List Oper} {listed : Array Bool} {i : Nat} (hsz : listed.size = ops.length) : i ∈ Region.ready .any ops.toArray listed ↔
    ∃ o, ops[i]? = some o ∧ listed.getD i true = false ∧ ∀ e ∈ edges o, listed.getD e false = true := by
  unfold Region.ready
  simp only [List.mem_filter, List.mem_range, List.size_toArray, Bool.and_eq_true, Bool.not_eq_true', List.getElem?_toArray]
  constructor
  · rintro ⟨hi, h1, h2⟩
    refine ⟨ops[i], by simp [hi], h1, fun e he => ?_⟩
    rw [List.getElem?_eq_getElem hi] at h2
    simp only [Option.map_some, Option.getD_some, Array.all_eq_true_iff_forall_mem] at h2
    unfold edges at he
    obtain ⟨ed, hed, rfl⟩ := List.mem_map.1 he
    obtain ⟨hm, hb⟩ := List.mem_filter.1 hed
    have := h2 ed (by simpa using hm)
    simpa [hb] using this
  · rintro ⟨o, ho, h1, h2⟩
    refine ⟨(List.getElem?_eq_some_iff.1 ho).1, h1, ?_⟩
    rw [ho]
    simp only [Option.map_some, Option.getD_some, Array.all_eq_true_iff_forall_mem]
    intro ed hed
    cases hb : Region.binds .any ed with
    | false => rfl
    | true =>
      have := h2 ed.on (List.mem_map.2 ⟨ed, List.mem_filter.2 ⟨by simpa using hed, hb⟩, rfl⟩)
      simp [this]

theorem look_vars {β : Nat → Nat} {L : Env} {t : Nat} {v : Value} : ∀ (l : List Vr), look (l.map (fun v => (v.d, Value.pointer (some ⟨β v.al, 0, none⟩))) ++ L) t = some v →
    (∃ x ∈ l, x.d = t ∧ v = .pointer (some ⟨β x.al, 0, none⟩)) ∨ ((∀ x ∈ l, x.d ≠ t) ∧ look L t = some v)
  | [], h => Or.inr ⟨fun _ h => (by cases h), h⟩
  | x :: l, h => by
    simp only [List.map_cons, List.cons_append] at h
    by_cases e : x.d = t
    · subst e
      rw [look_here] at h
      cases h
      exact Or.inl ⟨x, by simp, rfl, rfl⟩
    · rw [look_ne e] at h
      rcases look_vars l h with ⟨y, hy, h1, h2⟩ | ⟨h1, h2⟩
      · exact Or.inl ⟨y, by simp [hy], h1, h2⟩
      · refine Or.inr ⟨fun y hy => ?_, h2⟩
        rcases List.mem_cons.1 hy with rfl | hy
        · exact e
        · exact h1 y hy

section
variable {P : Program} {n : Nat} {ops : List Oper} {Q : Exit → Act → World → Prop} {S : List Nat} {w0 : World} {L0 : Env} {ord0 gh : List Nat} {vs : List Vr}

theorem wpOp_of {i : Nat} {o : Oper} {K : Act → World → Prop} {a : Act} {w : World} (ho : ops[i]? = some o) {r : Bool} (hw : Region.wanted o (yielded ops.toArray a.tmps) = r)
    (h1 : r = true → o.wp P a w K Q) (h2 : r = false → K (a.put o.dst undef) w) : wpOp P ops.toArray Q i K a w := by
  unfold wpOp
  simp only [List.getElem?_toArray, ho, hw]
  cases r with
  | true => exact Or.inl (h1 rfl)
  | false => exact h2 rfl

theorem St.wpAny (c : Chk n ops ord0 gh (vsS vs)) (hcov : ∀ i, i < ops.length → i ∈ ord0 ∨ ∃ v ∈ vsS vs, v.1 = i ∨ v.2.1 = i) (hS : ∀ x ∈ S, x < w0.heap.size) (hva : ∀ x ∈ vs, dstOf ops x.al = some x.d) : ∀ (fuel : Nat) (listed : Array Bool) (F R : World → Prop) (β : Nat → Nat) (a : Act) (w : World) (Dv : List Ent) (ord : List Nat),
    listed.size = ops.length → St P n ops gh S w0 L0 ord0 vs (fun j => listed.getD j true) Dv ord F R β a w → Der P S w0 ops gh (KFin n S w0 P ops Q vs) ord (env L0 Dv) F R → Stab S F → Stab [] R → (vs = [] ∨ ((∀ w, F w) ∧ ∀ w, R w)) →
    (List.range ops.length).countP (fun i => !listed.getD i true) ≤ fuel → Go.wpAny P .any ops.toArray Q fuel listed a w := by
  intro fuel
  induction fuel with
  | zero =>
    intro listed F R β a w Dv ord hsz hst hder hFs hRs hvF hcnt
    have hall : ∀ i, i < ops.length → listed.getD i true = true := by
      intro i hi
      have : (List.range ops.length).countP (fun i => !listed.getD i true) = 0 := by omega
      rw [List.countP_eq_zero] at this
      simpa using this i (by simpa using hi)
    obtain ⟨Dv', ord', hst', hn⟩ := St.adv c ord Dv hst hder
    refine ⟨?_, ?_⟩
    · rw [List.eq_nil_iff_forall_not_mem]
      intro i hi
      obtain ⟨o, ho, h1, _⟩ := (ready_iff hsz).1 hi
      rw [hall i (List.getElem?_eq_some_iff.1 ho).1] at h1
      cases h1
    · rcases hn with ⟨rfl, hK⟩ | ⟨i, ord'', o, rfl, ho, _⟩
      · refine hK.2 β a w ⟨⟨fun t v hv => ?_, hst'.size, hst'.defers⟩, hst'.kp, hst'.hF, hst'.hR, fun v hv => ?_, fun v hv v' hv' hne => ?_⟩
        · rcases look_vars vs hv with ⟨x, hx, h1, h2⟩ | ⟨h1, h2⟩
          · have := hst'.vfr x hx (hall _ (by have := hva x hx; unfold dstOf at this; cases hh : ops[x.al]? with | none => rw [hh] at this; simp at this | some o => exact (List.getElem?_eq_some_iff.1 hh).1))
            rw [← h1, this, h2]
          · refine hst'.frame t v ?_ h1
            rw [curv_env Dv' (fun e he _ => hall e.i (c.lt e.i (hst'.ent_ord he)))]
            exact h2
        · obtain ⟨⟨oa, hoa, _⟩, ⟨op, hop, _⟩, _⟩ := hK.1 v hv
          have h1 := hall v.al (List.getElem?_eq_some_iff.1 hoa).1
          have h2 := hall v.pt (List.getElem?_eq_some_iff.1 hop).1
          have := hst'.vw v hv h1
          rw [if_pos h2] at this
          exact this
        · obtain ⟨⟨oa, hoa, _⟩, _, _⟩ := hK.1 v hv
          obtain ⟨⟨oa', hoa', _⟩, _, _⟩ := hK.1 v' hv'
          exact hst'.vd v hv v' hv' (hall v.al (List.getElem?_eq_some_iff.1 hoa).1) (hall v'.al (List.getElem?_eq_some_iff.1 hoa').1) hne
      · have h1 := hst'.fresh i (by simp)
        rw [hall i (List.getElem?_eq_some_iff.1 ho).1] at h1
        cases h1
  | succ fuel ih =>
    intro listed F R β a w Dv ord hsz hst hder hFs hRs hvF hcnt
    obtain ⟨Dv', ord', hst', hn⟩ := St.adv c ord Dv hst hder
    have hder' : Der P S w0 ops gh (KFin n S w0 P ops Q vs) ord' (env L0 Dv') F R := by
      rcases hn with ⟨rfl, hK⟩ | ⟨i, ord'', o, rfl, ho, hw, hg, X, val, F', R', hgh, hd⟩
      · exact hK
      · exact ⟨o, ho, Or.inr (Or.inr (Or.inr ⟨hw, hg, X, val, F', R', hgh, hd⟩))⟩
    constructor
    · -- nothing is ready: all is done
      intro hr
      have hall : ∀ i, i < ops.length → listed.getD i true = true := by
        intro i
        induction i using Nat.strongRecOn with
        | _ i ihi =>
          intro hi
          cases hd : listed.getD i true with
          | true => rfl
          | false =>
            exfalso
            have : i ∈ Region.ready .any ops.toArray listed := by
              refine (ready_iff hsz).2 ⟨ops[i], by simp [hi], hd, fun e he => ?_⟩
              have hei := c.ed i ops[i] (by simp [hi]) e he
              have := ihi e hei (by omega)
              simp only [Array.getD_eq_getD_getElem?] at this ⊢
              rw [Array.getElem?_eq_getElem (by omega)] at this ⊢
              exact this
            rw [hr] at this
            cases this
      have := ih listed F R β a w Dv' ord' hsz hst' hder' hFs hRs hvF (by
        have : (List.range ops.length).countP (fun i => !listed.getD i true) = 0 := by
          rw [List.countP_eq_zero]
          intro i hi
          simp [hall i (by simpa using hi)]
        omega)
      cases fuel with
      | zero => exact this.2
      | succ f => exact this.1 hr
    · intro i hi
      obtain ⟨o, ho, hnd, hed'⟩ := (ready_iff hsz).1 hi
      have hil : i < ops.length := (List.getElem?_eq_some_iff.1 ho).1
      have hed : ∀ e ∈ edges o, listed.getD e true = true := by
        intro e he
        have := hed' e he
        simp only [Array.getD_eq_getD_getElem?] at this ⊢
        cases h : listed[e]? with
        | none => rfl
        | some b => rw [h] at this; exact this
      have hanc : ∀ j, anc ops i j = true → listed.getD j true = true := anc_closed hst'.closed i o ho hed
      have hsz' : (listed.setIfInBounds i true).size = ops.length := by simp [hsz]
      have hset : (fun j => (listed.setIfInBounds i true).getD j true) = setD (fun j => listed.getD j true) i := funext fun j => getD_set (by omega)
      have hcnt' : (List.range ops.length).countP (fun j => !(listed.setIfInBounds i true).getD j true) ≤ fuel := by
        have := countP_lt (p := fun j => !listed.getD j true) (q := fun j => !(listed.setIfInBounds i true).getD j true) (List.range ops.length) (fun x hx => by
          rw [getD_set (by omega)] at hx
          by_cases e : x = i
          · subst e; simp [setD_same] at hx
          · rw [setD_ne e] at hx; exact hx) i (by simpa using hil) (by simp [hnd]) (by rw [getD_set (by omega), setD_same]; rfl)
        omega
      rcases hcov i hil with hio | ⟨v, hv, hvi⟩
      · rcases hst'.mem_idx hio with ⟨e, he, rfl⟩ | hin
        · -- an entry
          have heo : o = e.o := Option.some.inj (ho.symm.trans (hst'.ent e he))
          subst heo
          obtain ⟨pre, post, hD⟩ := List.append_of_mem he
          have hlk := hst'.looks c hD hnd hanc
          have next : ∀ w', Kp [] w w' → Go.wpAny P .any ops.toArray Q fuel (listed.setIfInBounds e.i true) (a.put e.o.dst e.v) w' := by
            intro w' hk
            refine ih _ F R β _ w' Dv' ord' hsz' ?_ hder' hFs hRs hvF hcnt'
            rw [hset]
            exact hst'.did c hFs hRs hva he hnd hed hk
          rcases hst'.obl pre e post hD hnd with ⟨hw, hkn, hp⟩ | ⟨hw, hv⟩ | ⟨hw, _, hkn, hp⟩
          · refine wpOp_of ho (wanted_of hlk hw) (fun _ => ?_) (fun h => by cases h)
            have hr := hp w hst'.kp hst'.hF
            have hr' := OpRun.congr (c.sel e.o (List.mem_of_getElem? ho)) (eval_of hlk hkn) hr
            exact hr'.wp (fun v w' ⟨h1, h2⟩ => by rw [h1]; exact next w' h2)
          · refine wpOp_of ho (wanted_of hlk hw) (fun h => by cases h) (fun _ => ?_)
            rw [← hv]
            exact next w (Kp.refl _ _)
          · refine wpOp_of ho (wanted_of hlk hw) (fun _ => ?_) (fun h => by cases h)
            have hr := hp w hst'.kp hst'.hF hst'.hR
            have hr' := OpRun.congr (c.sel e.o (List.mem_of_getElem? ho)) (eval_of hlk hkn) hr
            exact hr'.wp (fun v w' ⟨h1, h2⟩ => by rw [h1]; exact next w' h2)
        · -- the ghost at the head
          rcases hn with ⟨rfl, _⟩ | ⟨k, ord'', ok, rfl, hok, hw, hg, X, val, F', R', hgh, hd⟩
          · cases hin
          · have hv0 : vs = [] := by
              rcases c.ng with h | h
              · unfold vsS at h; simpa using h
              · rw [h] at hg; cases hg
            have hord : ord0 = (Dv'.map (·.i)).reverse ++ k :: ord'' := hst'.idx.symm
            obtain ⟨hs, hlater⟩ := ordOk_spec [] ord0 c.ok _ k _ hord ok hok
            rcases List.mem_cons.1 hin with rfl | hin
            · have heo : o = ok := Option.some.inj (ho.symm.trans hok)
              subst heo
              have hlk : ∀ t ∈ lks ops o, ∀ v, look (env L0 Dv') t = some v → a.tmps[t]? = some v := by
                intro t ht v hv
                obtain ⟨h1, h2, h3⟩ := hs t ht
                refine hst'.frame t v ?_ (by rw [hv0]; simp)
                rw [curv_env Dv']
                · exact hv
                · intro q hq hqt
                  exact hanc q.i (h1 q.i (Or.inr (by rw [List.mem_reverse]; exact List.mem_map.2 ⟨q, hq, rfl⟩)) (by simp [dstOf, hst'.ent q hq, hqt]))
              obtain ⟨hkn, hF's, hR's, hrun⟩ := hgh
              refine wpOp_of ho (wanted_of hlk hw) (fun _ => ?_) (fun h => by cases h)
              have hr := hrun w hst'.kp hst'.hF hst'.hR
              have hr' := OpRun.congr (c.sel o (List.mem_of_getElem? ho)) (eval_of hlk hkn) hr
              refine hr'.wp (fun v w' ⟨x, h1, h2, h3, h4⟩ => ?_)
              subst h1
              refine ih _ (fun w => F w ∧ F' x w) (R' x) β _ w' (⟨i, o, val x⟩ :: Dv') ord'' hsz' ?_ (hd x) (fun w1 w2 hk hf => ⟨hFs _ _ hk hf.1, hF's x _ _ hk hf.2⟩) (hR's x) (Or.inl hv0) hcnt'
              rw [hset]
              exact hst'.ghost c hv0 hFs ho hed hg h4 h2 h3
            · have h1 := hanc k ((hlater hg).1 i hin)
              have h2 := hst'.fresh k (by simp)
              rw [h1] at h2
              cases h2
      · -- a variable
        obtain ⟨x, hx, rfl⟩ := List.mem_map.1 hv
        have hng : gh = [] := by
          rcases c.ng with h | h
          · unfold vsS at h; simp at h; subst h; cases hx
          · exact h
        obtain ⟨hord, hK⟩ : ord' = [] ∧ KFin n S w0 P ops Q vs (env L0 Dv') F R := by
          rcases hn with h | ⟨k, ord'', ok, rfl, hok, hw, hg, _⟩
          · exact h
          · rw [hng] at hg; cases hg
        obtain ⟨⟨oa, hoa, ha1, ha2, ha3⟩, ⟨op, hop, hp1, hp2, hp3⟩, hkn, hral, hrpt⟩ := hK.1 x hx
        have hFR : (∀ w, F w) ∧ ∀ w, R w := by
          rcases hvF with h | h
          · rw [h] at hx; cases hx
          · exact h
        simp only at hvi
        rcases hvi with rfl | rfl
        · have heo : o = oa := Option.some.inj (ho.symm.trans hoa)
          subst heo
          have hnp : listed.getD x.pt true = false := by
            cases h : listed.getD x.pt true with
            | false => rfl
            | true =>
              have := anc_closed hst'.closed x.pt op hop (hst'.closed x.pt op hop h) x.al (c.va _ hv)
              rw [this] at hnd
              cases hnd
          refine wpOp_of ho (r := true) (by unfold Region.wanted; rw [ha3]) (fun _ => ?_) (fun h => by cases h)
          unfold Oper.wp
          have : (execOp a.eval o).run P w = .ok (.value (.pointer (some ⟨w.heap.size, 0, none⟩))) { w with heap := w.heap.push (.cells x.z x.T) } := by
            simp [execOp, ha1, hral, Result.andThen]
          rw [this]
          simp only [Oper.upon]
          refine ih _ F R (updN β x.al w.heap.size) _ _ Dv' ord' hsz' ?_ hder' hFs hRs hvF hcnt'
          rw [hset]
          exact hst'.made c hFs hRs hva hx hnd hnp ho hed ha2
        · have heo : o = op := Option.some.inj (ho.symm.trans hop)
          subst heo
          have had : listed.getD x.al true = true := hanc x.al (c.va _ hv)
          have hvx := c.vx _ hv
          simp only at hvx
          have hb := (hst'.vw x hx had).2
          rw [hnd] at hb
          simp only [Bool.false_eq_true, if_false] at hb
          have hea : a.eval (.tmp x.d) = .pointer (some ⟨β x.al, 0, none⟩) := by
            simp [Act.eval, Array.getD_eq_getD_getElem?, hst'.vfr x hx had]
          have hex : a.eval x.x = rho (env L0 Dv') x.x := by
            cases hxx : x.x with
            | tmp t =>
              have hkn' := hkn
              rw [hxx] at hkn'
              simp only [known, Option.isSome_iff_exists] at hkn'
              obtain ⟨v, hv'⟩ := hkn'
              obtain ⟨g1, g2⟩ := hvx t (by rw [hxx]; simp [opTmp])
              have := hst'.frame t v (by
                rw [curv_env Dv']
                · exact hv'
                · intro q hq hqt
                  exact hanc q.i (g2 q.i (hst'.ent_ord hq) (by simp [dstOf, hst'.ent q hq, hqt]))) (fun y hy => g1 _ (List.mem_map.2 ⟨y, hy, rfl⟩))
              simp [Act.eval, rho, hv', Array.getD_eq_getD_getElem?, this]
            | _ => rfl
          refine wpOp_of ho (r := true) (by unfold Region.wanted; rw [hp3]) (fun _ => ?_) (fun h => by cases h)
          unfold Oper.wp
          have : (execOp a.eval o).run P w = .ok .skip { w with heap := w.heap.setIfInBounds (β x.al) (.cells x.c x.T) } := by
            simp [execOp, hp1, hea, hex, hrpt w _ hb, Result.andThen]
          rw [this]
          simp only [Oper.upon]
          refine ih _ F R β _ _ Dv' ord' hsz' ?_ hder' hFs hRs hvF hcnt'
          rw [hset]
          exact hst'.filled c hFR.1 hFR.2 hS hx had hnd ho hed hp2

/-- THE RULE. -/
theorem region_any {id : Nat} {a : Act} (hm : P.follows .mixedOrders = true) (ord gh : List Nat) (vs : List Vr) (S : List Nat) (R : World → Prop)
    (hc : chk n ops ord gh (vsS vs) = true) (ha : Fits n a L0) (hS : ∀ x ∈ S, x < w0.heap.size) (hva : ∀ x ∈ vs, dstOf ops x.al = some x.d) (hR0 : R w0) (hRs : Stab [] R) (hvR : vs = [] ∨ ∀ w, R w)
    (h : Der P S w0 ops gh (KFin n S w0 P ops Q vs) ord L0 (fun _ => True) R) : (Code.region id ops.toArray true).wp P Q a w0 := by
  have c := Chk.of hc
  refine wp_region_any hm ?_
  have hget : ∀ j, (Array.replicate ops.toArray.size false).getD j true = !decide (j < ops.length) := by
    intro j
    simp [Array.getD_eq_getD_getElem?, Array.getElem?_replicate]
    split <;> simp_all
  refine St.wpAny (L0 := L0) c (cover_of hc) hS hva _ _ (fun _ => True) R (fun _ => 0) a _ [] ord (by simp) ?_ h (fun _ _ _ _ => trivial) hRs ?_ ?_
  · have hD : (fun j => (Array.replicate ops.toArray.size false).getD j true) = fun j => !decide (j < ops.length) := funext hget
    rw [hD]
    refine ⟨fun i o ho hd => ?_, fun i hi => ?_, by simp, by simp, by simp, ha.size, ha.defers, fun t v hv _ => ha.slot t v (by simpa [curv] using hv), fun x hx hd => ?_, (Kp.refl S w0).drew, trivial, hRs _ _ (Kp.refl [] w0).drew hR0, fun x hx hd => ?_, fun x hx y hy hd => ?_⟩
    · simp [(List.getElem?_eq_some_iff.1 ho).1] at hd
    · simp [c.lt i hi]
    all_goals
      have := hva x hx
      unfold dstOf at this
      cases hh : ops[x.al]? with
      | none => rw [hh] at this; simp at this
      | some o => simp [(List.getElem?_eq_some_iff.1 hh).1] at hd
  · rcases hvR with h | h
    · exact Or.inl h
    · exact Or.inr ⟨fun _ => trivial, h⟩
  · refine Nat.le_trans List.countP_le_length ?_
    simp

end
end Go.Proofs.Ytfelaicoedlejaa
