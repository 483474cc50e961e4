/-
  The fork's tree: plain laws.
-/
import Derived.Test.YtpnenekgldggbaaUndone
namespace Go.Proofs.Ytpnenekgldggbaa
set_option linter.unusedVariables false

theorem new_nd (f x : Dg) (d : Nat) : alook (Tr.new f d).nodes x = if f = x then some nd0 else none := by
  simp [Tr.new, alook]
theorem new_wf (f : Dg) (d : Nat) : (Tr.new f d).WF := by
  have hh : ∀ x, (Tr.new f d).has x = true → x = f := by
    intro x hx
    unfold Tr.has at hx
    rw [new_nd] at hx
    by_cases e : f = x
    · exact e.symm
    · simp [e] at hx
  have h1 : (Tr.new f d).has f = true := by unfold Tr.has; rw [new_nd]; simp
  have h2 : (Tr.new f d).ht f = 0 := by unfold Tr.ht Tr.nd; rw [new_nd]; simp [nd0]
  refine ⟨h1, h2, h1, fun x hx hne => absurd (hh x hx) hne, fun x hx => ?_, by simp [Tr.new], ?_⟩
  · rw [hh x hx]; exact Nat.le_refl _
  · show (Tr.new f d).ht f < 1
    rw [h2]; omega

theorem put_look (t : Tr) (x p z : Dg) : alook (t.put x p).nodes z = if x = z then some ⟨p, t.ht p + 1⟩ else alook t.nodes z := alook_put _ _ _ _
theorem put_ht_new (t : Tr) (x p : Dg) : (t.put x p).ht x = t.ht p + 1 := by unfold Tr.ht Tr.nd; rw [put_look]; simp [Tr.ht, Tr.nd]
theorem put_ht_old (t : Tr) {x p z : Dg} (h : x ≠ z) : (t.put x p).ht z = t.ht z := by
  have : (t.put x p).nd z = t.nd z := by unfold Tr.nd; rw [put_look, if_neg h]
  unfold Tr.ht; rw [this]
theorem put_par_old (t : Tr) {x p z : Dg} (h : x ≠ z) : (t.put x p).par z = t.par z := by
  have : (t.put x p).nd z = t.nd z := by unfold Tr.nd; rw [put_look, if_neg h]
  unfold Tr.par; rw [this]
theorem put_par_new (t : Tr) (x p : Dg) : (t.put x p).par x = p := by unfold Tr.par Tr.nd; rw [put_look]; simp
theorem put_has (t : Tr) (x p z : Dg) : (t.put x p).has z = (decide (x = z) || t.has z) := by
  unfold Tr.has; rw [put_look]; by_cases e : x = z <;> simp [e]
theorem put_tip (t : Tr) (x p : Dg) : (t.put x p).tip = if t.ht t.tip < t.ht p + 1 then x else t.tip := rfl

theorem put_wf {t : Tr} (wf : t.WF) {x p : Dg} (hx : t.has x = false) (hp : t.has p = true) (hl : t.nodes.length < 4096) : (t.put x p).WF := by
  have hnx : ∀ {z : Dg}, t.has z = true → x ≠ z := fun hz e => by rw [e, hz] at hx; cases hx
  have hpt := wf.top p hp
  have htip : (t.put x p).ht (t.put x p).tip = if t.ht t.tip < t.ht p + 1 then t.ht p + 1 else t.ht t.tip := by
    rw [put_tip]
    split
    · exact put_ht_new t x p
    · exact put_ht_old t (hnx wf.tip)
  have hlen : (t.put x p).nodes.length = t.nodes.length + 1 := by
    have : alook t.nodes x = none := Tr.has_none (by rw [hx]; simp)
    show (aput t.nodes x _).length = _
    rw [aput_new _ this]; simp
  refine ⟨?_, ?_, ?_, fun z hz hne => ?_, fun z hz => ?_, by rw [hlen]; omega, ?_⟩
  · show (t.put x p).has t.first = true
    rw [put_has, wf.first]; simp
  · show (t.put x p).ht t.first = 0
    rw [put_ht_old t (hnx wf.first)]; exact wf.h0
  · rw [put_tip]
    split
    · rw [put_has]; simp
    · rw [put_has, wf.tip]; simp
  · by_cases e : x = z
    · subst e
      rw [put_par_new, put_ht_new, put_has, hp, put_ht_old t (hnx hp)]
      simp
    · have hz' : t.has z = true := by rw [put_has] at hz; simpa [e] using hz
      obtain ⟨h1, h2⟩ := wf.up z hz' hne
      rw [put_par_old t e, put_has, h1, put_ht_old t e, put_ht_old t (hnx h1)]
      exact ⟨by simp, h2⟩
  · rw [htip]
    by_cases e : x = z
    · subst e
      rw [put_ht_new]
      split <;> omega
    · have hz' : t.has z = true := by rw [put_has] at hz; simpa [e] using hz
      rw [put_ht_old t e]
      have := wf.top z hz'
      split <;> omega
  · rw [htip, hlen]
    have := wf.low
    split <;> omega
theorem partF_symm {t : Tr} (wf : t.WF) : ∀ (n : Nat) {a b : Dg}, t.has a = true → t.has b = true → t.ht a + t.ht b < n → t.partF n a b = t.partF n b a
  | 0, a, b, _, _, h => by omega
  | n + 1, a, b, ha, hb, h => by
    simp only [Tr.partF]
    by_cases e : a = b
    · subst e; rfl
    · have e' : ¬ b = a := fun e1 => e e1.symm
      rw [if_neg e, if_neg e']
      obtain ⟨h1, h2, h3, _⟩ := wf.round ha hb e
      exact partF_symm wf n h1 h2 (by omega)
theorem part_symm {t : Tr} (wf : t.WF) {a b : Dg} (ha : t.has a = true) (hb : t.has b = true) : t.part a b = t.part b a := by
  unfold Tr.part
  rw [partF_symm wf _ ha hb (by omega), Nat.add_comm (t.ht a)]
theorem put_partF {t : Tr} (wf : t.WF) {x p : Dg} (hx : t.has x = false) : ∀ (n : Nat) {a b : Dg}, t.has a = true → t.has b = true → (t.put x p).partF n a b = t.partF n a b
  | 0, a, b, _, _ => rfl
  | n + 1, a, b, ha, hb => by
    have hnx : ∀ {z : Dg}, t.has z = true → x ≠ z := fun hz e => by rw [e, hz] at hx; cases hx
    simp only [Tr.partF]
    by_cases e : a = b
    · rw [if_pos e, if_pos e]
    · rw [if_neg e, if_neg e, put_ht_old t (hnx ha), put_ht_old t (hnx hb), put_par_old t (hnx ha), put_par_old t (hnx hb)]
      obtain ⟨h1, h2, _, _⟩ := wf.round ha hb e
      exact put_partF wf hx n h1 h2
theorem put_part {t : Tr} (wf : t.WF) {x p a b : Dg} (hx : t.has x = false) (ha : t.has a = true) (hb : t.has b = true) : (t.put x p).part a b = t.part a b := by
  have hnx : ∀ {z : Dg}, t.has z = true → x ≠ z := fun hz e => by rw [e, hz] at hx; cases hx
  unfold Tr.part
  rw [put_partF wf hx _ ha hb, put_ht_old t (hnx ha), put_ht_old t (hnx hb)]
/-- A new tip: it parts from the old one where its parent does. -/
theorem put_part_tip {t : Tr} (wf : t.WF) {x p : Dg} (hx : t.has x = false) (hp : t.has p = true) (hl : t.nodes.length < 4096) (hup : t.ht t.tip < t.ht p + 1) : (t.put x p).part t.tip x = t.part p t.tip := by
  have wf' := put_wf wf hx hp hl
  have hnx : ∀ {z : Dg}, t.has z = true → x ≠ z := fun hz e => by rw [e, hz] at hx; cases hx
  have hne : t.tip ≠ x := fun e => hnx wf.tip e.symm
  have h1 : (t.put x p).has t.tip = true := by rw [put_has, wf.tip]; simp
  have h2 : (t.put x p).has x = true := by rw [put_has]; simp
  obtain ⟨_, _, _, h3⟩ := wf'.round h1 h2 hne
  have e1 : ¬ (t.put x p).ht x ≤ (t.put x p).ht t.tip := by rw [put_ht_new, put_ht_old t (hnx wf.tip)]; omega
  have e2 : (t.put x p).ht t.tip ≤ (t.put x p).ht x := by omega
  rw [if_neg e1, if_pos e2, put_par_new] at h3
  rw [← h3, put_part wf hx wf.tip hp, part_symm wf wf.tip hp]
theorem und_self (t : Tr) (a : Dg) : t.und a a = 0 := by unfold Tr.und; rw [Tr.part_self]; omega
/-- One block comes: the tree stays one, no more than depth are undone, the tip rises by one or stays. -/
theorem add_step {t : Tr} (wf : t.WF) (x p : Dg) : (t.add x p).WF ∧ (t.add x p).depth = t.depth ∧ (t.add x p).first = t.first ∧ (t.add x p).has t.tip = true ∧ (t.add x p).ht t.tip = t.ht t.tip ∧ (t.add x p).und t.tip (t.add x p).tip ≤ t.depth ∧
    ((t.add x p).tip = t.tip ∨ ((t.add x p).tip ≠ t.tip ∧ (t.add x p).ht (t.add x p).tip = t.ht t.tip + 1)) := by
  unfold Tr.add
  by_cases he : t.addE x p = 0
  · rw [if_pos he]
    have hx : t.has x = false := by
      cases h : t.has x with
      | false => rfl
      | true => simp [Tr.addE, h] at he
    have hp : t.has p = true := by
      cases h : t.has p with
      | true => rfl
      | false => simp [Tr.addE, hx, h] at he
    have hl : t.nodes.length < 4096 := by
      by_cases h : 4096 ≤ t.nodes.length
      · simp [Tr.addE, hx, hp, h] at he
      · omega
    have hd : ¬ t.depth + t.ht (t.part p t.tip) < t.ht t.tip := by
      intro h
      have h' : ¬ 4096 ≤ t.nodes.length := by omega
      simp [Tr.addE, hx, hp, h', Tr.deep, h] at he
    have hnx : ∀ {z : Dg}, t.has z = true → x ≠ z := fun hz e => by rw [e, hz] at hx; cases hx
    have h1 : (t.put x p).has t.tip = true := by rw [put_has, wf.tip]; simp
    have h2 := put_ht_old t (p := p) (hnx wf.tip)
    refine ⟨put_wf wf hx hp hl, rfl, rfl, h1, h2, ?_, ?_⟩
    · rw [put_tip]
      by_cases hup : t.ht t.tip < t.ht p + 1
      · rw [if_pos hup]
        unfold Tr.und
        rw [put_part_tip wf hx hp hl hup, h2]
        have hpt := part_has wf hp wf.tip
        rw [put_ht_old t (hnx hpt)]
        omega
      · rw [if_neg hup, und_self]; omega
    · rw [put_tip]
      by_cases hup : t.ht t.tip < t.ht p + 1
      · rw [if_pos hup]
        refine Or.inr ⟨fun e => hnx wf.tip e, ?_⟩
        rw [put_ht_new]
        have := wf.top p hp
        omega
      · rw [if_neg hup]; exact Or.inl rfl
  · rw [if_neg he]
    exact ⟨wf, rfl, rfl, wf.tip, rfl, by rw [und_self]; omega, Or.inl rfl⟩
end Go.Proofs.Ytpnenekgldggbaa
