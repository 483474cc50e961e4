/-
  A region that draws its order, with effects that stand beside one another: each effect only makes new blocks, and what it promises stays; its contract looks at no more than what stands ahead of it.
-/
import Derived.Test.YtfelaicoedlejaaIter
namespace Go.Proofs.Ytfelaicoedlejaa
set_option linter.unusedVariables false

/-- What an effect promises: its answer by x, and what holds from then on. -/
structure GD where
  X : Type
  x0 : X
  val : X → Value
  phi : X → World → Prop
def GD.none : GD := ⟨Unit, (), fun _ => undef, fun _ _ => True⟩
def gdLook : List (Nat × GD) → Nat → Option GD
  | [], _ => Option.none
  | (j, d) :: G, i => bif Nat.beq j i then some d else gdLook G i
def gdOf (G : List (Nat × GD)) (i : Nat) : GD := (gdLook G i).getD GD.none
def isGh (G : List (Nat × GD)) (i : Nat) : Bool := (gdLook G i).isSome

abbrev Fact := Nat × (World → Prop)
def Facts (ops : List Oper) (i : Nat) (Γ : List Fact) (w : World) : Prop := ∀ p ∈ Γ, anc ops i p.1 = true → p.2 w

section
variable (P : Program) (w0 : World) (ops : List Oper) (G : List (Nat × GD)) (K : Env → List Fact → Prop)

def Live (D : Nat → Bool) (V : Nat → Value) (ξ : (i : Nat) → (gdOf G i).X) : List Nat → Env → List Fact → Prop
  | [], L, Γ => K L Γ
  | i :: ord, L, Γ => ∃ o, ops[i]? = some o ∧
      ((isGh G i = false ∧ ((D i = true ∧ Live D V ξ ord (addD o.dst (V i) L) Γ) ∨
          (D i = false ∧ want ops L o = some false ∧ Live D V ξ ord (addD o.dst undef L) Γ) ∨
          (D i = false ∧ want ops L o = some true ∧ ∃ v, o.op.operands.toList.all (known L) = true ∧ (∀ w, Kp [] w0 w → Facts ops i Γ w → OpRun P (rho L) o w (fun v' w' => v' = v ∧ Kp [] w w')) ∧ Live D V ξ ord (addD o.dst v L) Γ))) ∨
       (isGh G i = true ∧ ((D i = true ∧ Live D V ξ ord (addD o.dst ((gdOf G i).val (ξ i)) L) ((i, (gdOf G i).phi (ξ i)) :: Γ)) ∨
          (D i = false ∧ want ops L o = some true ∧ o.op.operands.toList.all (known L) = true ∧
            (∀ w, Kp [] w0 w → Facts ops i Γ w → OpRun P (rho L) o w (fun v w' => ∃ x, v = (gdOf G i).val x ∧ (gdOf G i).phi x w' ∧ Kp [] w w')) ∧
            ∀ x, Live D V ξ ord (addD o.dst ((gdOf G i).val x) L) ((i, (gdOf G i).phi x) :: Γ)))))

/-- The derivation: nothing is done yet. -/
def DerX : List Nat → Env → List Fact → Prop := Live P w0 ops G K (fun _ => false) (fun _ => undef) (fun i => (gdOf G i).x0)
end

section
variable {P : Program} {n : Nat} {ops : List Oper} {Q : Exit → Act → World → Prop} {w0 : World} {L0 : Env} {G : List (Nat × GD)} {K : Env → List Fact → Prop}

/-- Only what is still to come counts. -/
theorem Live.congr {D D' : Nat → Bool} {V V' : Nat → Value} {ξ ξ' : (i : Nat) → (gdOf G i).X} : ∀ {ord : List Nat} {L : Env} {Γ : List Fact}, (∀ i ∈ ord, D i = D' i ∧ V i = V' i ∧ ξ i = ξ' i) → Live P w0 ops G K D V ξ ord L Γ → Live P w0 ops G K D' V' ξ' ord L Γ
  | [], _, _, _, h => h
  | i :: ord, L, Γ, he, ⟨o, ho, h⟩ => by
    obtain ⟨e1, e2, e3⟩ := he i (by simp)
    have he' : ∀ j ∈ ord, D j = D' j ∧ V j = V' j ∧ ξ j = ξ' j := fun j hj => he j (by simp [hj])
    refine ⟨o, ho, ?_⟩
    rcases h with ⟨hg, h⟩ | ⟨hg, h⟩
    · refine Or.inl ⟨hg, ?_⟩
      rcases h with ⟨hd, h⟩ | ⟨hd, hw, h⟩ | ⟨hd, hw, v, hk, hc, h⟩
      · exact Or.inl ⟨by rw [← e1]; exact hd, by rw [← e2]; exact Live.congr he' h⟩
      · exact Or.inr (Or.inl ⟨by rw [← e1]; exact hd, hw, Live.congr he' h⟩)
      · exact Or.inr (Or.inr ⟨by rw [← e1]; exact hd, hw, v, hk, hc, Live.congr he' h⟩)
    · refine Or.inr ⟨hg, ?_⟩
      rcases h with ⟨hd, h⟩ | ⟨hd, hw, hk, hc, h⟩
      · exact Or.inl ⟨by rw [← e1]; exact hd, by rw [← e3]; exact Live.congr he' h⟩
      · exact Or.inr ⟨by rw [← e1]; exact hd, hw, hk, hc, fun x => Live.congr he' (h x)⟩

/-- The value that a done operation gave. -/
def gave (G : List (Nat × GD)) (V : Nat → Value) (ξ : (i : Nat) → (gdOf G i).X) (i : Nat) : Value := bif isGh G i then (gdOf G i).val (ξ i) else V i

/-- How an environment on the way comes about. -/
def Way (ops : List Oper) (G : List (Nat × GD)) (L0 : Env) (D : Nat → Bool) (V : Nat → Value) (ξ : (i : Nat) → (gdOf G i).X) (pre : List Nat) (L : Env) : Prop :=
  ∀ t v, look L t = some v → (∃ j ∈ pre, dstOf ops j = some t ∧ (D j = true → v = gave G V ξ j)) ∨ ((∀ j ∈ pre, dstOf ops j ≠ some t) ∧ look L0 t = some v)
theorem Way.nil {D : Nat → Bool} {V : Nat → Value} {ξ : (i : Nat) → (gdOf G i).X} : Way ops G L0 D V ξ [] L0 := fun t v h => Or.inr ⟨by simp, h⟩
theorem Way.cons {D : Nat → Bool} {V : Nat → Value} {ξ : (i : Nat) → (gdOf G i).X} {pre : List Nat} {L : Env} {i : Nat} {o : Oper} {u : Value} (h : Way ops G L0 D V ξ pre L) (ho : ops[i]? = some o) (hu : D i = true → u = gave G V ξ i) : Way ops G L0 D V ξ (i :: pre) (addD o.dst u L) := by
  intro t v hv
  rw [look_addD] at hv
  have hdi : dstOf ops i = o.dst := by simp [dstOf, ho]
  by_cases e : o.dst = some t
  · rw [if_pos e] at hv
    cases hv
    exact Or.inl ⟨i, by simp, by rw [hdi, e], hu⟩
  · rw [if_neg e] at hv
    rcases h t v hv with ⟨j, hj, h1, h2⟩ | ⟨h1, h2⟩
    · exact Or.inl ⟨j, by simp [hj], h1, h2⟩
    · refine Or.inr ⟨fun j hj => ?_, h2⟩
      rcases List.mem_cons.1 hj with rfl | hj
      · rw [hdi]; exact e
      · exact h1 j hj

def updV (V : Nat → Value) (i : Nat) (v : Value) : Nat → Value := fun j => if j = i then v else V j
def updX (ξ : (i : Nat) → (gdOf G i).X) (i : Nat) (x : (gdOf G i).X) : (j : Nat) → (gdOf G j).X := fun j => if h : j = i then h ▸ x else ξ j
theorem updX_same {ξ : (i : Nat) → (gdOf G i).X} {i : Nat} {x : (gdOf G i).X} : updX ξ i x i = x := by simp [updX]
theorem updX_ne {ξ : (i : Nat) → (gdOf G i).X} {i j : Nat} {x : (gdOf G i).X} (h : j ≠ i) : updX ξ i x j = ξ j := by simp [updX, h]

/-- The way to an operation that has no effect: all effects ahead of it are done. -/
theorem Live.plain {D : Nat → Bool} {V : Nat → Value} {ξ : (i : Nat) → (gdOf G i).X} {r : Nat} (hgr : isGh G r = false) (hdr : D r = false) {w : World} : ∀ {ord pre : List Nat} {L : Env} {Γ : List Fact}, ord.Nodup → r ∈ ord →
    (∀ g A B, ord = A ++ g :: B → r ∈ B → isGh G g = true → D g = true) → Way ops G L0 D V ξ pre L → (∀ p ∈ Γ, D p.1 = true → p.2 w) → (∀ i, isGh G i = true → D i = true → (gdOf G i).phi (ξ i) w) → Live P w0 ops G K D V ξ ord L Γ →
    ∃ o L' Γ' A B, ord = A ++ r :: B ∧ ops[r]? = some o ∧ Way ops G L0 D V ξ (A.reverse ++ pre) L' ∧ (∀ p ∈ Γ', D p.1 = true → p.2 w) ∧
      ((want ops L' o = some false ∧ Live P w0 ops G K (setD D r) (updV V r undef) ξ ord L Γ) ∨
       (want ops L' o = some true ∧ ∃ v, o.op.operands.toList.all (known L') = true ∧ (∀ w, Kp [] w0 w → Facts ops r Γ' w → OpRun P (rho L') o w (fun v' w' => v' = v ∧ Kp [] w w')) ∧ Live P w0 ops G K (setD D r) (updV V r v) ξ ord L Γ))
  | [], _, _, _, _, hm, _, _, _, _, _ => by cases hm
  | i :: ord, pre, L, Γ, hn, hm, hgd, hway, hfa, hph, ⟨o, ho, h⟩ => by
    have hn' := List.nodup_cons.1 hn
    by_cases hir : i = r
    · subst hir
      have hsame : ∀ j ∈ ord, D j = setD D i j ∧ ∀ v, V j = updV V i v j := fun j hj => by
        have hne : j ≠ i := fun e => hn'.1 (e ▸ hj)
        exact ⟨(setD_ne hne).symm, fun v => by simp [updV, hne]⟩
      refine ⟨o, L, Γ, [], ord, rfl, ho, by simpa using hway, hfa, ?_⟩
      rcases h with ⟨hg, h⟩ | ⟨hg, h⟩
      · rcases h with ⟨hd, h⟩ | ⟨hd, hw, h⟩ | ⟨hd, hw, v, hk, hc, h⟩
        · rw [hdr] at hd; cases hd
        · refine Or.inl ⟨hw, o, ho, Or.inl ⟨hg, Or.inl ⟨setD_same, ?_⟩⟩⟩
          have e : updV V i undef i = undef := by simp [updV]
          rw [e]
          exact Live.congr (fun j hj => ⟨(hsame j hj).1, (hsame j hj).2 _, rfl⟩) h
        · refine Or.inr ⟨hw, v, hk, hc, o, ho, Or.inl ⟨hg, Or.inl ⟨setD_same, ?_⟩⟩⟩
          have e : updV V i v i = v := by simp [updV]
          rw [e]
          exact Live.congr (fun j hj => ⟨(hsame j hj).1, (hsame j hj).2 _, rfl⟩) h
      · rw [hgr] at hg; cases hg
    · have hm' : r ∈ ord := by
        rcases List.mem_cons.1 hm with h | h
        · exact absurd h.symm hir
        · exact h
      have hgd' : ∀ g A B, ord = A ++ g :: B → r ∈ B → isGh G g = true → D g = true := fun g A B e hb => hgd g (i :: A) B (by rw [e]; rfl) hb
      have key : ∀ {L1 : Env} {Γ1 : List Fact}, Way ops G L0 D V ξ (i :: pre) L1 → (∀ p ∈ Γ1, D p.1 = true → p.2 w) → Live P w0 ops G K D V ξ ord L1 Γ1 →
          ∃ o' L' Γ' A B, i :: ord = A ++ r :: B ∧ ops[r]? = some o' ∧ Way ops G L0 D V ξ (A.reverse ++ pre) L' ∧ (∀ p ∈ Γ', D p.1 = true → p.2 w) ∧
            ((want ops L' o' = some false ∧ Live P w0 ops G K (setD D r) (updV V r undef) ξ ord L1 Γ1) ∨
             (want ops L' o' = some true ∧ ∃ v, o'.op.operands.toList.all (known L') = true ∧ (∀ w, Kp [] w0 w → Facts ops r Γ' w → OpRun P (rho L') o' w (fun v' w' => v' = v ∧ Kp [] w w')) ∧ Live P w0 ops G K (setD D r) (updV V r v) ξ ord L1 Γ1)) := by
        intro L1 Γ1 hw1 hf1 h1
        obtain ⟨o', L', Γ', A, B, e1, e2, e3, e4, e5⟩ := Live.plain hgr hdr hn'.2 hm' hgd' hw1 hf1 hph h1
        exact ⟨o', L', Γ', i :: A, B, by rw [e1]; rfl, e2, by simpa using e3, e4, e5⟩
      have eD : setD D r i = D i := setD_ne hir
      have eV : ∀ v, updV V r v i = V i := fun v => by simp [updV, hir]
      rcases h with ⟨hg, h⟩ | ⟨hg, h⟩
      · rcases h with ⟨hd, h⟩ | ⟨hd, hw, h⟩ | ⟨hd, hw, v, hk, hc, h⟩
        · obtain ⟨o', L', Γ', A, B, e1, e2, e3, e4, e5⟩ := key (hway.cons ho (fun _ => by simp [gave, hg])) hfa h
          refine ⟨o', L', Γ', A, B, e1, e2, e3, e4, ?_⟩
          rcases e5 with ⟨f1, f2⟩ | ⟨f1, v, f2, f3, f4⟩
          · exact Or.inl ⟨f1, o, ho, Or.inl ⟨hg, Or.inl ⟨by rw [eD]; exact hd, by rw [eV]; exact f2⟩⟩⟩
          · exact Or.inr ⟨f1, v, f2, f3, o, ho, Or.inl ⟨hg, Or.inl ⟨by rw [eD]; exact hd, by rw [eV]; exact f4⟩⟩⟩
        · obtain ⟨o', L', Γ', A, B, e1, e2, e3, e4, e5⟩ := key (hway.cons ho (fun hd' => by rw [hd] at hd'; cases hd')) hfa h
          refine ⟨o', L', Γ', A, B, e1, e2, e3, e4, ?_⟩
          rcases e5 with ⟨f1, f2⟩ | ⟨f1, v, f2, f3, f4⟩
          · exact Or.inl ⟨f1, o, ho, Or.inl ⟨hg, Or.inr (Or.inl ⟨by rw [eD]; exact hd, hw, f2⟩)⟩⟩
          · exact Or.inr ⟨f1, v, f2, f3, o, ho, Or.inl ⟨hg, Or.inr (Or.inl ⟨by rw [eD]; exact hd, hw, f4⟩)⟩⟩
        · obtain ⟨o', L', Γ', A, B, e1, e2, e3, e4, e5⟩ := key (hway.cons ho (fun hd' => by rw [hd] at hd'; cases hd')) hfa h
          refine ⟨o', L', Γ', A, B, e1, e2, e3, e4, ?_⟩
          rcases e5 with ⟨f1, f2⟩ | ⟨f1, v', f2, f3, f4⟩
          · exact Or.inl ⟨f1, o, ho, Or.inl ⟨hg, Or.inr (Or.inr ⟨by rw [eD]; exact hd, hw, v, hk, hc, f2⟩)⟩⟩
          · exact Or.inr ⟨f1, v', f2, f3, o, ho, Or.inl ⟨hg, Or.inr (Or.inr ⟨by rw [eD]; exact hd, hw, v, hk, hc, f4⟩)⟩⟩
      · have hdi : D i = true := hgd i [] ord rfl hm' hg
        rcases h with ⟨hd, h⟩ | ⟨hd, _⟩
        · obtain ⟨o', L', Γ', A, B, e1, e2, e3, e4, e5⟩ := key (hway.cons ho (fun _ => by simp [gave, hg])) (fun p hp hpd => by
            rcases List.mem_cons.1 hp with rfl | hp
            · exact hph i hg hd
            · exact hfa p hp hpd) h
          refine ⟨o', L', Γ', A, B, e1, e2, e3, e4, ?_⟩
          rcases e5 with ⟨f1, f2⟩ | ⟨f1, v, f2, f3, f4⟩
          · exact Or.inl ⟨f1, o, ho, Or.inr ⟨hg, Or.inl ⟨by rw [eD]; exact hd, f2⟩⟩⟩
          · exact Or.inr ⟨f1, v, f2, f3, o, ho, Or.inr ⟨hg, Or.inl ⟨by rw [eD]; exact hd, f4⟩⟩⟩
        · rw [hdi] at hd; cases hd

/-- The way to an effect: others may stand beside it, undone. -/
theorem Live.effect {D : Nat → Bool} {V : Nat → Value} {ξ : (i : Nat) → (gdOf G i).X} {r : Nat} (hgr : isGh G r = true) (hdr : D r = false) {w : World} (hph : ∀ i, isGh G i = true → D i = true → (gdOf G i).phi (ξ i) w) : ∀ {ord pre : List Nat} {L : Env} {Γ : List Fact}, ord.Nodup → r ∈ ord →
    Way ops G L0 D V ξ pre L → (∀ p ∈ Γ, D p.1 = true → p.2 w) → Live P w0 ops G K D V ξ ord L Γ →
    ∃ o L' Γ' A B, ord = A ++ r :: B ∧ ops[r]? = some o ∧ Way ops G L0 D V ξ (A.reverse ++ pre) L' ∧ (∀ p ∈ Γ', D p.1 = true → p.2 w) ∧ want ops L' o = some true ∧ o.op.operands.toList.all (known L') = true ∧
      (∀ w, Kp [] w0 w → Facts ops r Γ' w → OpRun P (rho L') o w (fun v w' => ∃ x, v = (gdOf G r).val x ∧ (gdOf G r).phi x w' ∧ Kp [] w w'))
  | [], _, _, _, _, hm, _, _, _ => by cases hm
  | i :: ord, pre, L, Γ, hn, hm, hway, hfa, ⟨o, ho, h⟩ => by
    have hn' := List.nodup_cons.1 hn
    by_cases hir : i = r
    · subst hir
      rcases h with ⟨hg, h⟩ | ⟨hg, h⟩
      · rw [hgr] at hg; cases hg
      · rcases h with ⟨hd, h⟩ | ⟨hd, hw, hk, hc, h⟩
        · rw [hdr] at hd; cases hd
        · exact ⟨o, L, Γ, [], ord, rfl, ho, by simpa using hway, hfa, hw, hk, hc⟩
    · have hm' : r ∈ ord := by
        rcases List.mem_cons.1 hm with h | h
        · exact absurd h.symm hir
        · exact h
      have key : ∀ {L1 : Env} {Γ1 : List Fact}, Way ops G L0 D V ξ (i :: pre) L1 → (∀ p ∈ Γ1, D p.1 = true → p.2 w) → Live P w0 ops G K D V ξ ord L1 Γ1 → ∃ o L' Γ' A B, i :: ord = A ++ r :: B ∧ ops[r]? = some o ∧ Way ops G L0 D V ξ (A.reverse ++ pre) L' ∧ (∀ p ∈ Γ', D p.1 = true → p.2 w) ∧ want ops L' o = some true ∧ o.op.operands.toList.all (known L') = true ∧
      (∀ w, Kp [] w0 w → Facts ops r Γ' w → OpRun P (rho L') o w (fun v w' => ∃ x, v = (gdOf G r).val x ∧ (gdOf G r).phi x w' ∧ Kp [] w w')) := by
        intro L1 Γ1 hw1 hf1 h1
        obtain ⟨o', L', Γ', A, B, e1, e2, e3, e4, e5⟩ := Live.effect hgr hdr hph hn'.2 hm' hw1 hf1 h1
        exact ⟨o', L', Γ', i :: A, B, by rw [e1]; rfl, e2, by simpa using e3, e4, e5⟩
      rcases h with ⟨hg, h⟩ | ⟨hg, h⟩
      · rcases h with ⟨hd, h⟩ | ⟨hd, hw, h⟩ | ⟨hd, hw, v, hk, hc, h⟩
        · exact key (hway.cons ho (fun _ => by simp [gave, hg])) hfa h
        · exact key (hway.cons ho (fun hd' => by rw [hd] at hd'; cases hd')) hfa h
        · exact key (hway.cons ho (fun hd' => by rw [hd] at hd'; cases hd')) hfa h
      · rcases h with ⟨hd, h⟩ | ⟨hd, hw, hk, hc, h⟩
        · exact key (hway.cons ho (fun _ => by simp [gave, hg])) (fun p hp hpd => by
            rcases List.mem_cons.1 hp with rfl | hp
            · exact hph i hg hd
            · exact hfa p hp hpd) h
        · exact key (hway.cons ho (fun hd' => by rw [hd] at hd'; cases hd')) (fun p hp hpd => by
            rcases List.mem_cons.1 hp with rfl | hp
            · simp only at hpd; rw [hd] at hpd; cases hpd
            · exact hfa p hp hpd) (h (gdOf G i).x0)
/-- An effect is done, by x. -/
theorem Live.effected {D : Nat → Bool} {V : Nat → Value} {ξ : (i : Nat) → (gdOf G i).X} {r : Nat} (hgr : isGh G r = true) (hdr : D r = false) (x : (gdOf G r).X) : ∀ {ord : List Nat} {L : Env} {Γ : List Fact}, ord.Nodup → Live P w0 ops G K D V ξ ord L Γ → Live P w0 ops G K (setD D r) V (updX ξ r x) ord L Γ
  | [], _, _, _, h => h
  | i :: ord, L, Γ, hn, ⟨o, ho, h⟩ => by
    have hn' := List.nodup_cons.1 hn
    refine ⟨o, ho, ?_⟩
    by_cases hir : i = r
    · subst hir
      rcases h with ⟨hg, h⟩ | ⟨hg, h⟩
      · rw [hgr] at hg; cases hg
      · rcases h with ⟨hd, h⟩ | ⟨hd, hw, hk, hc, h⟩
        · rw [hdr] at hd; cases hd
        · refine Or.inr ⟨hg, Or.inl ⟨setD_same, ?_⟩⟩
          rw [updX_same]
          refine Live.congr (fun j hj => ?_) (h x)
          have hne : j ≠ i := fun e => hn'.1 (e ▸ hj)
          exact ⟨(setD_ne hne).symm, rfl, (updX_ne hne).symm⟩
    · have eD : setD D r i = D i := setD_ne hir
      rcases h with ⟨hg, h⟩ | ⟨hg, h⟩
      · refine Or.inl ⟨hg, ?_⟩
        rcases h with ⟨hd, h⟩ | ⟨hd, hw, h⟩ | ⟨hd, hw, v, hk, hc, h⟩
        · exact Or.inl ⟨by rw [eD]; exact hd, Live.effected hgr hdr x hn'.2 h⟩
        · exact Or.inr (Or.inl ⟨by rw [eD]; exact hd, hw, Live.effected hgr hdr x hn'.2 h⟩)
        · exact Or.inr (Or.inr ⟨by rw [eD]; exact hd, hw, v, hk, hc, Live.effected hgr hdr x hn'.2 h⟩)
      · refine Or.inr ⟨hg, ?_⟩
        rcases h with ⟨hd, h⟩ | ⟨hd, hw, hk, hc, h⟩
        · exact Or.inl ⟨by rw [eD]; exact hd, by rw [updX_ne hir]; exact Live.effected hgr hdr x hn'.2 h⟩
        · exact Or.inr ⟨by rw [eD]; exact hd, hw, hk, hc, fun y => Live.effected hgr hdr x hn'.2 (h y)⟩

/-- All is done. -/
theorem Live.done {D : Nat → Bool} {V : Nat → Value} {ξ : (i : Nat) → (gdOf G i).X} {w : World} (hph : ∀ i, isGh G i = true → D i = true → (gdOf G i).phi (ξ i) w) : ∀ {ord pre : List Nat} {L : Env} {Γ : List Fact}, (∀ i ∈ ord, D i = true) → Way ops G L0 D V ξ pre L → (∀ p ∈ Γ, p.2 w) → Live P w0 ops G K D V ξ ord L Γ →
    ∃ L' Γ', Way ops G L0 D V ξ (ord.reverse ++ pre) L' ∧ (∀ p ∈ Γ', p.2 w) ∧ K L' Γ'
  | [], pre, L, Γ, _, hway, hfa, h => ⟨L, Γ, by simpa using hway, hfa, h⟩
  | i :: ord, pre, L, Γ, hall, hway, hfa, ⟨o, ho, h⟩ => by
    have hdi := hall i (by simp)
    have hall' : ∀ j ∈ ord, D j = true := fun j hj => hall j (by simp [hj])
    rcases h with ⟨hg, h⟩ | ⟨hg, h⟩
    · rcases h with ⟨hd, h⟩ | ⟨hd, _⟩ | ⟨hd, _⟩
      · obtain ⟨L', Γ', e1, e2, e3⟩ := Live.done hph hall' (hway.cons ho (fun _ => by simp [gave, hg])) hfa h
        exact ⟨L', Γ', by simpa using e1, e2, e3⟩
      · rw [hdi] at hd; cases hd
      · rw [hdi] at hd; cases hd
    · rcases h with ⟨hd, h⟩ | ⟨hd, _⟩
      · obtain ⟨L', Γ', e1, e2, e3⟩ := Live.done hph hall' (hway.cons ho (fun _ => by simp [gave, hg])) (fun p hp => by
          rcases List.mem_cons.1 hp with rfl | hp
          · exact hph i hg hd
          · exact hfa p hp) h
        exact ⟨L', Γ', by simpa using e1, e2, e3⟩
      · rw [hdi] at hd; cases hd
end
end Go.Proofs.Ytfelaicoedlejaa
