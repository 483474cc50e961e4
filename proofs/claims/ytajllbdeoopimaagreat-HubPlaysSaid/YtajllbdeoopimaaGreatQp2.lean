import Derived.Test.YtajllbdeoopimaaGreatQp1
namespace Go.Proofs.YtajllbdeoopimaaGreat
set_option linter.unusedVariables false
/-- What an effect promises: its answer by x, and what holds from then on. -/
structure GD where
  X : Type
  x0 : X
  val : X → Value
  phi : X → World → Prop
def GD.none : GD := ⟨Unit, (), fun _ => undef, fun _ _ => True⟩
def gdLook : List (Nat × GD) → Nat → Option GD
  | [], _ => Option.none
  | (j, d) :: G, i => bif Nat.beq j i then some d else gdLook G i
def gdOf (G : List (Nat × GD)) (i : Nat) : GD := (gdLook G i).getD GD.none
def isGh (G : List (Nat × GD)) (i : Nat) : Bool := (gdLook G i).isSome
abbrev Fact := Nat × (World → Prop)
def Facts (ops : List Oper) (i : Nat) (Γ : List Fact) (w : World) : Prop := ∀ p ∈ Γ, anc ops i p.1 = true → p.2 w
/-- How the world goes on by the effect i: it only makes new blocks; or it turns such as the region has made, and keeps what all others promise. -/
def Goes (w0 : World) (G : List (Nat × GD)) (i : Nat) (w w' : World) : Prop := Kp [] w w' ∨ (Kp [] w0 w' ∧ ∀ j x, j ≠ i → (gdOf G j).phi x w → (gdOf G j).phi x w')
section
variable (P : Program) (w0 : World) (ops : List Oper) (G : List (Nat × GD)) (K : Env → List Fact → Prop)
def Live (D : Nat → Bool) (V : Nat → Value) (ξ : (i : Nat) → (gdOf G i).X) : List Nat → Env → List Fact → Prop
  | [], L, Γ => K L Γ
  | i :: ord, L, Γ => ∃ o, ops[i]? = some o ∧
      ((isGh G i = false ∧ ((D i = true ∧ Live D V ξ ord (addD o.dst (V i) L) Γ) ∨
          (D i = false ∧ want ops L o = some false ∧ Live D V ξ ord (addD o.dst undef L) Γ) ∨
          (D i = false ∧ want ops L o = some true ∧ ∃ v, o.op.operands.toList.all (known L) = true ∧ (∀ w, Kp [] w0 w → Facts ops i Γ w → OpRun P (rho L) o w (fun v' w' => v' = v ∧ Kp [] w w')) ∧ Live D V ξ ord (addD o.dst v L) Γ))) ∨
       (isGh G i = true ∧ ((D i = true ∧ Live D V ξ ord (addD o.dst ((gdOf G i).val (ξ i)) L) ((i, (gdOf G i).phi (ξ i)) :: Γ)) ∨
          (D i = false ∧ want ops L o = some true ∧ o.op.operands.toList.all (known L) = true ∧
            (∀ w, Kp [] w0 w → Facts ops i Γ w → OpRun P (rho L) o w (fun v w' => ∃ x, v = (gdOf G i).val x ∧ (gdOf G i).phi x w' ∧ Goes w0 G i w w')) ∧
            ∀ x, Live D V ξ ord (addD o.dst ((gdOf G i).val x) L) ((i, (gdOf G i).phi x) :: Γ)) ∨
          (D i = false ∧ want ops L o = some true ∧ o.op.operands.toList.all (known L) = true ∧ (∀ p ∈ Γ, anc ops i p.1 = true) ∧ ∃ x,
            (∀ w, Kp [] w0 w → Facts ops i Γ w → OpRun P (rho L) o w (fun v w' => v = (gdOf G i).val x ∧ (gdOf G i).phi x w' ∧ Goes w0 G i w w')) ∧
            Live D V ξ ord (addD o.dst ((gdOf G i).val x) L) ((i, (gdOf G i).phi x) :: Γ)))))
/-- The derivation: nothing is done yet. -/
def DerX : List Nat → Env → List Fact → Prop := Live P w0 ops G K (fun _ => false) (fun _ => undef) (fun i => (gdOf G i).x0)
end
section
variable {P : Program} {n : Nat} {ops : List Oper} {Q : Exit → Act → World → Prop} {w0 : World} {L0 : Env} {G : List (Nat × GD)} {K : Env → List Fact → Prop}
/-- Only what is still to come counts. -/
theorem Live.congr {D D' : Nat → Bool} {V V' : Nat → Value} {ξ ξ' : (i : Nat) → (gdOf G i).X} : ∀ {ord : List Nat} {L : Env} {Γ : List Fact}, (∀ i ∈ ord, D i = D' i ∧ V i = V' i ∧ ξ i = ξ' i) → Live P w0 ops G K D V ξ ord L Γ → Live P w0 ops G K D' V' ξ' ord L Γ
  | [], _, _, _, h => h
  | i :: ord, L, Γ, he, ⟨o, ho, h⟩ => by
    obtain ⟨e1, e2, e3⟩ := he i (by simp)
    have he' : ∀ j ∈ ord, D j = D' j ∧ V j = V' j ∧ ξ j = ξ' j := fun j hj => he j (by simp [hj])
    refine ⟨o, ho, ?_⟩
    rcases h with ⟨hg, h⟩ | ⟨hg, h⟩
    · refine Or.inl ⟨hg, ?_⟩
      rcases h with ⟨hd, h⟩ | ⟨hd, hw, h⟩ | ⟨hd, hw, v, hk, hc, h⟩
      · exact Or.inl ⟨by rw [← e1]; exact hd, by rw [← e2]; exact Live.congr he' h⟩
      · exact Or.inr (Or.inl ⟨by rw [← e1]; exact hd, hw, Live.congr he' h⟩)
      · exact Or.inr (Or.inr ⟨by rw [← e1]; exact hd, hw, v, hk, hc, Live.congr he' h⟩)
    · refine Or.inr ⟨hg, ?_⟩
      rcases h with ⟨hd, h⟩ | ⟨hd, hw, hk, hc, h⟩ | ⟨hd, hw, hk, ha, x, hc, h⟩
      · exact Or.inl ⟨by rw [← e1]; exact hd, by rw [← e3]; exact Live.congr he' h⟩
      · exact Or.inr (Or.inl ⟨by rw [← e1]; exact hd, hw, hk, hc, fun x => Live.congr he' (h x)⟩)
      · exact Or.inr (Or.inr ⟨by rw [← e1]; exact hd, hw, hk, ha, x, hc, Live.congr he' h⟩)
/-- The value that a done operation gave. -/
def gave (G : List (Nat × GD)) (V : Nat → Value) (ξ : (i : Nat) → (gdOf G i).X) (i : Nat) : Value := bif isGh G i then (gdOf G i).val (ξ i) else V i
/-- How an environment on the way comes about. -/
def Way (ops : List Oper) (G : List (Nat × GD)) (L0 : Env) (D : Nat → Bool) (V : Nat → Value) (ξ : (i : Nat) → (gdOf G i).X) (pre : List Nat) (L : Env) : Prop :=
  ∀ t v, look L t = some v → (∃ j ∈ pre, dstOf ops j = some t ∧ (D j = true → v = gave G V ξ j)) ∨ ((∀ j ∈ pre, dstOf ops j ≠ some t) ∧ look L0 t = some v)
theorem Way.nil {D : Nat → Bool} {V : Nat → Value} {ξ : (i : Nat) → (gdOf G i).X} : Way ops G L0 D V ξ [] L0 := fun t v h => Or.inr ⟨by simp, h⟩
theorem Way.cons {D : Nat → Bool} {V : Nat → Value} {ξ : (i : Nat) → (gdOf G i).X} {pre : List Nat} {L : Env} {i : Nat} {o : Oper} {u : Value} (h : Way ops G L0 D V ξ pre L) (ho : ops[i]? = some o) (hu : D i = true → u = gave G V ξ i) : Way ops G L0 D V ξ (i :: pre) (addD o.dst u L) := by
  intro t v hv
  rw [look_addD] at hv
  have hdi : dstOf ops i = o.dst := by simp [dstOf, ho]
  by_cases e : o.dst = some t
  · rw [if_pos e] at hv
    cases hv
    exact Or.inl ⟨i, by simp, by rw [hdi, e], hu⟩
  · rw [if_neg e] at hv
    rcases h t v hv with ⟨j, hj, h1, h2⟩ | ⟨h1, h2⟩
    · exact Or.inl ⟨j, by simp [hj], h1, h2⟩
    · refine Or.inr ⟨fun j hj => ?_, h2⟩
      rcases List.mem_cons.1 hj with rfl | hj
      · rw [hdi]; exact e
      · exact h1 j hj
def updV (V : Nat → Value) (i : Nat) (v : Value) : Nat → Value := fun j => if j = i then v else V j
def updX (ξ : (i : Nat) → (gdOf G i).X) (i : Nat) (x : (gdOf G i).X) : (j : Nat) → (gdOf G j).X := fun j => if h : j = i then h ▸ x else ξ j
theorem updX_same {ξ : (i : Nat) → (gdOf G i).X} {i : Nat} {x : (gdOf G i).X} : updX ξ i x i = x := by simp [updX]
theorem updX_ne {ξ : (i : Nat) → (gdOf G i).X} {i j : Nat} {x : (gdOf G i).X} (h : j ≠ i) : updX ξ i x j = ξ j := by simp [updX, h]
/-- The way to an operation that has no effect: all effects ahead of it are done. -/
theorem Live.plain {D : Nat → Bool} {V : Nat → Value} {ξ : (i : Nat) → (gdOf G i).X} {r : Nat} (hgr : isGh G r = false) (hdr : D r = false) {w : World} : ∀ {ord pre : List Nat} {L : Env} {Γ : List Fact}, ord.Nodup → r ∈ ord →
    (∀ g A B, ord = A ++ g :: B → r ∈ B → isGh G g = true → D g = true) → Way ops G L0 D V ξ pre L → (∀ p ∈ Γ, D p.1 = true → p.2 w) → (∀ i, isGh G i = true → D i = true → (gdOf G i).phi (ξ i) w) → Live P w0 ops G K D V ξ ord L Γ →
    ∃ o L' Γ' A B, ord = A ++ r :: B ∧ ops[r]? = some o ∧ Way ops G L0 D V ξ (A.reverse ++ pre) L' ∧ (∀ p ∈ Γ', D p.1 = true → p.2 w) ∧
      ((want ops L' o = some false ∧ Live P w0 ops G K (setD D r) (updV V r undef) ξ ord L Γ) ∨
       (want ops L' o = some true ∧ ∃ v, o.op.operands.toList.all (known L') = true ∧ (∀ w, Kp [] w0 w → Facts ops r Γ' w → OpRun P (rho L') o w (fun v' w' => v' = v ∧ Kp [] w w')) ∧ Live P w0 ops G K (setD D r) (updV V r v) ξ ord L Γ))
  | [], _, _, _, _, hm, _, _, _, _, _ => by cases hm
  | i :: ord, pre, L, Γ, hn, hm, hgd, hway, hfa, hph, ⟨o, ho, h⟩ => by
    have hn' := List.nodup_cons.1 hn
    by_cases hir : i = r
    · subst hir
      have hsame : ∀ j ∈ ord, D j = setD D i j ∧ ∀ v, V j = updV V i v j := fun j hj => by
        have hne : j ≠ i := fun e => hn'.1 (e ▸ hj)
        exact ⟨(setD_ne hne).symm, fun v => by simp [updV, hne]⟩
      refine ⟨o, L, Γ, [], ord, rfl, ho, by simpa using hway, hfa, ?_⟩
      rcases h with ⟨hg, h⟩ | ⟨hg, h⟩
      · rcases h with ⟨hd, h⟩ | ⟨hd, hw, h⟩ | ⟨hd, hw, v, hk, hc, h⟩
        · rw [hdr] at hd; cases hd
        · refine Or.inl ⟨hw, o, ho, Or.inl ⟨hg, Or.inl ⟨setD_same, ?_⟩⟩⟩
          have e : updV V i undef i = undef := by simp [updV]
          rw [e]
          exact Live.congr (fun j hj => ⟨(hsame j hj).1, (hsame j hj).2 _, rfl⟩) h
        · refine Or.inr ⟨hw, v, hk, hc, o, ho, Or.inl ⟨hg, Or.inl ⟨setD_same, ?_⟩⟩⟩
          have e : updV V i v i = v := by simp [updV]
          rw [e]
          exact Live.congr (fun j hj => ⟨(hsame j hj).1, (hsame j hj).2 _, rfl⟩) h
      · rw [hgr] at hg; cases hg
    · have hm' : r ∈ ord := by
        rcases List.mem_cons.1 hm with h | h
        · exact absurd h.symm hir
        · exact h
      have hgd' : ∀ g A B, ord = A ++ g :: B → r ∈ B → isGh G g = true → D g = true := fun g A B e hb => hgd g (i :: A) B (by rw [e]; rfl) hb
      have key : ∀ {L1 : Env} {Γ1 : List Fact}, Way ops G L0 D V ξ (i :: pre) L1 → (∀ p ∈ Γ1, D p.1 = true → p.2 w) → Live P w0 ops G K D V ξ ord L1 Γ1 →
          ∃ o' L' Γ' A B, i :: ord = A ++ r :: B ∧ ops[r]? = some o' ∧ Way ops G L0 D V ξ (A.reverse ++ pre) L' ∧ (∀ p ∈ Γ', D p.1 = true → p.2 w) ∧
            ((want ops L' o' = some false ∧ Live P w0 ops G K (setD D r) (updV V r undef) ξ ord L1 Γ1) ∨
             (want ops L' o' = some true ∧ ∃ v, o'.op.operands.toList.all (known L') = true ∧ (∀ w, Kp [] w0 w → Facts ops r Γ' w → OpRun P (rho L') o' w (fun v' w' => v' = v ∧ Kp [] w w')) ∧ Live P w0 ops G K (setD D r) (updV V r v) ξ ord L1 Γ1)) := by
        intro L1 Γ1 hw1 hf1 h1
        obtain ⟨o', L', Γ', A, B, e1, e2, e3, e4, e5⟩ := Live.plain hgr hdr hn'.2 hm' hgd' hw1 hf1 hph h1
        exact ⟨o', L', Γ', i :: A, B, by rw [e1]; rfl, e2, by simpa using e3, e4, e5⟩
      have eD : setD D r i = D i := setD_ne hir
      have eV : ∀ v, updV V r v i = V i := fun v => by simp [updV, hir]
      rcases h with ⟨hg, h⟩ | ⟨hg, h⟩
      · rcases h with ⟨hd, h⟩ | ⟨hd, hw, h⟩ | ⟨hd, hw, v, hk, hc, h⟩
        · obtain ⟨o', L', Γ', A, B, e1, e2, e3, e4, e5⟩ := key (hway.cons ho (fun _ => by simp [gave, hg])) hfa h
          refine ⟨o', L', Γ', A, B, e1, e2, e3, e4, ?_⟩
          rcases e5 with ⟨f1, f2⟩ | ⟨f1, v, f2, f3, f4⟩
          · exact Or.inl ⟨f1, o, ho, Or.inl ⟨hg, Or.inl ⟨by rw [eD]; exact hd, by rw [eV]; exact f2⟩⟩⟩
          · exact Or.inr ⟨f1, v, f2, f3, o, ho, Or.inl ⟨hg, Or.inl ⟨by rw [eD]; exact hd, by rw [eV]; exact f4⟩⟩⟩
        · obtain ⟨o', L', Γ', A, B, e1, e2, e3, e4, e5⟩ := key (hway.cons ho (fun hd' => by rw [hd] at hd'; cases hd')) hfa h
          refine ⟨o', L', Γ', A, B, e1, e2, e3, e4, ?_⟩
          rcases e5 with ⟨f1, f2⟩ | ⟨f1, v, f2, f3, f4⟩
          · exact Or.inl ⟨f1, o, ho, Or.inl ⟨hg, Or.inr (Or.inl ⟨by rw [eD]; exact hd, hw, f2⟩)⟩⟩
          · exact Or.inr ⟨f1, v, f2, f3, o, ho, Or.inl ⟨hg, Or.inr (Or.inl ⟨by rw [eD]; exact hd, hw, f4⟩)⟩⟩
        · obtain ⟨o', L', Γ', A, B, e1, e2, e3, e4, e5⟩ := key (hway.cons ho (fun hd' => by rw [hd] at hd'; cases hd')) hfa h
          refine ⟨o', L', Γ', A, B, e1, e2, e3, e4, ?_⟩
          rcases e5 with ⟨f1, f2⟩ | ⟨f1, v', f2, f3, f4⟩
          · exact Or.inl ⟨f1, o, ho, Or.inl ⟨hg, Or.inr (Or.inr ⟨by rw [eD]; exact hd, hw, v, hk, hc, f2⟩)⟩⟩
          · exact Or.inr ⟨f1, v', f2, f3, o, ho, Or.inl ⟨hg, Or.inr (Or.inr ⟨by rw [eD]; exact hd, hw, v, hk, hc, f4⟩)⟩⟩
      · have hdi : D i = true := hgd i [] ord rfl hm' hg
        rcases h with ⟨hd, h⟩ | ⟨hd, _⟩ | ⟨hd, _⟩
        · obtain ⟨o', L', Γ', A, B, e1, e2, e3, e4, e5⟩ := key (hway.cons ho (fun _ => by simp [gave, hg])) (fun p hp hpd => by
            rcases List.mem_cons.1 hp with rfl | hp
            · exact hph i hg hd
            · exact hfa p hp hpd) h
          refine ⟨o', L', Γ', A, B, e1, e2, e3, e4, ?_⟩
          rcases e5 with ⟨f1, f2⟩ | ⟨f1, v, f2, f3, f4⟩
          · exact Or.inl ⟨f1, o, ho, Or.inr ⟨hg, Or.inl ⟨by rw [eD]; exact hd, f2⟩⟩⟩
          · exact Or.inr ⟨f1, v, f2, f3, o, ho, Or.inr ⟨hg, Or.inl ⟨by rw [eD]; exact hd, f4⟩⟩⟩
        · rw [hdi] at hd; cases hd
        · rw [hdi] at hd; cases hd
/-- What is so at an effect: it may be done, by whatever x; or by one x, where all effects ahead of it are done. -/
def EffAt (P : Program) (w0 : World) (ops : List Oper) (G : List (Nat × GD)) (K : Env → List Fact → Prop) (D : Nat → Bool) (V : Nat → Value) (ξ : (i : Nat) → (gdOf G i).X) (r : Nat) (o : Oper) (L' : Env) (Γ' : List Fact) (ord : List Nat) (L : Env) (Γ : List Fact) : Prop :=
  ((∀ w, Kp [] w0 w → Facts ops r Γ' w → OpRun P (rho L') o w (fun v w' => ∃ x, v = (gdOf G r).val x ∧ (gdOf G r).phi x w' ∧ Goes w0 G r w w')) ∧ ∀ x, Live P w0 ops G K (setD D r) V (updX ξ r x) ord L Γ) ∨
  ((∀ p ∈ Γ, D p.1 = true) ∧ ∃ x, (∀ w, Kp [] w0 w → Facts ops r Γ' w → OpRun P (rho L') o w (fun v w' => v = (gdOf G r).val x ∧ (gdOf G r).phi x w' ∧ Goes w0 G r w w')) ∧ Live P w0 ops G K (setD D r) V (updX ξ r x) ord L Γ)
/-- The way to an effect: others may stand beside it, undone. -/
theorem Live.effect {D : Nat → Bool} {V : Nat → Value} {ξ : (i : Nat) → (gdOf G i).X} {r : Nat} (hgr : isGh G r = true) (hdr : D r = false) (hanc : ∀ j, anc ops r j = true → D j = true) {w : World} (hph : ∀ i, isGh G i = true → D i = true → (gdOf G i).phi (ξ i) w) : ∀ {ord pre : List Nat} {L : Env} {Γ : List Fact}, ord.Nodup → r ∈ ord →
    Way ops G L0 D V ξ pre L → (∀ p ∈ Γ, D p.1 = true → p.2 w) → Live P w0 ops G K D V ξ ord L Γ →
    ∃ o L' Γ' A B, ord = A ++ r :: B ∧ ops[r]? = some o ∧ Way ops G L0 D V ξ (A.reverse ++ pre) L' ∧ (∀ p ∈ Γ', D p.1 = true → p.2 w) ∧ want ops L' o = some true ∧ o.op.operands.toList.all (known L') = true ∧ EffAt P w0 ops G K D V ξ r o L' Γ' ord L Γ
  | [], _, _, _, _, hm, _, _, _ => by cases hm
  | i :: ord, pre, L, Γ, hn, hm, hway, hfa, ⟨o, ho, h⟩ => by
    have hn' := List.nodup_cons.1 hn
    by_cases hir : i = r
    · subst hir
      have hcg : ∀ (x : (gdOf G i).X) {L1 : Env} {Γ1 : List Fact}, Live P w0 ops G K D V ξ ord L1 Γ1 → Live P w0 ops G K (setD D i) V (updX ξ i x) ord L1 Γ1 := fun x {L1 Γ1} h1 => Live.congr (fun j hj => by
        have hne : j ≠ i := fun e => hn'.1 (e ▸ hj)
        exact ⟨(setD_ne hne).symm, rfl, (updX_ne hne).symm⟩) h1
      rcases h with ⟨hg, h⟩ | ⟨hg, h⟩
      · rw [hgr] at hg; cases hg
      · rcases h with ⟨hd, h⟩ | ⟨hd, hw, hk, hc, h⟩ | ⟨hd, hw, hk, ha, x, hc, h⟩
        · rw [hdr] at hd; cases hd
        · refine ⟨o, L, Γ, [], ord, rfl, ho, by simpa using hway, hfa, hw, hk, Or.inl ⟨hc, fun x => ⟨o, ho, Or.inr ⟨hg, Or.inl ⟨setD_same, ?_⟩⟩⟩⟩⟩
          rw [updX_same]
          exact hcg x (h x)
        · refine ⟨o, L, Γ, [], ord, rfl, ho, by simpa using hway, hfa, hw, hk, Or.inr ⟨fun p hp => hanc p.1 (ha p hp), x, hc, ⟨o, ho, Or.inr ⟨hg, Or.inl ⟨setD_same, ?_⟩⟩⟩⟩⟩
          rw [updX_same]
          exact hcg x h
    · have hm' : r ∈ ord := by
        rcases List.mem_cons.1 hm with h | h
        · exact absurd h.symm hir
        · exact h
      have eD : setD D r i = D i := setD_ne hir
      have eX : ∀ x, updX ξ r x i = ξ i := fun x => updX_ne hir
      have key : ∀ {L1 : Env} {Γ1 : List Fact}, Way ops G L0 D V ξ (i :: pre) L1 → (∀ p ∈ Γ1, D p.1 = true → p.2 w) → Live P w0 ops G K D V ξ ord L1 Γ1 →
          ∃ o L' Γ' A B, i :: ord = A ++ r :: B ∧ ops[r]? = some o ∧ Way ops G L0 D V ξ (A.reverse ++ pre) L' ∧ (∀ p ∈ Γ', D p.1 = true → p.2 w) ∧ want ops L' o = some true ∧ o.op.operands.toList.all (known L') = true ∧ EffAt P w0 ops G K D V ξ r o L' Γ' ord L1 Γ1 := by
        intro L1 Γ1 hw1 hf1 h1
        obtain ⟨o', L', Γ', A, B, e1, e2, e3, e4, e5, e6, e7⟩ := Live.effect hgr hdr hanc hph hn'.2 hm' hw1 hf1 h1
        exact ⟨o', L', Γ', i :: A, B, by rw [e1]; rfl, e2, by simpa using e3, e4, e5, e6, e7⟩
      -- one step on, where the tail is known
      have up : ∀ {L1 : Env} {Γ1 : List Fact} {o' : Oper} {L' : Env} {Γ' : List Fact}, (∀ p ∈ Γ, p ∈ Γ1) → (∀ x, Live P w0 ops G K (setD D r) V (updX ξ r x) ord L1 Γ1 → Live P w0 ops G K (setD D r) V (updX ξ r x) (i :: ord) L Γ) → EffAt P w0 ops G K D V ξ r o' L' Γ' ord L1 Γ1 → EffAt P w0 ops G K D V ξ r o' L' Γ' (i :: ord) L Γ := by
        intro L1 Γ1 o' L' Γ' hs hl he
        rcases he with ⟨h1, h2⟩ | ⟨h1, x, h2, h3⟩
        · exact Or.inl ⟨h1, fun x => hl x (h2 x)⟩
        · exact Or.inr ⟨fun p hp => h1 p (hs p hp), x, h2, hl x h3⟩
      rcases h with ⟨hg, h⟩ | ⟨hg, h⟩
      · rcases h with ⟨hd, h⟩ | ⟨hd, hw, h⟩ | ⟨hd, hw, v, hk, hc, h⟩
        · obtain ⟨o', L', Γ', A, B, e1, e2, e3, e4, e5, e6, e7⟩ := key (hway.cons ho (fun _ => by simp [gave, hg])) hfa h
          exact ⟨o', L', Γ', A, B, e1, e2, e3, e4, e5, e6, up (fun p hp => hp) (fun x hx => ⟨o, ho, Or.inl ⟨hg, Or.inl ⟨by rw [eD]; exact hd, hx⟩⟩⟩) e7⟩
        · obtain ⟨o', L', Γ', A, B, e1, e2, e3, e4, e5, e6, e7⟩ := key (hway.cons ho (fun hd' => by rw [hd] at hd'; cases hd')) hfa h
          exact ⟨o', L', Γ', A, B, e1, e2, e3, e4, e5, e6, up (fun p hp => hp) (fun x hx => ⟨o, ho, Or.inl ⟨hg, Or.inr (Or.inl ⟨by rw [eD]; exact hd, hw, hx⟩)⟩⟩) e7⟩
        · obtain ⟨o', L', Γ', A, B, e1, e2, e3, e4, e5, e6, e7⟩ := key (hway.cons ho (fun hd' => by rw [hd] at hd'; cases hd')) hfa h
          exact ⟨o', L', Γ', A, B, e1, e2, e3, e4, e5, e6, up (fun p hp => hp) (fun x hx => ⟨o, ho, Or.inl ⟨hg, Or.inr (Or.inr ⟨by rw [eD]; exact hd, hw, v, hk, hc, hx⟩)⟩⟩) e7⟩
      · rcases h with ⟨hd, h⟩ | ⟨hd, hw, hk, hc, h⟩ | ⟨hd, hw, hk, ha, y, hc, h⟩
        · obtain ⟨o', L', Γ', A, B, e1, e2, e3, e4, e5, e6, e7⟩ := key (hway.cons ho (fun _ => by simp [gave, hg])) (fun p hp hpd => by
            rcases List.mem_cons.1 hp with rfl | hp
            · exact hph i hg hd
            · exact hfa p hp hpd) h
          exact ⟨o', L', Γ', A, B, e1, e2, e3, e4, e5, e6, up (fun p hp => List.mem_cons_of_mem _ hp) (fun x hx => ⟨o, ho, Or.inr ⟨hg, Or.inl ⟨by rw [eD]; exact hd, by rw [eX]; exact hx⟩⟩⟩) e7⟩
        · have hf : ∀ (y : (gdOf G i).X), ∀ p ∈ ((i, (gdOf G i).phi y) :: Γ : List Fact), D p.1 = true → p.2 w := fun y p hp hpd => by
            rcases List.mem_cons.1 hp with rfl | hp
            · simp only at hpd; rw [hd] at hpd; cases hpd
            · exact hfa p hp hpd
          have all : ∀ y, ∀ x, Live P w0 ops G K (setD D r) V (updX ξ r x) ord (addD o.dst ((gdOf G i).val y) L) ((i, (gdOf G i).phi y) :: Γ) := fun y => by
            obtain ⟨o', L', Γ', A, B, e1, e2, e3, e4, e5, e6, e7⟩ := key (hway.cons ho (fun hd' => by rw [hd] at hd'; cases hd')) (hf y) (h y)
            rcases e7 with ⟨_, h2⟩ | ⟨h1, _⟩
            · exact h2
            · have := h1 _ List.mem_cons_self
              simp only at this
              rw [hd] at this
              cases this
          obtain ⟨o', L', Γ', A, B, e1, e2, e3, e4, e5, e6, e7⟩ := key (hway.cons ho (fun hd' => by rw [hd] at hd'; cases hd')) (hf (gdOf G i).x0) (h (gdOf G i).x0)
          exact ⟨o', L', Γ', A, B, e1, e2, e3, e4, e5, e6, up (fun p hp => List.mem_cons_of_mem _ hp) (fun x _ => ⟨o, ho, Or.inr ⟨hg, Or.inr (Or.inl ⟨by rw [eD]; exact hd, hw, hk, hc, fun y => all y x⟩)⟩⟩) e7⟩
        · obtain ⟨o', L', Γ', A, B, e1, e2, e3, e4, e5, e6, e7⟩ := key (hway.cons ho (fun hd' => by rw [hd] at hd'; cases hd')) (fun p hp hpd => by
            rcases List.mem_cons.1 hp with rfl | hp
            · simp only at hpd; rw [hd] at hpd; cases hpd
            · exact hfa p hp hpd) h
          exact ⟨o', L', Γ', A, B, e1, e2, e3, e4, e5, e6, up (fun p hp => List.mem_cons_of_mem _ hp) (fun x hx => ⟨o, ho, Or.inr ⟨hg, Or.inr (Or.inr ⟨by rw [eD]; exact hd, hw, hk, ha, y, hc, hx⟩)⟩⟩) e7⟩
/-- All is done. -/
theorem Live.done {D : Nat → Bool} {V : Nat → Value} {ξ : (i : Nat) → (gdOf G i).X} {w : World} (hph : ∀ i, isGh G i = true → D i = true → (gdOf G i).phi (ξ i) w) : ∀ {ord pre : List Nat} {L : Env} {Γ : List Fact}, (∀ i ∈ ord, D i = true) → Way ops G L0 D V ξ pre L → (∀ p ∈ Γ, p.2 w) → Live P w0 ops G K D V ξ ord L Γ →
    ∃ L' Γ', Way ops G L0 D V ξ (ord.reverse ++ pre) L' ∧ (∀ p ∈ Γ', p.2 w) ∧ K L' Γ'
  | [], pre, L, Γ, _, hway, hfa, h => ⟨L, Γ, by simpa using hway, hfa, h⟩
  | i :: ord, pre, L, Γ, hall, hway, hfa, ⟨o, ho, h⟩ => by
    have hdi := hall i (by simp)
    have hall' : ∀ j ∈ ord, D j = true := fun j hj => hall j (by simp [hj])
    rcases h with ⟨hg, h⟩ | ⟨hg, h⟩
    · rcases h with ⟨hd, h⟩ | ⟨hd, _⟩ | ⟨hd, _⟩
      · obtain ⟨L', Γ', e1, e2, e3⟩ := Live.done hph hall' (hway.cons ho (fun _ => by simp [gave, hg])) hfa h
        exact ⟨L', Γ', by simpa using e1, e2, e3⟩
      · rw [hdi] at hd; cases hd
      · rw [hdi] at hd; cases hd
    · rcases h with ⟨hd, h⟩ | ⟨hd, _⟩ | ⟨hd, _⟩
      · obtain ⟨L', Γ', e1, e2, e3⟩ := Live.done hph hall' (hway.cons ho (fun _ => by simp [gave, hg])) (fun p hp => by
          rcases List.mem_cons.1 hp with rfl | hp
          · exact hph i hg hd
          · exact hfa p hp) h
        exact ⟨L', Γ', by simpa using e1, e2, e3⟩
      · rw [hdi] at hd; cases hd
      · rw [hdi] at hd; cases hd
end
end Go.Proofs.YtajllbdeoopimaaGreat
namespace Go.Proofs.YtajllbdeoopimaaGreat
set_option linter.unusedVariables false
def ordX (ops : List Oper) (gi : List Nat) : List Nat → List Nat → Bool
  | _, [] => true
  | pre, i :: rest =>
    ((ops[i]?).map fun o => (lks ops o).all fun t => pre.all (fun j => !(dstOf ops j == some t) || anc ops i j) && rest.all (fun j => !(dstOf ops j == some t) || anc ops j i)).getD false &&
    (!gi.elem i || rest.all (fun j => gi.elem j || anc ops j i)) && ordX ops gi (i :: pre) rest
def chkX (n : Nat) (ops : List Oper) (ord gi : List Nat) (k : Nat) : Bool :=
  ops.all (fun o => !isSelect o.op) && ops.all (fun o => o.dst.all (fun d => Nat.blt d n)) && nodupB (ops.filterMap (·.dst)) &&
  (List.range k).all (fun i => ord.elem i) && nodupB ord && ordX ops gi [] ord && ord.all (fun i => Nat.blt i k) && Nat.ble k ops.length &&
  ((List.range ops.length).all fun i => ((ops[i]?).map fun o => (edges o).all (fun e => Nat.blt e i)).getD false) &&
  ((List.range ops.length).all fun i => Nat.blt i k || (List.range i).all (fun j => anc ops i j)) && gi.all (fun i => ord.elem i)
section
variable {P : Program} {n : Nat} {ops : List Oper} {Q : Exit → Act → World → Prop} {w0 : World} {L0 : Env} {G : List (Nat × GD)} {ord gi : List Nat} {k : Nat}
theorem ordX_spec : ∀ (rest pre : List Nat), ordX ops gi pre rest = true → ∀ A r B, rest = A ++ r :: B → ∀ o, ops[r]? = some o →
    (∀ t ∈ lks ops o, (∀ j, j ∈ A ∨ j ∈ pre → dstOf ops j = some t → anc ops r j = true) ∧ (∀ j ∈ B, dstOf ops j = some t → anc ops j r = true)) ∧ (gi.elem r = true → ∀ j ∈ B, gi.elem j = true ∨ anc ops j r = true)
  | [], _, _, A, r, B, h, _, _ => by cases A <;> simp at h
  | i :: rest, pre, h, A, r, B, he, o, ho => by
    simp only [ordX, Bool.and_eq_true] at h
    obtain ⟨⟨h1, h2⟩, h3⟩ := h
    cases A with
    | nil =>
      simp only [List.nil_append, List.cons.injEq] at he
      obtain ⟨rfl, rfl⟩ := he
      rw [ho] at h1
      simp only [Option.map_some, Option.getD_some] at h1
      refine ⟨fun t ht => ?_, fun hg j hj => ?_⟩
      · have := List.all_eq_true.1 h1 t ht
        simp only [Bool.and_eq_true] at this
        refine ⟨fun j hj hd => ?_, fun j hj hd => ?_⟩
        · rcases hj with hj | hj
          · cases hj
          · have := List.all_eq_true.1 this.1 j hj
            simpa [hd] using this
        · have := List.all_eq_true.1 this.2 j hj
          simpa [hd] using this
      · rw [hg] at h2
        simp only [Bool.not_true, Bool.false_or] at h2
        have := List.all_eq_true.1 h2 j hj
        simpa using this
    | cons a A =>
      simp only [List.cons_append, List.cons.injEq] at he
      obtain ⟨rfl, rfl⟩ := he
      obtain ⟨g1, g2⟩ := ordX_spec _ (i :: pre) h3 A r B rfl o ho
      refine ⟨fun t ht => ⟨fun j hj hd => (g1 t ht).1 j ?_ hd, (g1 t ht).2⟩, g2⟩
      rcases hj with hj | hj
      · rcases List.mem_cons.1 hj with rfl | hj
        · exact Or.inr (by simp)
        · exact Or.inl hj
      · exact Or.inr (by simp [hj])
structure ChkX (n : Nat) (ops : List Oper) (ord gi : List Nat) (k : Nat) : Prop where
  sel : ∀ o ∈ ops, isSelect o.op = false
  dlt : ∀ o ∈ ops, ∀ d, o.dst = some d → d < n
  one : ∀ (i j : Nat) (oi oj : Oper) (t : Nat), ops[i]? = some oi → ops[j]? = some oj → oi.dst = some t → oj.dst = some t → i = j
  cover : ∀ i, i < k → i ∈ ord
  nodup : ord.Nodup
  ok : ordX ops gi [] ord = true
  lt : ∀ i ∈ ord, i < k
  le : k ≤ ops.length
  ed : ∀ (i : Nat) (o : Oper), ops[i]? = some o → ∀ e ∈ edges o, e < i
  tl : ∀ i, i < ops.length → k ≤ i → ∀ j, j < i → anc ops i j = true
  gi : ∀ i ∈ gi, i ∈ ord
theorem ChkX.of (h : chkX n ops ord gi k = true) : ChkX n ops ord gi k := by
  simp only [chkX, Bool.and_eq_true] at h
  obtain ⟨⟨⟨⟨⟨⟨⟨⟨⟨⟨h1, h2⟩, h3⟩, h4⟩, h5⟩, h6⟩, h7⟩, h8⟩, h9⟩, h10⟩, h11⟩ := h
  refine ⟨fun o ho => ?_, fun o ho d hd => ?_, nodup_filterMap_inj ops (nodup_of_B _ h3), fun i hi => ?_, nodup_of_B _ h5, h6, fun i hi => ?_, by simpa [Nat.ble_eq] using h8, fun i o ho e he => ?_, fun i hi hk j hj => ?_, fun i hi => ?_⟩
  · simpa using List.all_eq_true.1 h1 o ho
  · have := List.all_eq_true.1 h2 o ho
    rw [hd] at this
    simpa [Nat.blt_eq] using this
  · have := List.all_eq_true.1 h4 i (by simpa using hi)
    rw [List.elem_eq_mem] at this
    exact of_decide_eq_true this
  · simpa [Nat.blt_eq] using List.all_eq_true.1 h7 i hi
  · have := List.all_eq_true.1 h9 i (by simpa using (List.getElem?_eq_some_iff.1 ho).1)
    rw [ho] at this
    simp only [Option.map_some, Option.getD_some] at this
    simpa [Nat.blt_eq] using List.all_eq_true.1 this e he
  · have := List.all_eq_true.1 h10 i (by simpa using hi)
    simp only [Bool.or_eq_true, Nat.blt_eq] at this
    rcases this with h | h
    · omega
    · exact List.all_eq_true.1 h j (by simpa using hj)
  · have := List.all_eq_true.1 h11 i hi
    rw [List.elem_eq_mem] at this
    exact of_decide_eq_true this
theorem isGh_iff : ∀ {G : List (Nat × GD)} {i : Nat}, isGh G i = (G.map (·.1)).elem i
  | [], i => rfl
  | (j, d) :: G, i => by
    have ih := isGh_iff (G := G) (i := i)
    unfold isGh at *
    simp only [gdLook, List.map_cons, List.elem_cons]
    by_cases e : j = i
    · subst e; simp
    · have h1 : Nat.beq j i = false := by rw [← Bool.not_eq_true, Nat.beq_eq]; exact e
      have h2 : (i == j) = false := by simp; exact fun h => e h.symm
      rw [h1, h2]
      simpa using ih
/-- What is so on the way. -/
structure StX (P : Program) (n : Nat) (ops : List Oper) (w0 : World) (L0 : Env) (G : List (Nat × GD)) (K : Env → List Fact → Prop) (ord : List Nat) (D : Nat → Bool) (V : Nat → Value) (ξ : (i : Nat) → (gdOf G i).X) (a : Act) (w : World) : Prop where
  closed : ∀ (i : Nat) (o : Oper), ops[i]? = some o → D i = true → ∀ e ∈ edges o, D e = true
  size : a.tmps.size = n
  defers : a.defers = []
  slot : ∀ (i : Nat) (o : Oper) (d : Nat), ops[i]? = some o → D i = true → o.dst = some d → a.tmps[d]? = some (gave G V ξ i)
  old : ∀ t v, look L0 t = some v → (∀ (i : Nat) (o : Oper), ops[i]? = some o → D i = true → o.dst ≠ some t) → a.tmps[t]? = some v
  kp : Kp [] w0 w
  ph : ∀ i, isGh G i = true → D i = true → (gdOf G i).phi (ξ i) w
  live : Live P w0 ops G K D V ξ ord L0 []
theorem StX.looks {K : Env → List Fact → Prop} {D : Nat → Bool} {V : Nat → Value} {ξ : (i : Nat) → (gdOf G i).X} {a : Act} {w : World} (c : ChkX n ops ord gi k) (hst : StX P n ops w0 L0 G K ord D V ξ a w) (htl : ∀ i, i < ops.length → k ≤ i → D i = false)
    {r : Nat} {o : Oper} {A B : List Nat} {L' : Env} (he : ord = A ++ r :: B) (ho : ops[r]? = some o) (hdr : D r = false) (hanc : ∀ j, anc ops r j = true → D j = true) (hway : Way ops G L0 D V ξ (A.reverse ++ []) L') :
    ∀ t ∈ lks ops o, ∀ v, look L' t = some v → a.tmps[t]? = some v := by
  intro t ht v hv
  obtain ⟨g1, _⟩ := ordX_spec ord [] c.ok A r B he o ho
  rcases hway t v hv with ⟨j, hj, h1, h2⟩ | ⟨h1, h2⟩
  · have hjA : j ∈ A := by simpa using hj
    have hdj := hanc j ((g1 t ht).1 j (Or.inl hjA) h1)
    unfold dstOf at h1
    cases hoj : ops[j]? with
    | none => rw [hoj] at h1; simp at h1
    | some oj =>
      rw [hoj] at h1
      simp only [Option.bind_some] at h1
      rw [hst.slot j oj t hoj hdj h1, h2 hdj]
  · refine hst.old t v h2 (fun i oi hoi hdi e => ?_)
    have hil := (List.getElem?_eq_some_iff.1 hoi).1
    have hik : i < k := by
      by_cases h : i < k
      · exact h
      · rw [htl i hil (by omega)] at hdi; cases hdi
    have hio := c.cover i hik
    have hdi' : dstOf ops i = some t := by simp [dstOf, hoi, e]
    rw [he] at hio
    rcases List.mem_append.1 hio with hA | hB
    · exact h1 i (by simpa using hA) hdi'
    · rcases List.mem_cons.1 hB with rfl | hB
      · rw [hdr] at hdi; cases hdi
      · have h3 := (g1 t ht).2 i hB hdi'
        have := anc_closed hst.closed i oi hoi (hst.closed i oi hoi hdi) r h3
        rw [hdr] at this
        cases this
theorem gave_updV {V : Nat → Value} {ξ : (i : Nat) → (gdOf G i).X} {r i : Nat} {v : Value} (h : i ≠ r) : gave G (updV V r v) ξ i = gave G V ξ i := by simp [gave, updV, h]
theorem gave_updX {V : Nat → Value} {ξ : (i : Nat) → (gdOf G i).X} {r i : Nat} {x : (gdOf G r).X} (h : i ≠ r) : gave G V (updX ξ r x) i = gave G V ξ i := by simp [gave, updX_ne h]
theorem put_slot {a : Act} {n : Nat} {dst : Option Nat} {v : Value} (hs : a.tmps.size = n) (t : Nat) (u : Value) (h : a.tmps[t]? = some u) (hne : dst ≠ some t) : (a.put dst v).tmps[t]? = some u := by
  cases dst with
  | none => exact h
  | some d =>
    have : d ≠ t := fun e => hne (by rw [e])
    simp only [Act.put]
    rw [Array.getElem?_setIfInBounds_ne this]
    exact h
theorem put_here {a : Act} {n d : Nat} {v : Value} (hs : a.tmps.size = n) (hd : d < n) : (a.put (some d) v).tmps[d]? = some v := by simp [Act.put, hs, hd]
/-- One is done. -/
theorem StX.did {K : Env → List Fact → Prop} {D : Nat → Bool} {V V' : Nat → Value} {ξ ξ' : (i : Nat) → (gdOf G i).X} {a : Act} {w w' : World} (c : ChkX n ops ord gi k) (hst : StX P n ops w0 L0 G K ord D V ξ a w) {r : Nat} {o : Oper} {v : Value} (ho : ops[r]? = some o) (hed : ∀ e ∈ edges o, D e = true)
    (hk : Goes w0 G r w w') (hstab : ∀ i x, Stab [] ((gdOf G i).phi x)) (hv : gave G V' ξ' r = v) (hoth : ∀ i, i ≠ r → gave G V' ξ' i = gave G V ξ i) (hx : ∀ i, i ≠ r → ξ' i = ξ i) (hr : isGh G r = true → (gdOf G r).phi (ξ' r) w') (hlive : Live P w0 ops G K (setD D r) V' ξ' ord L0 []) :
    StX P n ops w0 L0 G K ord (setD D r) V' ξ' (a.put o.dst v) w' := by
  refine ⟨fun i oi hoi hdi e he => ?_, ?_, ?_, fun i oi d hoi hdi hd => ?_, fun t u hu hno => ?_, (hk.elim (fun h => hst.kp.trans h) (fun h => h.1)), fun i hg hdi => ?_, hlive⟩
  · by_cases hir : i = r
    · subst hir
      rw [ho] at hoi
      cases hoi
      exact setD_of (hed e he)
    · rw [setD_ne hir] at hdi
      exact setD_of (hst.closed i oi hoi hdi e he)
  · cases hdd : o.dst with
    | none => exact hst.size
    | some d => simp [Act.put, hst.size]
  · cases hdd : o.dst <;> exact hst.defers
  · by_cases hir : i = r
    · subst hir
      rw [ho] at hoi
      cases hoi
      rw [hd, hv]
      exact put_here hst.size (c.dlt o (List.mem_of_getElem? ho) d hd)
    · rw [setD_ne hir] at hdi
      rw [hoth i hir]
      exact put_slot hst.size d _ (hst.slot i oi d hoi hdi hd) (fun e => hir (c.one i r oi o d hoi ho hd e))
  · refine put_slot hst.size t u (hst.old t u hu (fun i oi hoi hdi => hno i oi hoi (setD_of hdi))) (hno r o ho setD_same)
  · by_cases hir : i = r
    · subst hir
      exact hr hg
    · rw [setD_ne hir] at hdi
      rw [hx i hir]
      exact hk.elim (fun h => hstab i _ w w' h (hst.ph i hg hdi)) (fun h => h.2 i _ hir (hst.ph i hg hdi))
def KX (n : Nat) (w0 : World) (P : Program) (ops : List Oper) (Q : Exit → Act → World → Prop) (k : Nat) (L : Env) (Γ : List Fact) : Prop :=
  ∀ w', Kp [] w0 w' → (∀ p ∈ Γ, p.2 w') → ∀ a, Fits n a L → wpList P ops.toArray Q (ops.drop k) a w'
theorem StX.wpAny (c : ChkX n ops ord (G.map (·.1)) k) (hstab : ∀ i x, Stab [] ((gdOf G i).phi x)) : ∀ (fuel : Nat) (listed : Array Bool) (V : Nat → Value) (ξ : (i : Nat) → (gdOf G i).X) (a : Act) (w : World),
    listed.size = ops.length → StX P n ops w0 L0 G (KX n w0 P ops Q k) ord (fun j => listed.getD j true) V ξ a w → (∀ i, i < ops.length → k ≤ i → listed.getD i true = false) →
    (List.range ops.length).countP (fun i => !listed.getD i true) = fuel → Go.wpAny P .any ops.toArray Q fuel listed a w := by
  have hfin : ∀ (listed : Array Bool) (V : Nat → Value) (ξ : (i : Nat) → (gdOf G i).X) (a : Act) (w : World), StX P n ops w0 L0 G (KX n w0 P ops Q k) ord (fun j => listed.getD j true) V ξ a w → (∀ i, i < ops.length → k ≤ i → listed.getD i true = false) → (∀ i, i < k → listed.getD i true = true) → wpList P ops.toArray Q (ops.drop k) a w := by
    intro listed V ξ a w hst htl hpre
    obtain ⟨L', Γ', h1, h2, h3⟩ := Live.done (L0 := L0) (pre := []) hst.ph (fun i hi => hpre i (c.lt i hi)) Way.nil (by simp) hst.live
    refine h3 w hst.kp h2 a ⟨fun t v hv => ?_, hst.size, hst.defers⟩
    rcases h1 t v hv with ⟨j, hj, g1, g2⟩ | ⟨g1, g2⟩
    · have hjo : j ∈ ord := by simpa using hj
      have hdj := hpre j (c.lt j hjo)
      unfold dstOf at g1
      cases hoj : ops[j]? with
      | none => rw [hoj] at g1; simp at g1
      | some oj =>
        rw [hoj] at g1
        simp only [Option.bind_some] at g1
        rw [hst.slot j oj t hoj hdj g1, g2 hdj]
    · refine hst.old t v g2 (fun i oi hoi hdi e => ?_)
      have hil := (List.getElem?_eq_some_iff.1 hoi).1
      have hik : i < k := by
        by_cases h : i < k
        · exact h
        · simp only [htl i hil (by omega)] at hdi; cases hdi
      exact g1 i (by simpa using c.cover i hik) (by simp [dstOf, hoi, e])
  intro fuel
  induction fuel with
  | zero =>
    intro listed V ξ a w hsz hst htl hcnt
    rw [List.countP_eq_zero] at hcnt
    have hall : ∀ i, i < ops.length → listed.getD i true = true := fun i hi => by simpa using hcnt i (by simpa using hi)
    have hle := c.le
    have hk : k = ops.length := by
      by_cases h : k < ops.length
      · have := htl k h (Nat.le_refl _)
        rw [hall k h] at this
        cases this
      · omega
    exact wpAny_tail c.ed 0 k listed a w (by omega) hsz c.tl hst.closed (fun i hi => by rw [hall i hi]; simp; omega) (hfin listed V ξ a w hst htl (fun i hi => hall i (by omega)))
  | succ fuel ih =>
    intro listed V ξ a w hsz hst htl hcnt
    have hle := c.le
    by_cases hpre : ∀ i, i < k → listed.getD i true = true
    · have hdec : ∀ i, i < ops.length → listed.getD i true = decide (i < k) := by
        intro i hi
        by_cases hik : i < k
        · rw [hpre i hik]; simp [hik]
        · rw [htl i hi (by omega)]; simp [hik]
      have hm : k + (fuel + 1) = ops.length := by
        have : (List.range ops.length).countP (fun i => !listed.getD i true) = ops.length - k := by
          have e1 : (List.range ops.length).countP (fun i => !listed.getD i true) = (List.range ops.length).countP (fun i => !decide (i < k)) := by
            apply List.countP_congr
            intro i hi
            rw [hdec i (by simpa using hi)]
          rw [e1]
          have : ops.length = k + (ops.length - k) := by omega
          rw [this, List.range_add, List.countP_append, List.countP_map]
          have h1 : (List.range k).countP (fun i => !decide (i < k)) = 0 := by
            rw [List.countP_eq_zero]; intro i hi; simp at hi; simp [hi]
          have h2 : (List.range (ops.length - k)).countP ((fun i => !decide (i < k)) ∘ fun x => k + x) = (List.range (ops.length - k)).length := by
            rw [List.countP_eq_length]; intro i hi; simp
          rw [h1, h2]
          simp
        omega
      exact wpAny_tail c.ed (fuel + 1) k listed a w hm hsz c.tl hst.closed hdec (hfin listed V ξ a w hst htl hpre)
    · constructor
      · intro hr
        exfalso
        apply hpre
        intro i
        induction i using Nat.strongRecOn with
        | _ i ihi =>
          intro hik
          cases hd : listed.getD i true with
          | true => rfl
          | false =>
            exfalso
            have : i ∈ Region.ready .any ops.toArray listed := by
              refine (ready_iff hsz).2 ⟨ops[i], by simp, hd, fun e he => ?_⟩
              have hei := c.ed i ops[i] (by simp) e he
              have := ihi e hei (by omega)
              simp only [Array.getD_eq_getD_getElem?] at this ⊢
              rw [Array.getElem?_eq_getElem (by omega)] at this ⊢
              exact this
            rw [hr] at this
            cases this
      · intro i hi
        obtain ⟨o, ho, hnd, hed'⟩ := (ready_iff hsz).1 hi
        have hil : i < ops.length := (List.getElem?_eq_some_iff.1 ho).1
        have hed : ∀ e ∈ edges o, listed.getD e true = true := by
          intro e he
          have := hed' e he
          simp only [Array.getD_eq_getD_getElem?] at this ⊢
          cases h : listed[e]? with
          | none => rfl
          | some b => rw [h] at this; exact this
        have hanc : ∀ j, anc ops i j = true → listed.getD j true = true := anc_closed hst.closed i o ho hed
        have hsz' : (listed.setIfInBounds i true).size = ops.length := by simp [hsz]
        have hset : (fun j => (listed.setIfInBounds i true).getD j true) = setD (fun j => listed.getD j true) i := funext fun j => getD_set (by omega)
        by_cases hik : i < k
        · have htl' : ∀ j, j < ops.length → k ≤ j → (listed.setIfInBounds i true).getD j true = false := by
            intro j hj hkj
            rw [getD_set (by omega), setD_ne (by omega)]
            exact htl j hj hkj
          have hcnt' : (List.range ops.length).countP (fun j => !(listed.setIfInBounds i true).getD j true) = fuel := by
            have key : ∀ (l : List Nat), l.Nodup → i ∈ l → l.countP (fun j => !listed.getD j true) = l.countP (fun j => !(listed.setIfInBounds i true).getD j true) + 1 := by
              intro l
              induction l with
              | nil => intro _ h; cases h
              | cons y l ihl =>
                intro hnl hm
                rw [List.nodup_cons] at hnl
                rw [List.countP_cons, List.countP_cons]
                by_cases e : y = i
                · subst e
                  have hsame : l.countP (fun j => !listed.getD j true) = l.countP (fun j => !(listed.setIfInBounds y true).getD j true) := by
                    apply List.countP_congr
                    intro j hj
                    rw [getD_set (by omega), setD_ne (show j ≠ y from fun e1 => hnl.1 (e1 ▸ hj))]
                  rw [hsame, getD_set (by omega), setD_same, hnd]
                  simp
                · have hm' : i ∈ l := by
                    rcases List.mem_cons.1 hm with h | h
                    · exact absurd h.symm e
                    · exact h
                  rw [ihl hnl.2 hm', getD_set (by omega), setD_ne e]
                  omega
            have := key (List.range ops.length) List.nodup_range (by simpa using hil)
            omega
          have hio := c.cover i hik
          cases hg : isGh G i with
          | false =>
            have hgd : ∀ g A B, ord = A ++ g :: B → i ∈ B → isGh G g = true → listed.getD g true = true := by
              intro g A B he hb hgg
              have hgo : g ∈ ord := by rw [he]; simp
              have hgl : g < ops.length := Nat.lt_of_lt_of_le (c.lt g hgo) hle
              obtain ⟨_, g2⟩ := ordX_spec ord [] c.ok A g B he ops[g] (by simp [hgl])
              rcases g2 (by rw [← isGh_iff]; exact hgg) i hb with h | h
              · rw [← isGh_iff, hg] at h; cases h
              · exact hanc g h
            obtain ⟨o', L', Γ', A, B, e1, e2, e3, e4, e5⟩ := Live.plain (D := fun j => listed.getD j true) hg hnd c.nodup hio hgd Way.nil (by simp) hst.ph hst.live
            have heo : o = o' := Option.some.inj (ho.symm.trans e2)
            subst heo
            have hlk := hst.looks c htl e1 ho hnd hanc e3
            rcases e5 with ⟨hw, hl⟩ | ⟨hw, v, hkn, hrun, hl⟩
            · refine wpOp_of ho (wanted_of hlk hw) (fun h => by cases h) (fun _ => ?_)
              refine ih _ (updV V i undef) ξ _ w hsz' ?_ htl' hcnt'
              rw [hset]
              exact hst.did c ho hed (Or.inl (Kp.refl _ _)) hstab (by simp [gave, hg, updV]) (fun j hj => gave_updV hj) (fun j hj => rfl) (fun h => by rw [hg] at h; cases h) hl
            · refine wpOp_of ho (wanted_of hlk hw) (fun _ => ?_) (fun h => by cases h)
              have hr := hrun w hst.kp (fun p hp ha => e4 p hp (hanc p.1 ha))
              have hr' := OpRun.congr (c.sel o (List.mem_of_getElem? ho)) (eval_of hlk hkn) hr
              refine hr'.wp (fun v' w' ⟨h1, h2⟩ => ?_)
              subst h1
              refine ih _ (updV V i v') ξ _ w' hsz' ?_ htl' hcnt'
              rw [hset]
              exact hst.did c ho hed (Or.inl h2) hstab (by simp [gave, hg, updV]) (fun j hj => gave_updV hj) (fun j hj => rfl) (fun h => by rw [hg] at h; cases h) hl
          | true =>
            obtain ⟨o', L', Γ', A, B, e1, e2, e3, e4, hw, hkn, hea⟩ := Live.effect (D := fun j => listed.getD j true) hg hnd hanc hst.ph c.nodup hio Way.nil (by simp) hst.live
            have heo : o = o' := Option.some.inj (ho.symm.trans e2)
            subst heo
            have hlk := hst.looks c htl e1 ho hnd hanc e3
            refine wpOp_of ho (wanted_of hlk hw) (fun _ => ?_) (fun h => by cases h)
            rcases hea with ⟨hrun, hl⟩ | ⟨_, x, hrun, hl⟩
            · have hr := hrun w hst.kp (fun p hp ha => e4 p hp (hanc p.1 ha))
              have hr' := OpRun.congr (c.sel o (List.mem_of_getElem? ho)) (eval_of hlk hkn) hr
              refine hr'.wp (fun v' w' ⟨x, h1, h2, h3⟩ => ?_)
              subst h1
              refine ih _ V (updX ξ i x) _ w' hsz' ?_ htl' hcnt'
              rw [hset]
              exact hst.did c ho hed h3 hstab (by simp [gave, hg, updX_same]) (fun j hj => gave_updX hj) (fun j hj => updX_ne hj) (fun _ => by rw [updX_same]; exact h2) (hl x)
            · have hr := hrun w hst.kp (fun p hp ha => e4 p hp (hanc p.1 ha))
              have hr' := OpRun.congr (c.sel o (List.mem_of_getElem? ho)) (eval_of hlk hkn) hr
              refine hr'.wp (fun v' w' ⟨h1, h2, h3⟩ => ?_)
              subst h1
              refine ih _ V (updX ξ i x) _ w' hsz' ?_ htl' hcnt'
              rw [hset]
              exact hst.did c ho hed h3 hstab (by simp [gave, hg, updX_same]) (fun j hj => gave_updX hj) (fun j hj => updX_ne hj) (fun _ => by rw [updX_same]; exact h2) hl
        · exfalso
          apply hpre
          intro j hj
          exact hanc j (c.tl i hil (by omega) j (by omega))
theorem CG.free {id : Nat} (hm : P.follows .mixedOrders = true) (k : Nat) (ord : List Nat) (G : List (Nat × GD)) (hc : chkX n ops ord (G.map (·.1)) k = true) (hstab : ∀ p ∈ G, ∀ x, Stab [] (p.2.phi x))
    (h : DerX P w0 ops G (KX n w0 P ops Q k) ord L0 []) : CG P n (.region id ops.toArray true) Q L0 w0 := by
  intro a ha
  have c := ChkX.of hc
  refine wp_region_any hm ?_
  have hget : ∀ j, (Array.replicate ops.toArray.size false).getD j true = !decide (j < ops.length) := by
    intro j
    simp [Array.getD_eq_getD_getElem?, Array.getElem?_replicate]
    split <;> simp_all
  have hstab' : ∀ i x, Stab [] ((gdOf G i).phi x) := by
    have : ∀ (G : List (Nat × GD)), (∀ p ∈ G, ∀ x, Stab [] (p.2.phi x)) → ∀ i, ∀ x, Stab [] ((gdOf G i).phi x) := by
      intro G
      induction G with
      | nil => intro _ i x w w' _ _; exact trivial
      | cons p G ih =>
        intro h i
        obtain ⟨j, d⟩ := p
        have e : gdOf ((j, d) :: G) i = (if Nat.beq j i = true then d else gdOf G i) := by
          unfold gdOf
          simp only [gdLook]
          cases Nat.beq j i <;> rfl
        by_cases hb : Nat.beq j i = true
        · rw [e, if_pos hb]
          exact h (j, d) (by simp)
        · rw [e, if_neg hb]
          exact ih (fun q hq => h q (by simp [hq])) i
    exact this G hstab
  refine StX.wpAny (w0 := w0) (L0 := L0) (G := G) c hstab' _ _ (fun _ => undef) (fun i => (gdOf G i).x0) a _ (by simp) ?_ ?_ ?_
  · have hD : (fun j => (Array.replicate ops.toArray.size false).getD j true) = fun j => !decide (j < ops.length) := funext hget
    rw [hD]
    refine ⟨fun i o ho hd => ?_, ha.size, ha.defers, fun i o d ho hd => ?_, fun t v hv _ => ha.slot t v hv, (Kp.refl [] w0).drew, fun i hg hd => ?_, ?_⟩
    · simp [(List.getElem?_eq_some_iff.1 ho).1] at hd
    · simp [(List.getElem?_eq_some_iff.1 ho).1] at hd
    · rw [isGh_iff, List.elem_eq_mem] at hg
      have := c.lt i (c.gi i (of_decide_eq_true hg))
      have hle := c.le
      have hil : i < ops.length := by omega
      simp [hil] at hd
    · refine Live.congr (fun i hi => ⟨?_, rfl, rfl⟩) h
      have h1 := c.lt i hi
      have hle := c.le
      have hil : i < ops.length := by omega
      simp [hil]
  · intro i hi _
    rw [hget]; simp [hi]
  · have : (List.range ops.length).countP (fun i => !(Array.replicate ops.toArray.size false).getD i true) = (List.range ops.length).length := by
      rw [List.countP_eq_length]
      intro i hi
      rw [hget]
      simp at hi
      simp [hi]
    rw [this]
    simp
end
end Go.Proofs.YtajllbdeoopimaaGreat
namespace Go.Proofs.YtajllbdeoopimaaGreat
set_option linter.unusedVariables false
section
variable {P : Program} {n : Nat} {ops : List Oper} {Q : Exit → Act → World → Prop} {w0 : World} {L : Env} {G : List (Nat × GD)} {K : Env → List Fact → Prop} {Γ : List Fact} {i : Nat} {ord : List Nat} {ty : TypeId} {pos : String} {af : Array Edge} {g : Option (Nat × Bool)}
theorem cZ {d : Nat} {op : Op} {v : Value} (hg : isGh G i = false) (ho : ops[i]? = some ⟨some d, op, ty, pos, af, g⟩) (hw : want ops L ⟨some d, op, ty, pos, af, g⟩ = some true) (hk : op.operands.toList.all (known L) = true)
    (hv : Vals P [] w0 (Facts ops i Γ) L ⟨some d, op, ty, pos, af, g⟩ v) (h : DerX P w0 ops G K ord ((d, v) :: L) Γ) : DerX P w0 ops G K (i :: ord) L Γ :=
  ⟨_, ho, Or.inl ⟨hg, Or.inr (Or.inr ⟨rfl, hw, v, hk, fun w hkp hF => by unfold OpRun; rw [hv w hkp hF]; exact ⟨rfl, Kp.refl _ _⟩, h⟩)⟩⟩
/-- An effect. -/
theorem DerX.eff {o : Oper} (D : GD) (hg : gdLook G i = some D) (ho : ops[i]? = some o) (hw : want ops L o = some true) (hk : o.op.operands.toList.all (known L) = true)
    (hc : ∀ w, Kp [] w0 w → Facts ops i Γ w → OpRun P (rho L) o w (fun v w' => ∃ x, v = D.val x ∧ D.phi x w' ∧ Kp [] w w'))
    (h : ∀ x, DerX P w0 ops G K ord (addD o.dst (D.val x) L) ((i, D.phi x) :: Γ)) : DerX P w0 ops G K (i :: ord) L Γ := by
  have e : gdOf G i = D := by simp [gdOf, hg]
  refine ⟨o, ho, Or.inr ⟨by simp [isGh, hg], Or.inr (Or.inl ⟨rfl, hw, hk, ?_, ?_⟩)⟩⟩
  · rw [e]; exact fun w h1 h2 => (hc w h1 h2).mono (fun v w' ⟨x, g1, g2, g3⟩ => ⟨x, g1, g2, Or.inl g3⟩)
  · rw [e]; exact h
/-- An effect whose x is known: all effects ahead of it in the order stand ahead of it. -/
theorem DerX.effD {o : Oper} (D : GD) (x : D.X) (hg : gdLook G i = some D) (ho : ops[i]? = some o) (hw : want ops L o = some true) (hk : o.op.operands.toList.all (known L) = true) (ha : Γ.all (fun p => anc ops i p.1) = true)
    (hc : ∀ w, Kp [] w0 w → Facts ops i Γ w → OpRun P (rho L) o w (fun v w' => v = D.val x ∧ D.phi x w' ∧ Kp [] w0 w' ∧ ∀ j y, j ≠ i → (gdOf G j).phi y w → (gdOf G j).phi y w'))
    (h : DerX P w0 ops G K ord (addD o.dst (D.val x) L) ((i, D.phi x) :: Γ)) : DerX P w0 ops G K (i :: ord) L Γ := by
  have e : gdOf G i = D := by simp [gdOf, hg]
  subst e
  refine ⟨o, ho, Or.inr ⟨by simp [isGh, hg], Or.inr (Or.inr ⟨rfl, hw, hk, fun p hp => List.all_eq_true.1 ha p hp, x, ?_, h⟩)⟩⟩
  exact fun w h1 h2 => (hc w h1 h2).mono (fun v w' ⟨g1, g2, g3⟩ => ⟨g1, g2, Or.inr g3⟩)
/-- A call that is an effect. -/
theorem DerX.callE {d : Nat} {f : FuncId} [Fnc P f] {args : List Operand} {vs : List Value} {tys : Array TypeId} (D : GD) (hg : gdLook G i = some D)
    (ho : ops[i]? = some ⟨some d, .call ⟨.value (.func f), args.toArray, tys⟩, ty, pos, af, g⟩) (hw : want ops L ⟨some d, .call ⟨.value (.func f), args.toArray, tys⟩, ty, pos, af, g⟩ = some true) (hk : (Op.call ⟨.value (.func f), args.toArray, tys⟩).operands.toList.all (known L) = true)
    (he : Evs L args vs) (hc : ∀ w, Kp [] w0 w → Facts ops i Γ w → Calls P f vs.toArray w (fun e w' => ∃ x, e = .returned (D.val x) ∧ D.phi x w' ∧ Kp [] w w'))
    (h : ∀ x, DerX P w0 ops G K ord ((d, D.val x) :: L) ((i, D.phi x) :: Γ)) : DerX P w0 ops G K (i :: ord) L Γ :=
  DerX.eff D hg ho hw hk (fun w h1 h2 => orun_call (by rw [he.arr]; exact (hc w h1 h2).mono (fun e w' ⟨x, g1, g2, g3⟩ => ⟨D.val x, g1, x, rfl, g2, g3⟩))) h
/-- What is promised of a slice of l. -/
def gS {α : Type} (m : Nat) (enc : α → List Value) (sz : Nat) (l : List α) : GD := ⟨Option Addr × Nat, (none, 0), fun q => .slice q.1 l.length q.2, fun q w => SlF m enc sz w q.1 q.2 l⟩
theorem gS_stab {α : Type} {m : Nat} {enc : α → List Value} {sz : Nat} {l : List α} (x : (gS m enc sz l).X) : Stab [] ((gS m enc sz l).phi x) := fun w w' hk h => SlF.kp0 h hk
/-- A slice written out. -/
theorem DerX.buildSlice {α : Type} {enc : α → List Value} {sz m d : Nat} {T E : TypeId} {parts : List (Nat × Operand)} {vs : List (Nat × Value)} {b : Nat} (l : List α) (hel : ∀ x, (enc x).length = sz) (hg : gdLook G i = some (gS m enc sz l)) (hb : Nat.beq l.length b = true)
    (ho : ops[i]? = some ⟨some d, .buildSlice T b parts.toArray, ty, pos, af, g⟩) (hw : want ops L ⟨some d, .buildSlice T b parts.toArray, ty, pos, af, g⟩ = some true) (hk : (Op.buildSlice T b parts.toArray).operands.toList.all (known L) = true)
    (he : (parts.map fun p => (p.1, rho L p.2)) = vs) (hm : m ≤ w0.heap.size) (hrun : ∀ w : World, (Instr.buildSlice T b vs.toArray).run P w = .ok (.slice (some ⟨w.heap.size, 0, none⟩) b b) { w with heap := w.heap.push (.cells (flt enc l).toArray E) })
    (h : ∀ (a : Option Addr) (c : Nat), DerX P w0 ops G K ord ((d, .slice a l.length c) :: L) ((i, fun w => SlF m enc sz w a c l) :: Γ)) : DerX P w0 ops G K (i :: ord) L Γ := by
  have hb' := Nat.eq_of_beq_eq_true hb
  subst hb'
  refine DerX.eff (gS m enc sz l) hg ho hw hk (fun w h1 h2 => ?_) (fun x => h x.1 x.2)
  unfold OpRun
  have e : (parts.toArray.map fun (p : Nat × Operand) => (p.1, rho L p.2)) = vs.toArray := by simp [he]
  have : (execOp (rho L) ⟨some d, .buildSlice T l.length parts.toArray, ty, pos, af, g⟩).run P w = .ok (.value (.slice (some ⟨w.heap.size, 0, none⟩) l.length l.length)) { w with heap := w.heap.push (.cells (flt enc l).toArray E) } := by
    simp only [execOp, e, Sem.run_bind, hrun w, Result.andThen, Sem.run_pure]
  rw [this]
  refine ⟨(some ⟨w.heap.size, 0, none⟩, l.length), rfl, ⟨Nat.le_refl _, fun b off e => ?_, ?_⟩, Kp.push w _ rfl⟩
  · simp only [Option.some.injEq, Addr.mk.injEq] at e
    have := h1.size
    omega
  · refine Sl.of_blk hel (pre := []) (post := []) (T := E) ?_
    have := Blk.push w (.cells (flt enc l).toArray E)
    simpa using this
theorem DerX.tl {k : Nat} (h : ∀ w', Kp [] w0 w' → (∀ p ∈ Γ, p.2 w') → SG P n ops Q (ops.drop k) L w') : DerX P w0 ops G (KX n w0 P ops Q k) [] L Γ := h
end
end Go.Proofs.YtajllbdeoopimaaGreat
namespace Go.Proofs.YtajllbdeoopimaaGreat
set_option linter.unusedVariables false
theorem Row.append {w : World} {b off : Nat} {A B : List Value} (h : Row w b off A) (h' : Row w b (off + A.length) B) : Row w b off (A ++ B) := by
  obtain ⟨cs, T, f, h1, h2⟩ := h
  obtain ⟨cs', T', f', h3, h4⟩ := h'
  rw [h1] at h3
  cases h3
  refine ⟨cs, T, f, h1, fun i v hv => ?_⟩
  by_cases hi : i < A.length
  · rw [List.getElem?_append_left hi] at hv
    exact h2 i v hv
  · rw [List.getElem?_append_right (by omega)] at hv
    have := h4 _ v hv
    rw [show off + A.length + (i - A.length) = off + i by omega] at this
    exact this
section
variable {α : Type} {enc : α → List Value} {sz : Nat}
theorem Sl.tail {w : World} {b off : Nat} {x : α} {l : List α} (h : Sl enc sz w (some ⟨b, off, none⟩) (x :: l)) : Sl enc sz w (some ⟨b, off + sz, none⟩) l := fun i y hy => by
  have := h.row (i := i + 1) (x := y) (by simpa using hy)
  refine ⟨b, off + sz, rfl, ?_⟩
  rw [show off + sz + i * sz = off + (i + 1) * sz by rw [Nat.add_mul]; omega]
  exact this
theorem Sl.flat (hel : ∀ x, (enc x).length = sz) {w : World} {b : Nat} : ∀ {l : List α} {off : Nat}, l ≠ [] → Sl enc sz w (some ⟨b, off, none⟩) l → Row w b off (flt enc l)
  | [], _, h, _ => absurd rfl h
  | [x], off, _, h => by
    have := h.row (i := 0) (x := x) rfl
    simpa [flt] using this
  | x :: y :: l, off, _, h => by
    have h1 := h.row (i := 0) (x := x) rfl
    have h2 := Sl.flat hel (by simp) h.tail
    have : flt enc (x :: y :: l) = enc x ++ flt enc (y :: l) := by simp [flt]
    rw [this]
    refine Row.append (by simpa using h1) ?_
    rw [hel]
    exact h2
variable {P : Program} {w : World}
theorem run_cloneO {t ty e : TypeId} [u : Ut P t (.slice e)] {i : TypeInfo} [f : Inf P e i] {z : Value} (hz : i.zero = some z) (hzs : z.cells.size = i.size) (hsz : 0 < i.size) (hel : ∀ x, (enc x).length = i.size) (hone : ∀ x, allOne (enc x) = true)
    {a : Option Addr} {c : Nat} {l : List α} (hs : Sl enc i.size w a l) {b0 m : Nat} (hb0 : Blk w b0 (.cells #[] e)) (hm : m ≤ b0) (h63 : l.length ≤ maxLen) (hbytes : l.length * i.bytes ≤ 140737488355328) :
    ∃ v' w', (Builtin.append_ #[t, t] ty #[.slice (some ⟨b0, 0, none⟩) 0 0, .slice a l.length c]).run P w = .ok v' w' ∧ w'.ownsRow m e i.size v' l.length (flt enc l) ∧ Kp [] w w' := by
  have hown : w.ownsRow m e i.size (.slice (some ⟨b0, 0, none⟩) 0 0) 0 [] := by
    refine ⟨by simp, Or.inr ⟨b0, 0, #[], rfl, hm, hb0, Nat.le_refl _, by simp [maxLen], by simp, by simp⟩⟩
  by_cases hl : l = []
  · subst hl
    refine ⟨.slice (some ⟨b0, 0, none⟩) 0 0, w, ?_, hown, Kp.refl _ _⟩
    cases a <;> simp [Builtin.append_, run_underlying u.eq, sizeOf, typeInfo, f.eq, Builtin.lenOf, Builtin.firstCells, loadCells, loadCellsFrom, storeCells]
  · have hpos : 0 < l.length := List.length_pos_iff.2 hl
    obtain ⟨b, off, rfl, _⟩ := hs.at hpos
    have hr := hs.flat hel hl
    have hlen : (flt enc l).length = l.length * i.size := flt_length hel l
    obtain ⟨v', w', h1, h2, h3⟩ := run_append (P := P) (ty := ty) (d := .bool) (c := c) (u := u) (f := f) hz hzs hsz hown hlen hr (flt_all hone l) (by omega) (by simpa using hbytes) (by have := hb0.lt; omega)
    have hnews : ∀ j u', (flt enc l)[j]? = some u' → w.cell? ((⟨b, off, none⟩ : Addr).add j) = some u' := fun j u' hu => by rw [add_none]; exact hr.cell hu
    have hm' : l.length ≤ 9223372036854775807 := by simp only [maxLen] at h63; omega
    have hr2 := run_append_grow (P := P) w t ty e i z u.eq f.eq hz ⟨b0, 0, none⟩ 0 0 [] (by simp) (by simp) ⟨b, off, none⟩ l.length c (flt enc l) hlen hnews (by omega) (by omega) (growslice_fits (by omega) (by simpa using hbytes))
    have h1' := h1
    rw [hr2] at h1
    simp only [Result.ok.injEq] at h1
    obtain ⟨hv, hw⟩ := h1
    have hk : Kp [] w w' := by rw [← hw]; exact Kp.alloc_drew w _ rfl
    simp only [Nat.zero_add, List.nil_append] at h2
    exact ⟨v', w', h1', h2, hk⟩
/-- '[]T{}': a new slice of none. -/
def gE (m : Nat) (E : TypeId) : GD := ⟨Nat, 0, fun b => .slice (some ⟨b, 0, none⟩) 0 0, fun b w => m ≤ b ∧ Blk w b (.cells #[] E)⟩
theorem gE_stab {m : Nat} {E : TypeId} (x : (gE m E).X) : Stab [] ((gE m E).phi x) := fun w w' hk h => ⟨h.1, Blk.kp0 h.2 hk⟩
theorem run_empty {T E : TypeId} {i : TypeInfo} [u : Ut P T (.slice E)] [f : Inf P E i] : (Instr.buildSlice T 0 #[]).run P w = .ok (.slice (some ⟨w.heap.size, 0, none⟩) 0 0) { w with heap := w.heap.push (.cells #[] E) } := by
  simp [Instr.buildSlice, run_underlying u.eq, sizeOf, typeInfo, f.eq, Instr.fill, newRow, newObj, Sem.run, Result.andThen]
  congr 2
  exact Array.eq_empty_of_size_eq_zero (by simp)
variable {n : Nat} {ops : List Oper} {Q : Exit → Act → World → Prop} {w0 : World} {L : Env} {G : List (Nat × GD)} {K : Env → List Fact → Prop} {Γ : List Fact} {j : Nat} {ord : List Nat} {ty : TypeId} {pos : String} {af : Array Edge} {g : Option (Nat × Bool)}
theorem DerX.empty {m d : Nat} {T E : TypeId} {i : TypeInfo} [u : Ut P T (.slice E)] [f : Inf P E i] (hg : gdLook G j = some (gE m E)) (ho : ops[j]? = some ⟨some d, .buildSlice T 0 #[], ty, pos, af, g⟩) (hw : want ops L ⟨some d, .buildSlice T 0 #[], ty, pos, af, g⟩ = some true) (hm : m ≤ w0.heap.size)
    (h : ∀ b, DerX P w0 ops G K ord ((d, .slice (some ⟨b, 0, none⟩) 0 0) :: L) ((j, fun w => m ≤ b ∧ Blk w b (.cells #[] E)) :: Γ)) : DerX P w0 ops G K (j :: ord) L Γ := by
  refine DerX.eff (gE m E) hg ho hw (by simp [Op.operands]) (fun w h1 h2 => ?_) (fun x => h x)
  unfold OpRun
  have : (execOp (rho L) ⟨some d, .buildSlice T 0 #[], ty, pos, af, g⟩).run P w = .ok (.value (.slice (some ⟨w.heap.size, 0, none⟩) 0 0)) { w with heap := w.heap.push (.cells #[] E) } := by
    simp only [execOp, List.map_toArray, List.map_nil, Sem.run_bind, run_empty (u := u) (f := f), Result.andThen, Sem.run_pure]
  rw [this]
  exact ⟨w.heap.size, rfl, ⟨Nat.le_trans hm h1.size, Blk.push w _⟩, Kp.push w _ rfl⟩
end
end Go.Proofs.YtajllbdeoopimaaGreat
namespace Go.Proofs.YtajllbdeoopimaaGreat
set_option linter.unusedVariables false
section
variable {α : Type} {enc : α → List Value} {sz : Nat} {P : Program}
def RetO (P : Program) (E : TypeId) (enc : α → List Value) (sz : Nat) (f : FuncId) (args : Array Value) (w : World) (l : List α) : Prop := Calls P f args w (fun e w' => ∃ v, e = .returned v ∧ w'.ownsRow w.heap.size E sz v l.length (flt enc l) ∧ Kp [] w w')
theorem own_mono {w : World} {base base' : Nat} {E : TypeId} {v : Value} {n : Nat} {xs : List Value} (h : w.ownsRow base E sz v n xs) (hb : base' ≤ base) : w.ownsRow base' E sz v n xs := by
  obtain ⟨h1, h2⟩ := h
  refine ⟨h1, ?_⟩
  rcases h2 with h2 | ⟨g, cap, cur, h3, h4, h5⟩
  · exact Or.inl h2
  · exact Or.inr ⟨g, cap, cur, h3, Nat.le_trans hb h4, h5⟩
/-- What is promised of a slice that is owned. -/
def gO (m : Nat) (E : TypeId) (enc : α → List Value) (sz : Nat) (l : List α) : GD := ⟨Value, undef, fun v => v, fun v w => w.ownsRow m E sz v l.length (flt enc l)⟩
theorem gO_stab {m : Nat} {E : TypeId} {l : List α} (x : (gO m E enc sz l).X) : Stab [] ((gO m E enc sz l).phi x) := fun w w' hk h => own_kp0 h hk
variable {n : Nat} {ops : List Oper} {Q : Exit → Act → World → Prop} {w0 : World} {L : Env} {G : List (Nat × GD)} {K : Env → List Fact → Prop} {Γ : List Fact} {i : Nat} {ord : List Nat} {ty : TypeId} {pos : String} {af : Array Edge} {g : Option (Nat × Bool)}
theorem DerX.cloneO {m d : Nat} {t e : TypeId} {inf : TypeInfo} [u : Ut P t (.slice e)] [f : Inf P e inf] {z : Value} {s x : Operand} {b0 : Nat} {a : Option Addr} {c : Nat} (l : List α) (hel : ∀ x, (enc x).length = inf.size) (hone : ∀ x, allOne (enc x) = true) (hg : gdLook G i = some (gO m e enc inf.size l))
    (ho : ops[i]? = some ⟨some d, .call { callee := .builtin .append, args := #[s, x], argTypes := #[t, t] }, ty, pos, af, g⟩) (hw : want ops L ⟨some d, .call { callee := .builtin .append, args := #[s, x], argTypes := #[t, t] }, ty, pos, af, g⟩ = some true) (hk : (known L s && known L x) = true)
    (hs : rho L s = .slice (some ⟨b0, 0, none⟩) 0 0) (hx : rho L x = .slice a l.length c) (hz : inf.zero = some z) (hzs : Nat.beq z.cells.size inf.size = true) (hsz : Nat.blt 0 inf.size = true) (h63 : l.length ≤ maxLen) (hbytes : l.length * inf.bytes ≤ 140737488355328)
    (hc : ∀ w, Kp [] w0 w → Facts ops i Γ w → Sl enc inf.size w a l ∧ m ≤ b0 ∧ Blk w b0 (.cells #[] e))
    (h : ∀ v, DerX P w0 ops G K ord ((d, v) :: L) ((i, fun w => w.ownsRow m e inf.size v l.length (flt enc l)) :: Γ)) : DerX P w0 ops G K (i :: ord) L Γ := by
  refine DerX.eff (gO m e enc inf.size l) hg ho hw (by simpa [Op.operands, Call.operands] using hk) (fun w h1 h2 => ?_) h
  obtain ⟨g1, g2, g3⟩ := hc w h1 h2
  obtain ⟨v', w', e1, e2, e3⟩ := run_cloneO (P := P) (ty := ty) (c := c) (u := u) (f := f) hz (Nat.eq_of_beq_eq_true hzs) (by simpa [Nat.blt_eq] using hsz) hel hone g1 g3 g2 h63 hbytes
  unfold OpRun
  have : (execOp (rho L) ⟨some d, .call { callee := .builtin .append, args := #[s, x], argTypes := #[t, t] }, ty, pos, af, g⟩).run P w = .ok (.value v') w' := by
    simp only [execOp, resolve, invoke, builtin, Sem.run_bind, Sem.run_pure, Result.andThen_ok, List.map_toArray, List.map_cons, List.map_nil, hs, hx, e1]
  rw [this]
  exact ⟨v', rfl, e2, e3⟩
end
end Go.Proofs.YtajllbdeoopimaaGreat
namespace Go.Proofs.YtajllbdeoopimaaGreat
set_option linter.unusedVariables false
section
variable {P : Program} {L : Env} {ty : TypeId} {pos : String} {af : Array Edge} {g : Option (Nat × Bool)} {S : List Nat} {w0 : World} {ops : List Oper} {gh : List Nat} {K : Env → (World → Prop) → (World → Prop) → Prop} {i : Nat} {ord : List Nat} {F R : World → Prop}
/-- a call whose answer is told by facts that stay, beside the resource -/
theorem Der.callGR {X : Type} {d : Nat} {f : FuncId} [Fnc P f] {args : List Operand} {vs : List Value} {tys : Array TypeId} (val : X → Value) (F' R' : X → World → Prop)
    (ho : ops[i]? = some ⟨some d, .call ⟨.value (.func f), args.toArray, tys⟩, ty, pos, af, g⟩) (hw : want ops L ⟨some d, .call ⟨.value (.func f), args.toArray, tys⟩, ty, pos, af, g⟩ = some true) (hg : gh.elem i = true) (hk : (Op.call ⟨.value (.func f), args.toArray, tys⟩).operands.toList.all (known L) = true)
    (he : Evs L args vs) (hF : ∀ x, Stab S (F' x)) (hR : ∀ x, Stab [] (R' x)) (hFs : Stab S F) (hc : ∀ w, Kp S w0 w → F w → R w → Calls P f vs.toArray w (fun e w' => ∃ x, e = .returned (val x) ∧ F' x w' ∧ R' x w' ∧ Kp S w w'))
    (hd : ∀ x, Der P S w0 ops gh K ord ((d, val x) :: L) (fun w => F w ∧ F' x w) (R' x)) : Der P S w0 ops gh K (i :: ord) L F R :=
  Der.ghost val F' R' ho hw hg hk hF hR hFs (fun w h1 h2 h3 => orun_call (by rw [he.arr]; exact (hc w h1 h2 h3).mono (fun e w' ⟨x, g1, g2, g3, g4⟩ => ⟨val x, g1, x, rfl, g2, g3, g4⟩))) hd
end
end Go.Proofs.YtajllbdeoopimaaGreat
namespace Go.Proofs.YtajllbdeoopimaaGreat
set_option linter.unusedVariables false
/-- An int that Go can have. -/
abbrev I64 := { z : Int // -9223372036854775808 ≤ z ∧ z ≤ 9223372036854775807 }
@[reducible] def iv (z : I64) : Value := .int .i64 z.1
theorem iv_inj {a b : I64} (h : iv a = iv b) : a = b := by
  apply Subtype.ext
  simpa using h
theorem wf_i64 (z : I64) : (Lit.int .i64 z.1).wf = true := by
  have := z.2
  simp [Lit.wf, IntKind.min, IntKind.max, IntKind.signed, IntKind.bits]
  omega
theorem i64_key {P : Program} {k : TypeId} (hu : P.underlying k = some (.int .i64)) : KeyEnc P k iv :=
  ⟨Maps.int_keyed hu, fun z => ⟨.int .i64 z.1, by simp [keyOf, hu, mapKey, wf_i64]⟩, fun a b h => iv_inj h⟩
instance {P : Program} {k : TypeId} [u : Ut P k (.int .i64)] : Kenc P k iv := ⟨i64_key u.eq⟩
section
variable {κ ν : Type} {enc : κ → Value} {V : ν → Value} {m : List (κ × ν)} {w w' : World} {b : Nat} {P : Program} {k T E : TypeId}
theorem run_delete [DecidableEq κ] [u : Ut P T (.map k E)] (h : MapIs w b enc V m) (K : KeyEnc P k enc) (x : κ) (ty : TypeId) :
    ∃ o', (Builtin.delete_ #[T, k] ty #[.map (some b), enc x]).run P w = .ok (.tuple #[]) { w with heap := w.heap.setIfInBounds b o' } ∧ MapIs { w with heap := w.heap.setIfInBounds b o' } b enc V (m.filter (fun p => decide (p.1 ≠ x))) ∧ Kp [b] w { w with heap := w.heap.setIfInBounds b o' } := by
  obtain ⟨es, c, hb, hst, hm, hks⟩ := h.keys K
  obtain ⟨l, hl⟩ := K.key x
  have hb' : w.heap[b]? = some (.map es c) := hb
  have hkeys : es.toList.map (·.key) = m.map (fun p => enc p.1) := by
    have := congrArg (List.map Prod.fst) hm
    simpa [Function.comp_def] using this
  rcases K.law.find w hl es.toList hks with ⟨h1, h2⟩ | ⟨j, e0, h1, h2, h3⟩
  · refine ⟨.map es c, ?_, ⟨es, c, hb.set _, hst, ?_⟩, Kp.set w hb rfl rfl⟩
    · simp [Builtin.delete_, run_underlying u.eq, MapKept.run_getObj_map hb', K.law.check w _ hl, h1, MapKept.run_setObj_map _ hb', Result.andThen]
    · rw [List.filter_eq_self.2]
      · exact hm
      · intro p hp
        simp only [decide_eq_true_eq]
        intro e
        have : enc p.1 ∈ es.toList.map (·.key) := by rw [hkeys]; exact List.mem_map.2 ⟨p, hp, rfl⟩
        obtain ⟨q, hq, hqe⟩ := List.mem_map.1 this
        exact h2 q hq (by rw [hqe, e])
  · have hj : j < es.toList.length := (List.getElem?_eq_some_iff.1 h2).1
    have hs := (MapKept.stamped_iff es c).1 hst
    have hml : m.length = es.toList.length := by
      have := congrArg List.length hm
      simpa using this.symm
    have hjm : j < m.length := by omega
    have hmj : enc m[j].1 = enc x := by
      have := congrArg (fun l => l[j]?) hkeys
      simp only [List.getElem?_map, h2, Option.map_some, List.getElem?_eq_getElem hjm, Option.some.injEq] at this
      rw [← this, h3]
    have hmx : m[j].1 = x := K.inj _ _ hmj
    have herase : m.filter (fun p => decide (p.1 ≠ x)) = m.eraseIdx j := by
      have hnd := h.nodup
      have hsplit : m = m.take j ++ (m[j] :: m.drop (j + 1)) := by rw [← List.drop_eq_getElem_cons hjm, List.take_append_drop]
      rw [List.eraseIdx_eq_take_drop_succ]
      conv => lhs; rw [hsplit]
      rw [hsplit, List.map_append, List.map_cons] at hnd
      have hd := List.nodup_append.1 hnd
      have hc := List.nodup_cons.1 hd.2.1
      rw [List.filter_append, List.filter_cons]
      rw [if_neg (by simp [hmx])]
      congr 1
      · rw [List.filter_eq_self]
        intro p hp
        simp only [decide_eq_true_eq]
        intro e
        exact hd.2.2 p.1 (List.mem_map.2 ⟨p, hp, rfl⟩) m[j].1 (by simp) (by rw [e, hmx])
      · rw [List.filter_eq_self]
        intro p hp
        simp only [decide_eq_true_eq]
        intro e
        exact hc.1 (by rw [hmx, ← e]; exact List.mem_map.2 ⟨p, hp, rfl⟩)
    refine ⟨.map (es.eraseIdxIfInBounds j) c, ?_, ⟨es.eraseIdxIfInBounds j, c, hb.set _, ?_, ?_⟩, Kp.set w hb rfl rfl⟩
    · simp [Builtin.delete_, run_underlying u.eq, MapKept.run_getObj_map hb', K.law.check w _ hl, h1, MapKept.run_setObj_map _ hb', Result.andThen]
    · rw [MapKept.stamped_iff]
      have hsub : (es.eraseIdxIfInBounds j).toList.Sublist es.toList := by
        simp only [Array.toList_eraseIdxIfInBounds]
        exact List.eraseIdx_sublist _ _
      exact ⟨fun x hx => hs.1 x (hsub.subset hx), hs.2.1.sublist (hsub.map _), hs.2.2.sublist hsub⟩
    · rw [herase, Array.toList_eraseIdxIfInBounds, ChangeMaps.map_eraseIdx, hm, ← ChangeMaps.map_eraseIdx]
end
section
variable {P : Program} {n : Nat} {Q : Exit → Act → World → Prop} {L : Env} {w : World} {ops : List Oper} {rest : List Oper} {ty : TypeId} {pos : String} {af : Array Edge} {g : Option (Nat × Bool)}
theorem SG.delete {κ ν : Type} [DecidableEq κ] {enc : κ → Value} {V : ν → Value} {m : List (κ × ν)} {b : Nat} {k T E : TypeId} [u : Ut P T (.map k E)] [K : Kenc P k enc] {a x : Operand} {kx : κ}
    (hw : want ops L ⟨none, .call { callee := .builtin .delete, args := #[a, x], argTypes := #[T, k] }, ty, pos, af, g⟩ = some true) (hk : (known L a && known L x) = true) (ha : rho L a = .map (some b)) (hx : rho L x = enc kx) (hm : MapIs w b enc V m)
    (h : ∀ w', Kp [b] w w' → MapIs w' b enc V (m.filter (fun p => decide (p.1 ≠ kx))) → SG P n ops Q rest L w') : SG P n ops Q (⟨none, .call { callee := .builtin .delete, args := #[a, x], argTypes := #[T, k] }, ty, pos, af, g⟩ :: rest) L w := by
  refine SG.op rfl rfl hw (by simpa [Op.operands, Call.operands] using hk) ?_
  unfold OpRun
  obtain ⟨o', h1, h2, h3⟩ := run_delete (P := P) (u := u) hm K.key kx ty
  have : (execOp (rho L) ⟨none, .call { callee := .builtin .delete, args := #[a, x], argTypes := #[T, k] }, ty, pos, af, g⟩).run P w = .ok (.value (.tuple #[])) { w with heap := w.heap.setIfInBounds b o' } := by
    simp only [execOp, resolve, invoke, builtin, Sem.run_bind, Sem.run_pure, Result.andThen_ok, List.map_toArray, List.map_cons, List.map_nil, ha, hx, h1]
  rw [this]
  exact h _ h3 h2
theorem equal_slnil {T E : TypeId} [u : Ut P T (.slice E)] {a : Option Addr} {m c : Nat} : (Op.equal T (.slice a m c) (.slice none 0 0)).run P w = .ok a.isNone w := equal_of (fun d => by
  cases a <;> simp only [Op.equalIn, Sem.run_bind, run_underlying u.eq, Result.andThen, Sem.run_pure, Option.isNone])
theorem qsn {S : List Nat} {w0 : World} {F : World → Prop} {d : Option Nat} {T T' E : TypeId} [u : Ut P T (.slice E)] {x : Operand} {a : Option Addr} {m c : Nat} (hx : ro L x = some (.slice a m c)) : Vals P S w0 F L ⟨d, .binOp .eql T x (.const (.slice none 0 0)) T', ty, pos, af, g⟩ (.bool a.isNone) := fun w _ _ => by
  have hc : rho L (.const (.slice none 0 0)) = .slice none 0 0 := rfl
  simp [execOp, rho_of hx, hc, eqGuard, binOp, equal_slnil (u := u)]
/-- 'append([]T{}, s...)', in text order: the slice is owned. -/
theorem SG.cloneO {α : Type} {enc : α → List Value} {m d : Nat} {t e : TypeId} {inf : TypeInfo} [u : Ut P t (.slice e)] [f : Inf P e inf] {z : Value} {s x : Operand} {b0 : Nat} {a : Option Addr} {c : Nat} {l : List α} (hd : Nat.blt d n = true)
    (hw : want ops L ⟨some d, .call { callee := .builtin .append, args := #[s, x], argTypes := #[t, t] }, ty, pos, af, g⟩ = some true) (hk : (known L s && known L x) = true) (hel : ∀ x, (enc x).length = inf.size) (hone : ∀ x, allOne (enc x) = true)
    (hs : rho L s = .slice (some ⟨b0, 0, none⟩) 0 0) (hx : rho L x = .slice a l.length c) (hz : inf.zero = some z) (hzs : Nat.beq z.cells.size inf.size = true) (hsz : Nat.blt 0 inf.size = true) (h63 : l.length ≤ maxLen) (hbytes : l.length * inf.bytes ≤ 140737488355328) (hm : m ≤ b0)
    (hc : Sl enc inf.size w a l) (hb0 : Blk w b0 (.cells #[] e))
    (h : ∀ v w', Kp [] w w' → w'.ownsRow m e inf.size v l.length (flt enc l) → SG P n ops Q rest ((d, v) :: L) w') : SG P n ops Q (⟨some d, .call { callee := .builtin .append, args := #[s, x], argTypes := #[t, t] }, ty, pos, af, g⟩ :: rest) L w := by
  refine SG.op (by simpa using hd) rfl hw (by simpa [Op.operands, Call.operands] using hk) ?_
  obtain ⟨v', w', e1, e2, e3⟩ := run_cloneO (P := P) (ty := ty) (c := c) (u := u) (f := f) hz (Nat.eq_of_beq_eq_true hzs) (by simpa [Nat.blt_eq] using hsz) hel hone hc hb0 hm h63 hbytes
  unfold OpRun
  have : (execOp (rho L) ⟨some d, .call { callee := .builtin .append, args := #[s, x], argTypes := #[t, t] }, ty, pos, af, g⟩).run P w = .ok (.value v') w' := by
    simp only [execOp, resolve, invoke, builtin, Sem.run_bind, Sem.run_pure, Result.andThen_ok, List.map_toArray, List.map_cons, List.map_nil, hs, hx, e1]
  rw [this]
  exact h v' w' e3 e2
theorem SG.empty {d : Nat} {T E : TypeId} {i : TypeInfo} [u : Ut P T (.slice E)] [f : Inf P E i] (hd : Nat.blt d n = true) (hw : want ops L ⟨some d, .buildSlice T 0 #[], ty, pos, af, g⟩ = some true)
    (h : ∀ b w', Kp [] w w' → w.heap.size ≤ b → Blk w' b (.cells #[] E) → SG P n ops Q rest ((d, .slice (some ⟨b, 0, none⟩) 0 0) :: L) w') : SG P n ops Q (⟨some d, .buildSlice T 0 #[], ty, pos, af, g⟩ :: rest) L w := by
  refine SG.op (by simpa using hd) rfl hw (by simp [Op.operands]) ?_
  unfold OpRun
  have : (execOp (rho L) ⟨some d, .buildSlice T 0 #[], ty, pos, af, g⟩).run P w = .ok (.value (.slice (some ⟨w.heap.size, 0, none⟩) 0 0)) { w with heap := w.heap.push (.cells #[] E) } := by
    simp only [execOp, List.map_toArray, List.map_nil, Sem.run_bind, run_empty (u := u) (f := f), Result.andThen, Sem.run_pure]
  rw [this]
  exact h _ _ (Kp.push w _ rfl) (Nat.le_refl _) (Blk.push w _)
end
end Go.Proofs.YtajllbdeoopimaaGreat
namespace Go.Proofs.YtajllbdeoopimaaGreat
set_option linter.unusedVariables false
section
variable {P : Program} {w w' : World}
/-- The row lies where it lay, or in a new block. -/
theorem append_where {base : Nat} {t ty e : TypeId} {i : TypeInfo} [u : Ut P t (.slice e)] [f : Inf P e i] {z : Value} (hz : i.zero = some z)
    {v v' : Value} {n : Nat} {xs : List Value} (hown : w.ownsRow base e i.size v n xs) {b off m c : Nat} {news : List Value} (hl : news.length = m * i.size) (hr : Row w b off news) (h1 : allOne news = true)
    (h63 : n + m ≤ maxLen) (hbytes : (n + m) * i.bytes ≤ 140737488355328) (hrun : (Builtin.append_ #[t, t] ty #[v, .slice (some ⟨b, off, none⟩) m c]).run P w = .ok v' w') :
    ∀ g, v'.ownBlock = some g → v.ownBlock = some g ∨ g = w.heap.size := by
  have hnews : ∀ j u, news[j]? = some u → w.cell? ((⟨b, off, none⟩ : Addr).add j) = some u := fun j u hu => by rw [add_none]; exact hr.cell hu
  have h1' : ∀ u ∈ news, u.oneCell' = true := fun u hu => by rw [one_iff]; exact List.all_eq_true.1 h1 u hu
  have hsmall : n + m ≤ 9223372036854775807 := by simp only [maxLen] at h63; omega
  rcases hown.2 with ⟨rfl, rfl⟩ | ⟨g, cap, cur, rfl, hbg, hg, hnc, hcm, hcs, htake⟩
  · by_cases hm : m = 0
    · subst hm
      have hn : news = [] := List.eq_nil_of_length_eq_zero (by simpa using hl)
      subst hn
      have : (Builtin.append_ #[t, t] ty #[.slice none 0 0, .slice (some ⟨b, off, none⟩) 0 c]).run P w = .ok (.slice none 0 0) w := by
        simp [Builtin.append_, run_underlying u.eq, sizeOf, typeInfo, f.eq, Builtin.lenOf, Builtin.firstCells, loadCells, loadCellsFrom]
      rw [this] at hrun
      cases hrun
      intro g hg
      exact Or.inl hg
    · have hr2 := run_append_nil (P := P) w t ty e i z u.eq f.eq hz ⟨b, off, none⟩ m c news hl hnews (by omega) (by omega) (by have hb := hbytes; simp only [Nat.zero_add] at hb; omega)
      rw [hr2] at hrun
      cases hrun
      intro g hg
      simp only [Value.ownBlock, Option.some.injEq] at hg
      exact Or.inr hg.symm
  · by_cases hroom : n + m ≤ cap
    · have hfit : n * i.size + news.length ≤ cur.size := by rw [hl, hcs, ← Nat.add_mul]; exact Nat.mul_le_mul_right _ hroom
      have hr2 := run_append_room (P := P) w t ty e i u.eq f.eq g n cap cur hg ⟨b, off, none⟩ m c news hl hnews h1' hroom hfit
      rw [hr2] at hrun
      cases hrun
      intro g' hg'
      exact Or.inl hg'
    · have holds : ∀ j u, xs[j]? = some u → w.cell? ((⟨g, 0, none⟩ : Addr).add j) = some u := hown.cells (g := g) rfl
      have hr2 := run_append_grow (P := P) w t ty e i z u.eq f.eq hz ⟨g, 0, none⟩ n cap xs hown.1 holds ⟨b, off, none⟩ m c news hl hnews (by omega) (by omega) (growslice_fits (by omega) hbytes)
      rw [hr2] at hrun
      cases hrun
      intro g' hg'
      simp only [Value.ownBlock, Option.some.injEq] at hg'
      exact Or.inr hg'.symm
variable {L : Env} {ty : TypeId} {pos : String} {af : Array Edge} {g : Option (Nat × Bool)} {S : List Nat} {w0 : World} {ops : List Oper} {gh : List Nat} {K : Env → (World → Prop) → (World → Prop) → Prop} {j : Nat} {ord : List Nat} {F : World → Prop}
end
end Go.Proofs.YtajllbdeoopimaaGreat
namespace Go.Proofs.YtajllbdeoopimaaGreat
set_option linter.unusedVariables false
section
variable {P : Program} {S : List Nat} {w0 : World} {F : World → Prop} {L : Env} {d : Option Nat} {ty : TypeId} {pos : String} {af : Array Edge} {g : Option (Nat × Bool)}
theorem vals_ia {T E : TypeId} {n : Nat} [u : Ut P T (.array n E)] {sz : Nat} [f : Sz P E sz] {x y : Operand} {b off : Nat} {k : IntKind} {j : Nat} (hx : rho L x = .pointer (some ⟨b, off, none⟩)) (hy : rho L y = .int k (j : Int)) (h1 : j < n) :
    Vals P S w0 F L ⟨d, .indexAddr T x y, ty, pos, af, g⟩ (.pointer (some ⟨b, off + j * sz, none⟩)) := fun w _ _ => by
  obtain ⟨i, h2, h3⟩ := f.eq
  have h4 : (j : Int) < n := by omega
  subst h3
  simp [execOp, hx, hy, Instr.indexAt, asIntOf, run_underlying u.eq, sizeOf, typeInfo, Instr.sureAddr, h2, h1, add_none]
theorem qia {T E : TypeId} {n : Nat} [u : Ut P T (.array n E)] {sz : Nat} [f : Sz P E sz] {x y : Operand} {b off : Nat} {k : IntKind} {z : Int} {j : Nat} (hx : ro L x = some (.pointer (some ⟨b, off, none⟩))) (hy : ro L y = some (.int k z)) (hz : z = (j : Int)) (h1 : Ar (j < n)) :
    Vals P S w0 F L ⟨d, .indexAddr T x y, ty, pos, af, g⟩ (.pointer (some ⟨b, off + j * sz, none⟩)) := vals_ia (u := u) (f := f) (rho_of hx) (by rw [rho_of hy, hz]) h1.h
end
end Go.Proofs.YtajllbdeoopimaaGreat
namespace Go.Proofs.YtajllbdeoopimaaGreat
set_option linter.unusedVariables false
theorem ownB_mem {v : Value} {z : Nat} (hz : z ∈ ownB v) : v.ownBlock = some z := by
  unfold ownB at hz
  split at hz
  · rename_i b hb
    rw [List.mem_singleton] at hz
    rw [hb, hz]
  · cases hz
end Go.Proofs.YtajllbdeoopimaaGreat
namespace Go.Proofs.YtajllbdeoopimaaGreat
set_option linter.unusedVariables false
abbrev Dg := BA 8
def zd : Dg := ⟨[0, 0, 0, 0, 0, 0, 0, 0], rfl⟩
/-- What is held. -/
structure Hd where
  name : Dg
  amt : Int
  side : Int
  til : Int
structure Pu where
  name : Dg
  num : Int
  h0 : Int
  h1 : Int
  held : List Hd
def hc (h : Hd) : List Value := dc h.name ++ [.int .i64 h.amt, .int .i64 h.side, .int .i64 h.til]
theorem hc_length (h : Hd) : (hc h).length = 11 := by simp [hc, dc_length]
theorem hc_one (h : Hd) : allOne (hc h) = true := by simp [hc, allOne, dc, oneB]
def hv (h : Hd) : Value := .agg (hc h).toArray
/-- A purse's cells; s: what is held. -/
def pc (p : Pu) (s : Value) : List Value := dc p.name ++ [.int .i64 p.num, .int .i64 p.h0, .int .i64 p.h1, s]
theorem pc_length (p : Pu) (s : Value) : (pc p s).length = 12 := by simp [pc, dc_length]
theorem pc_one (p : Pu) (a : Option Addr) (n c : Nat) : allOne (pc p (.slice a n c)) = true := by simp [pc, allOne, dc, oneB]
def pv (p : Pu) (s : Value) : Value := .agg (pc p s).toArray
def farP (n : Int) : Prop := 0 ≤ n ∧ n ≤ 1099511627776
instance (n : Int) : Decidable (farP n) := by unfold farP; infer_instance
def amtP (n : Int) : Prop := 0 ≤ n ∧ n ≤ 1125899906842624
instance (n : Int) : Decidable (amtP n) := by unfold amtP; infer_instance
structure Hd.Ok (h : Hd) : Prop where
  a0 : 0 < h.amt
  a1 : h.amt ≤ 1125899906842624
  s0 : 0 ≤ h.side
  s1 : h.side ≤ 1
  t0 : 0 ≤ h.til
  t1 : h.til ≤ 1099511627776
theorem hok (h : Hd) : h.Ok ↔ (0 < h.amt ∧ h.amt ≤ 1125899906842624 ∧ 0 ≤ h.side ∧ h.side ≤ 1 ∧ 0 ≤ h.til ∧ h.til ≤ 1099511627776) :=
  ⟨fun ⟨a, b, c, d, e, f⟩ => ⟨a, b, c, d, e, f⟩, fun ⟨a, b, c, d, e, f⟩ => ⟨a, b, c, d, e, f⟩⟩
instance (h : Hd) : Decidable h.Ok := decidable_of_iff _ (hok h).symm
def sumH (l : List Hd) : Int := l.foldl (fun s h => s + h.amt) 0
def sumP (p : Pu) : Int := p.h0 + p.h1 + sumH p.held
/-- What is wrong with what is held, behind some. -/
def chkL : List Hd → List Hd → Int
  | _, [] => 0
  | seen, h :: r => if ¬ h.Ok then 2 else if seen.any (fun o => decide (o.name = h.name)) then 7 else chkL (seen ++ [h]) r
def checkZ (p : Pu) : Int := if ¬ (farP p.num ∧ amtP p.h0 ∧ amtP p.h1) then 2 else if 16 < p.held.length then 8 else if chkL [] p.held = 0 then (if amtP (sumP p) then 0 else 2) else chkL [] p.held
def zPu : Pu := ⟨zd, 0, 0, 0, []⟩
def placeN (l : List Hd) (n : Dg) : Nat := l.findIdx (fun h => decide (h.name = n))
def haveP (p : Pu) (s : Int) : Int := if s = 0 then p.h0 else p.h1
/-- So much more for a side. -/
def addP (p : Pu) (s d : Int) : Pu := if s = 0 then { p with h0 := p.h0 + d } else { p with h1 := p.h1 + d }
/-- The number behind. -/
def nextP (p : Pu) : Pu := { p with num := p.num + 1 }
/-- What may be done with a purse at all. -/
def preZ (p : Pu) : Int := if checkZ p ≠ 0 then 3 else if p.num = 1099511627776 then 17 else 0
def holdZ (p : Pu) (h : Hd) : Int := if preZ p ≠ 0 then preZ p else if h.side < 0 ∨ 1 < h.side then 28 else if ¬ (0 < h.amt ∧ h.amt ≤ 1125899906842624 ∧ farP h.til) then 2 else if placeN p.held h.name < p.held.length then 7 else if 16 ≤ p.held.length then 8 else if haveP p h.side < h.amt then 21 else 0
def holdP (p : Pu) (h : Hd) : Pu := nextP { addP p h.side (-h.amt) with held := p.held ++ [h] }
/-- What is held without one. -/
def cutL (l : List Hd) (k : Nat) : List Hd := l.take k ++ l.drop (k + 1)
/-- What was held is parted: so much over to the other side. -/
def partP (p : Pu) (k : Nat) (h : Hd) (over : Int) : Pu := { addP (addP p (1 - h.side) over) h.side (h.amt - over) with held := cutL p.held k }
end Go.Proofs.YtajllbdeoopimaaGreat
namespace Go.Proofs.YtajllbdeoopimaaGreat
set_option linter.unusedVariables false
theorem pc_rows {w : World} {b : Nat} {T : TypeId} {p : Pu} {s : Value} (h : Blk w b (.cells (pc p s).toArray T)) : Row w b 0 (dc p.name) ∧ Row w b 8 [.int .i64 p.num] ∧ Row w b 9 [.int .i64 p.h0] ∧ Row w b 10 [.int .i64 p.h1] ∧ Row w b 11 [s] ∧ Row w b 0 (pc p s) := by
  have l8 : (dc p.name).length = 8 := dc_length _
  refine ⟨?_, ?_, ?_, ?_, ?_, Row.all h rfl⟩
  · exact Row.of h [] [.int .i64 p.num, .int .i64 p.h0, .int .i64 p.h1, s] (by simp [pc]) rfl
  · exact Row.of h (dc p.name) [.int .i64 p.h0, .int .i64 p.h1, s] (by simp [pc]) l8
  · exact Row.of h (dc p.name ++ [.int .i64 p.num]) [.int .i64 p.h1, s] (by simp [pc]) (by simp [l8])
  · exact Row.of h (dc p.name ++ [.int .i64 p.num, .int .i64 p.h0]) [s] (by simp [pc]) (by simp [l8])
  · exact Row.of h (dc p.name ++ [.int .i64 p.num, .int .i64 p.h0, .int .i64 p.h1]) [] (by simp [pc]) (by simp [l8])
theorem hc_rows {w : World} {b : Nat} {T : TypeId} {h : Hd} (hB : Blk w b (.cells (hc h).toArray T)) : Row w b 0 (dc h.name) ∧ Row w b 8 [.int .i64 h.amt] ∧ Row w b 9 [.int .i64 h.side] ∧ Row w b 10 [.int .i64 h.til] ∧ Row w b 0 (hc h) := by
  have l8 : (dc h.name).length = 8 := dc_length _
  refine ⟨?_, ?_, ?_, ?_, Row.all hB rfl⟩
  · exact Row.of hB [] [.int .i64 h.amt, .int .i64 h.side, .int .i64 h.til] (by simp [hc]) rfl
  · exact Row.of hB (dc h.name) [.int .i64 h.side, .int .i64 h.til] (by simp [hc]) l8
  · exact Row.of hB (dc h.name ++ [.int .i64 h.amt]) [.int .i64 h.til] (by simp [hc]) (by simp [l8])
  · exact Row.of hB (dc h.name ++ [.int .i64 h.amt, .int .i64 h.side]) [] (by simp [hc]) (by simp [l8])
theorem qia0 {P : Program} {S : List Nat} {w0 : World} {F : World → Prop} {L : Env} {d : Option Nat} {ty : TypeId} {pos : String} {af : Array Edge} {g : Option (Nat × Bool)} {T E : TypeId} {n : Nat} [u : Ut P T (.array n E)] {sz : Nat} [f : Sz P E sz] {x : Operand} {b off : Nat} {k : IntKind} {z : Int} (hx : ro L x = some (.pointer (some ⟨b, off, none⟩))) (h1 : Ar (0 ≤ z ∧ z < n)) :
    Vals P S w0 F L ⟨d, .indexAddr T x (.const (.int k z)), ty, pos, af, g⟩ (.pointer (some ⟨b, off + z.toNat * sz, none⟩)) :=
  vals_ia (u := u) (f := f) (k := k) (j := z.toNat) (rho_of hx) (by show Value.int k z = _; rw [Int.toNat_of_nonneg h1.h.1]) (by have := h1.h; omega)
attribute [local irreducible] CG NG SG Vals Der Row Blk MapIs IterAt
set_option maxHeartbeats 8000000 in
theorem far_spec (n : Int) (w : World) : Ret Tryz.prog 50 #[.int .i64 n] w (.bool (decide (farP n))) := by
  refine enter1 Tryz.func50 rfl Tryz.ntmps50 rfl ?_
  by_cases g1 : 0 ≤ n
  · by_cases g2 : n ≤ 1099511627776
    · rw [decide_eq_true (show farP n from ⟨g1, g2⟩)]
      repeat (first|apply cA|apply cB|apply cD|apply cE|apply cH|refine cV rfl rfl rfl rfl (by first|((first|apply qmv|apply qas|apply qpk|apply qle|apply qge)<;>(first|exact rfl|exact dct (by first|assumption|omega)|fail))|fail) ?_)
      refine ret1 (Or.inl rfl) Tryz.results50 (by first | exact ResV.tmp rfl | exact ResV.agg rfl rfl (by assumption) (by first | exact dc_length _ | exact nc_length _ | exact rc_length _ _ _ | exact ec_length _ | exact dl_length _ _ _ _ | rfl) | exact ResV.cell rfl rfl (by assumption)) ?_
      exact ⟨rfl, Kp.refl _ _⟩
    · rw [decide_eq_false (show ¬ farP n from fun h => g2 h.2)]
      repeat (first|apply cA|apply cB|apply cD|apply cE|apply cH|refine cV rfl rfl rfl rfl (by first|((first|apply qmv|apply qas|apply qpk|apply qle|apply qge)<;>(first|exact rfl|exact dct (by first|assumption|omega)|exact dcf (by first|assumption|omega)|fail))|fail) ?_)
      refine ret1 (Or.inl rfl) Tryz.results50 (by first | exact ResV.tmp rfl | exact ResV.agg rfl rfl (by assumption) (by first | exact dc_length _ | exact nc_length _ | exact rc_length _ _ _ | exact ec_length _ | exact dl_length _ _ _ _ | rfl) | exact ResV.cell rfl rfl (by assumption)) ?_
      exact ⟨rfl, Kp.refl _ _⟩
  · rw [decide_eq_false (show ¬ farP n from fun h => g1 h.1)]
    repeat (first | first|apply cA|apply cB|apply cD|apply cE|apply cH|refine cV rfl rfl rfl rfl (by first|((first|apply qmv|apply qas|apply qpk|apply qge)<;>(first|exact rfl|exact dcf (by first|assumption|omega)|fail))|fail) ?_ | refine cX rfl rfl ?_)
    refine ret1 (Or.inl rfl) Tryz.results50 (by first | exact ResV.tmp rfl | exact ResV.agg rfl rfl (by assumption) (by first | exact dc_length _ | exact nc_length _ | exact rc_length _ _ _ | exact ec_length _ | exact dl_length _ _ _ _ | rfl) | exact ResV.cell rfl rfl (by assumption)) ?_
    exact ⟨rfl, Kp.refl _ _⟩
set_option maxHeartbeats 8000000 in
theorem right_spec (n : Int) (w : World) : Ret Tryz.prog 51 #[.int .i64 n] w (.bool (decide (amtP n))) := by
  refine enter1 Tryz.func51 rfl Tryz.ntmps51 rfl ?_
  by_cases g1 : 0 ≤ n
  · by_cases g2 : n ≤ 1125899906842624
    · rw [decide_eq_true (show amtP n from ⟨g1, g2⟩)]
      repeat (first|apply cA|apply cB|apply cD|apply cE|apply cH|refine cV rfl rfl rfl rfl (by first|((first|apply qmv|apply qas|apply qpk|apply qle|apply qge)<;>(first|exact rfl|exact dct (by first|assumption|omega)|fail))|fail) ?_)
      refine ret1 (Or.inl rfl) Tryz.results51 (by first | exact ResV.tmp rfl | exact ResV.agg rfl rfl (by assumption) (by first | exact dc_length _ | exact nc_length _ | exact rc_length _ _ _ | exact ec_length _ | exact dl_length _ _ _ _ | rfl) | exact ResV.cell rfl rfl (by assumption)) ?_
      exact ⟨rfl, Kp.refl _ _⟩
    · rw [decide_eq_false (show ¬ amtP n from fun h => g2 h.2)]
      repeat (first|apply cA|apply cB|apply cD|apply cE|apply cH|refine cV rfl rfl rfl rfl (by first|((first|apply qmv|apply qas|apply qpk|apply qle|apply qge)<;>(first|exact rfl|exact dct (by first|assumption|omega)|exact dcf (by first|assumption|omega)|fail))|fail) ?_)
      refine ret1 (Or.inl rfl) Tryz.results51 (by first | exact ResV.tmp rfl | exact ResV.agg rfl rfl (by assumption) (by first | exact dc_length _ | exact nc_length _ | exact rc_length _ _ _ | exact ec_length _ | exact dl_length _ _ _ _ | rfl) | exact ResV.cell rfl rfl (by assumption)) ?_
      exact ⟨rfl, Kp.refl _ _⟩
  · rw [decide_eq_false (show ¬ amtP n from fun h => g1 h.1)]
    repeat (first | first|apply cA|apply cB|apply cD|apply cE|apply cH|refine cV rfl rfl rfl rfl (by first|((first|apply qmv|apply qas|apply qpk|apply qge)<;>(first|exact rfl|exact dcf (by first|assumption|omega)|fail))|fail) ?_ | refine cX rfl rfl ?_)
    refine ret1 (Or.inl rfl) Tryz.results51 (by first | exact ResV.tmp rfl | exact ResV.agg rfl rfl (by assumption) (by first | exact dc_length _ | exact nc_length _ | exact rc_length _ _ _ | exact ec_length _ | exact dl_length _ _ _ _ | rfl) | exact ResV.cell rfl rfl (by assumption)) ?_
    exact ⟨rfl, Kp.refl _ _⟩
def someP (n : Int) : Prop := 0 < n ∧ amtP n
instance (n : Int) : Decidable (someP n) := by unfold someP; infer_instance
set_option maxHeartbeats 8000000 in
theorem some_spec (n : Int) (w : World) : Ret Tryz.prog 52 #[.int .i64 n] w (.bool (decide (someP n))) := by
  refine enter1 Tryz.func52 rfl Tryz.ntmps52 rfl ?_
  by_cases g1 : 0 < n
  · rw [show decide (someP n) = decide (amtP n) from decide_eq_decide.2 ⟨fun h => h.2, fun h => ⟨g1, h⟩⟩]
    repeat (first|apply cA|apply cB|apply cD|apply cE|refine cV rfl rfl rfl rfl (by first|((first|apply qmv|apply qas|apply qgt)<;>(first|exact rfl|exact dct (by first|assumption|omega)|fail))|fail) ?_)
    refine SG.ret rfl rfl rfl (vs := [.int .i64 n]) (by repeat' (first | exact True.intro | exact rho_of rfl | refine And.intro ?_ ?_)) (right_spec n w) (fun w1 hk1 => ?_)
    repeat (first|apply cD|apply cE|apply cH|refine cV rfl rfl rfl rfl (by first|((first|apply qas|apply qpk)<;>(exact rfl))|fail) ?_)
    refine ret1 (Or.inl rfl) Tryz.results52 (by first | exact ResV.tmp rfl | exact ResV.agg rfl rfl (by assumption) (by first | exact dc_length _ | exact nc_length _ | exact rc_length _ _ _ | exact ec_length _ | exact dl_length _ _ _ _ | rfl) | exact ResV.cell rfl rfl (by assumption)) ?_
    exact ⟨rfl, hk1⟩
  · rw [decide_eq_false (show ¬ someP n from fun h => g1 h.1)]
    repeat (first | first|apply cA|apply cB|apply cD|apply cE|apply cH|refine cV rfl rfl rfl rfl (by first|((first|apply qmv|apply qas|apply qpk|apply qgt)<;>(first|exact rfl|exact dcf (by first|assumption|omega)|fail))|fail) ?_ | refine cX rfl rfl ?_)
    refine ret1 (Or.inl rfl) Tryz.results52 (by first | exact ResV.tmp rfl | exact ResV.agg rfl rfl (by assumption) (by first | exact dc_length _ | exact nc_length _ | exact rc_length _ _ _ | exact ec_length _ | exact dl_length _ _ _ _ | rfl) | exact ResV.cell rfl rfl (by assumption)) ?_
    exact ⟨rfl, Kp.refl _ _⟩
theorem sumH_snoc {l : List Hd} {i : Nat} (h : i < l.length) : sumH (l.take (i + 1)) = sumH (l.take i) + l[i].amt := by
  unfold sumH
  rw [List.take_succ_eq_append_getElem h, List.foldl_append]
  rfl
theorem sumH_le : ∀ {l : List Hd}, (∀ h ∈ l, 0 ≤ h.amt ∧ h.amt ≤ 1125899906842624) → 0 ≤ sumH l ∧ sumH l ≤ 1125899906842624 * l.length := by
  have key : ∀ (l : List Hd) (s : Int), (∀ h ∈ l, 0 ≤ h.amt ∧ h.amt ≤ 1125899906842624) → s ≤ l.foldl (fun s h => s + h.amt) s ∧ l.foldl (fun s h => s + h.amt) s ≤ s + 1125899906842624 * l.length := by
    intro l
    induction l with
    | nil => intro s _; simp
    | cons x l ih =>
      intro s hh
      obtain ⟨h1, h2⟩ := ih (s + x.amt) (fun h hm => hh h (List.mem_cons_of_mem _ hm))
      obtain ⟨h3, h4⟩ := hh x List.mem_cons_self
      simp only [List.foldl_cons, List.length_cons]
      omega
  intro l hh
  obtain ⟨h1, h2⟩ := key l 0 hh
  unfold sumH
  omega
set_option maxHeartbeats 8000000 in
theorem sum_spec {w : World} {a : Option Addr} {c : Nat} (p : Pu) (hS : Sl hc 11 w a p.held) (hl : p.held.length ≤ 40) (h0 : amtP p.h0) (h1 : amtP p.h1) (hh : ∀ h ∈ p.held, 0 ≤ h.amt ∧ h.amt ≤ 1125899906842624) : Ret Tryz.prog 53 #[pv p (.slice a p.held.length c)] w (.int .i64 (sumP p)) := by
  refine enter1 Tryz.func53 rfl Tryz.ntmps53 rfl ?_
  obtain ⟨h00, h01⟩ := h0
  obtain ⟨h10, h11⟩ := h1
  repeat (first|apply cA|apply cB)
  refine SG.box rfl rfl rfl (by exact rho_of rfl) (fun b1 w1 hk1 hb1 hB1 => ?_)
  have hB1 : Blk w1 b1 (.cells (pc p (.slice a p.held.length c)).toArray 47) := hB1
  obtain ⟨-, -, r2, r3, r4, -⟩ := pc_rows hB1
  repeat (first|apply cA|apply cB|apply cD|apply cE|apply cG|refine cV rfl rfl rfl rfl (by first|((first|apply qia0|apply qmv|apply qas|apply qlc|apply qfa|apply qad|apply qln)<;>(first|exact rfl|assumption|exact Ar.mk (by omega)|exact List.not_mem_nil|fail))|fail) ?_)
  refine CG.loop (X := Nat) (fun i => [(14, .slice a p.held.length c), (15, .int .i64 (p.held.length : Int)), (16, .int .i64 (i : Int)), (3, .int .i64 (p.h0 + p.h1 + sumH (p.held.take i)))]) (fun i w' => i ≤ p.held.length ∧ Kp [] w1 w') (fun i => p.held.length - i) 0 ⟨Nat.zero_le _, Kp.refl _ _⟩ ?_ ?_
  · refine ⟨rfl, rfl, rfl, ?_, True.intro⟩
    show _ = some (Value.int .i64 (p.h0 + p.h1 + 0))
    rw [Int.add_zero]
    rfl
  rintro i w2 ⟨hi, hk2⟩
  by_cases hlt : i < p.held.length
  · have g1 : (i : Int) < (p.held.length : Int) := by omega
    obtain ⟨ba, oa, rfl, hri⟩ := (hS.kp0 (hk1.trans hk2)).at hlt
    have hsn := sumH_snoc hlt
    have hb1 := sumH_le (l := p.held.take i) (fun h hm => hh h (List.mem_of_mem_take hm))
    have hb2 := hh _ (List.getElem_mem hlt)
    have hb3 : (p.held.take i).length ≤ 40 := by rw [List.length_take]; omega
    repeat (first|apply cA|apply cB|apply cD|apply cE|refine cV rfl rfl rfl rfl (by first|(apply qls<;>(first|exact rfl|exact dct (by first|assumption|omega)|fail))|fail) ?_)
    refine dA rfl (by exact rho_of rfl) rfl ?_
    repeat (first|apply cA|apply cB|apply cE|apply cF|apply cG|refine cV rfl rfl rfl rfl (by first|((first|apply qla|apply qix)<;>(first|exact rfl|assumption|exact Ar.mk (by omega)|exact List.not_mem_nil|apply hc_length|fail))|fail) ?_)
    refine SG.alloc rfl rfl rfl (fun b5 w3 hk3 hb5 hB5 => ?_)
    refine SG.setAll (l := hc p.held[i]) rfl rfl (by exact rho_of rfl) (by exact rho_of rfl) hB5 (hc_length _) rfl (hc_one _) (fun w4 hk4 hB6 => ?_)
    have hB6 : Blk w4 b5 (.cells (hc p.held[i]).toArray 86) := hB6
    obtain ⟨-, q1, -, -, -⟩ := hc_rows hB6
    repeat (first|apply cB|apply cD|apply cE|apply cU|refine cV rfl rfl rfl rfl (by first|((first|apply qmv|apply qas|apply qlc|apply qfa|apply qad)<;>(first|exact rfl|assumption|exact Ar.mk (by omega)|exact List.not_mem_nil|fail))|fail) ?_)
    refine NG.round (i + 1) ?_ ⟨by omega, hk2.trans (hk3.trans_new hk4 (new1 (by omega)))⟩ (by omega)
    refine ⟨rfl, rfl, rfl, ?_, True.intro⟩
    rw [hsn, ← Int.add_assoc]
    rfl
  · have g1 : ¬ (i : Int) < (p.held.length : Int) := by omega
    rw [List.take_of_length_le (by omega)]
    repeat (first|apply cA|apply cB|apply cD|apply cE|refine cV rfl rfl rfl rfl (by first|(apply qls<;>(first|exact rfl|exact dcf (by first|assumption|omega)|fail))|fail) ?_)
    refine dB rfl (by exact rho_of rfl) rfl ?_
    repeat (first|apply cA|apply cB|apply cD|apply cE|apply cH|apply cJ|apply cM|refine cN rfl ?_|refine cV rfl rfl rfl rfl (by first|((first|apply qmv|apply qas)<;>(exact rfl))|fail) ?_)
    refine ret1 (Or.inl rfl) Tryz.results53 (by first | exact ResV.tmp rfl | exact ResV.agg rfl rfl (by assumption) (by first | exact dc_length _ | exact nc_length _ | exact rc_length _ _ _ | exact ec_length _ | exact dl_length _ _ _ _ | rfl) | exact ResV.cell rfl rfl (by assumption)) ?_
    exact ⟨rfl, hk1.trans hk2⟩
def placeZ (l : List Hd) (n : Dg) : Int := if placeN l n < l.length then (placeN l n : Int) else -1
set_option maxHeartbeats 8000000 in
theorem place_spec {w : World} {a : Option Addr} {c : Nat} (p : Pu) (n : Dg) (hS : Sl hc 11 w a p.held) (hl : p.held.length ≤ 1000) : Ret Tryz.prog 66 #[pv p (.slice a p.held.length c), dv n] w (.int .i64 (placeZ p.held n)) := by
  refine enter2 Tryz.func66 rfl Tryz.ntmps66 rfl ?_
  repeat (first|apply cA|apply cB)
  refine SG.box rfl rfl rfl (by exact rho_of rfl) (fun b2 w1 hk1 hb2 hB2 => ?_)
  have hB2 : Blk w1 b2 (.cells (pc p (.slice a p.held.length c)).toArray 47) := hB2
  refine SG.box rfl rfl rfl (by exact rho_of rfl) (fun b3 w2 hk2 hb3 hB3 => ?_)
  have hB3 : Blk w2 b3 (.cells (dc n).toArray 44) := hB3
  have hR3 : Row w2 b3 0 (dc n) := Row.all hB3 rfl
  obtain ⟨-, -, -, -, r4, -⟩ := pc_rows (hB2.kp0 hk2)
  repeat (first|apply cA|apply cB|apply cD|apply cE|apply CG.scope|refine cV rfl rfl rfl rfl (by first|(apply qas<;>(exact rfl))|fail) ?_)
  refine CG.label ?_
  repeat (first|apply cA|apply cB|apply cD|apply cE|apply cG|refine cV rfl rfl rfl rfl (by first|((first|apply qmv|apply qlc|apply qfa|apply qln)<;>(first|exact rfl|assumption|exact List.not_mem_nil))|fail) ?_)
  refine CG.loop (X := Nat) (fun i => [(3, .pointer (some ⟨b3, 0, none⟩)), (5, .int .i64 (-1)), (9, .slice a p.held.length c), (10, .int .i64 (p.held.length : Int)), (11, .int .i64 (i : Int))]) (fun i w' => i ≤ p.held.length ∧ Kp [] w2 w' ∧ i ≤ placeN p.held n) (fun i => p.held.length - i) 0 ⟨Nat.zero_le _, Kp.refl _ _, Nat.zero_le _⟩ (by (repeat' (first | exact True.intro | exact rfl | refine And.intro ?_ ?_))) ?_
  rintro i w3 ⟨hi, hk3, hpl⟩
  have hR3 := hR3.kp0 hk3
  by_cases hlt : i < p.held.length
  · have g1 : (i : Int) < (p.held.length : Int) := by omega
    obtain ⟨ba, oa, rfl, hri⟩ := (hS.kp0 ((hk1.trans hk2).trans hk3)).at hlt
    repeat (first|apply cA|apply cB|apply cD|apply cE|refine cV rfl rfl rfl rfl (by first|(apply qls<;>(first|exact rfl|exact dct (by first|assumption|omega)|fail))|fail) ?_)
    refine dA rfl (by exact rho_of rfl) rfl ?_
    repeat (first|apply cA|apply cB|apply cE|apply cF|apply cG|refine cV rfl rfl rfl rfl (by first|((first|apply qmv|apply qla|apply qix)<;>(first|exact rfl|assumption|exact Ar.mk (by omega)|exact List.not_mem_nil|apply hc_length|fail))|fail) ?_)
    refine SG.alloc rfl rfl rfl (fun b7 w4 hk4 hb7 hB7 => ?_)
    repeat (first|refine cV rfl rfl rfl rfl (by first|(apply qas<;>(exact rfl))|fail) ?_)
    refine SG.setAll (l := hc p.held[i]) rfl rfl (by exact rho_of rfl) (by exact rho_of rfl) hB7 (hc_length _) rfl (hc_one _) (fun w5 hk5 hB8 => ?_)
    have hB8 : Blk w5 b7 (.cells (hc p.held[i]).toArray 86) := hB8
    have k35 : Kp [] w3 w5 := hk4.trans_new hk5 (new1 (by omega))
    obtain ⟨q0, -, -, -, -⟩ := hc_rows hB8
    have hR5 := hR3.kp0 k35
    by_cases he : p.held[i].name = n
    · have hpi : placeN p.held n = i := by
        refine Nat.le_antisymm ?_ hpl
        refine Nat.not_lt.1 (fun h => ?_)
        have := List.not_of_lt_findIdx (p := fun h : Hd => decide (h.name = n)) (xs := p.held) (i := i) h
        simp [he] at this
      have e : placeZ p.held n = (i : Int) := by
        unfold placeZ
        rw [if_pos (by omega), hpi]
      rw [e]
      repeat (first|apply cA|apply cB|apply cD|apply cE|refine cV rfl rfl rfl rfl (by first|((first|apply qla|apply qfa|apply qed)<;>(first|exact rfl|assumption|exact dct (by first|assumption|omega)|exact List.not_mem_nil|apply dc_length|fail))|fail) ?_)
      refine dA rfl (by exact rho_of rfl) rfl ?_
      repeat (first|apply cA|apply cB|apply cD|apply cE|apply cH|apply cJ|apply NG.ret_scope|apply cM|refine cN rfl ?_|refine NG.exit_other rfl ?_|refine cV rfl rfl rfl rfl (by first|((first|apply qmv|apply qas)<;>(exact rfl))|fail) ?_)
      refine ret1 (Or.inl rfl) Tryz.results66 (by first | exact ResV.tmp rfl | exact ResV.agg rfl rfl (by assumption) (by first | exact dc_length _ | exact nc_length _ | exact rc_length _ _ _ | exact ec_length _ | exact dl_length _ _ _ _ | rfl) | exact ResV.cell rfl rfl (by assumption)) ?_
      exact ⟨rfl, ((hk1.trans hk2).trans hk3).trans k35⟩
    · repeat (first|apply cA|apply cB|apply cD|apply cE|refine cV rfl rfl rfl rfl (by first|((first|apply qla|apply qfa|apply qed)<;>(first|exact rfl|assumption|exact dcf (by first|assumption|omega)|exact List.not_mem_nil|apply dc_length|fail))|fail) ?_)
      refine dB rfl (by exact rho_of rfl) rfl ?_
      repeat (first|apply cB|apply cD|apply cE|apply cF|apply cU|refine cV rfl rfl rfl rfl (by first|((first|apply qmv|apply qad)<;>(first|exact rfl|exact Ar.mk (by omega)|fail))|fail) ?_)
      refine NG.round (i + 1) (by (repeat' (first | exact True.intro | exact rfl | refine And.intro ?_ ?_))) ⟨by omega, hk3.trans k35, ?_⟩ (by omega)
      refine Nat.lt_of_le_of_ne hpl (fun h => he ?_)
      have hlt2 : placeN p.held n < p.held.length := by omega
      have := List.findIdx_getElem (p := fun h : Hd => decide (h.name = n)) (xs := p.held) (w := hlt2)
      have hh : p.held[placeN p.held n].name = n := of_decide_eq_true this
      simpa [← h] using hh
  · have g1 : ¬ (i : Int) < (p.held.length : Int) := by omega
    have e : placeZ p.held n = -1 := by
      unfold placeZ
      rw [if_neg (by omega)]
    rw [e]
    repeat (first|apply cA|apply cB|apply cD|apply cE|refine cV rfl rfl rfl rfl (by first|(apply qls<;>(first|exact rfl|exact dcf (by first|assumption|omega)|fail))|fail) ?_)
    refine dB rfl (by exact rho_of rfl) rfl ?_
    repeat (first|apply cA|apply cB|apply cD|apply cE|apply cH|apply cJ|apply NG.ret_scope|apply cM|refine cN rfl ?_|refine cV rfl rfl rfl rfl (by first|((first|apply qmv|apply qas)<;>(exact rfl))|fail) ?_)
    refine ret1 (Or.inl rfl) Tryz.results66 (by first | exact ResV.tmp rfl | exact ResV.agg rfl rfl (by assumption) (by first | exact dc_length _ | exact nc_length _ | exact rc_length _ _ _ | exact ec_length _ | exact dl_length _ _ _ _ | rfl) | exact ResV.cell rfl rfl (by assumption)) ?_
    exact ⟨rfl, (hk1.trans hk2).trans hk3⟩
end Go.Proofs.YtajllbdeoopimaaGreat
namespace Go.Proofs.YtajllbdeoopimaaGreat
set_option linter.unusedVariables false
theorem CG.cut_then {P : Program} {n : Nat} {Q Q' : Exit → Act → World → Prop} {L : Env} {w : World} {c B : Code} (M : Env → World → Prop) (h : CG P n c (Exit.then (fun a w => ∃ L, Fits n a L ∧ M L w) Q') L w) (h2 : ∀ L w, M L w → CG P n B Q L w) : CG P n c (Exit.then (B.wp P Q) Q') L w := by
  intro a ha
  refine wp_mono (h a ha) (fun e a w hq => ?_)
  cases e <;> first | exact hq | (obtain ⟨L, h1, h2'⟩ := hq; exact h2 L w h2' a h1)
theorem chkL_nil (s : List Hd) : chkL s [] = 0 := by
  unfold chkL
  rfl
theorem chkL_bad {s r : List Hd} {h : Hd} (hb : ¬ h.Ok) : chkL s (h :: r) = 2 := by
  rw [chkL, if_pos hb]
theorem chkL_two {s r : List Hd} {h : Hd} (hb : h.Ok) (ha : s.any (fun o => decide (o.name = h.name)) = true) : chkL s (h :: r) = 7 := by
  rw [chkL, if_neg (fun q => q hb), if_pos ha]
theorem chkL_on {s r : List Hd} {h : Hd} (hb : h.Ok) (ha : s.any (fun o => decide (o.name = h.name)) = false) : chkL s (h :: r) = chkL (s ++ [h]) r := by
  rw [chkL, if_neg (fun q => q hb), if_neg (by rw [ha]; decide)]
theorem checkZ_range {p : Pu} (h : ¬ (farP p.num ∧ amtP p.h0 ∧ amtP p.h1)) : checkZ p = 2 := if_pos h
theorem checkZ_full {p : Pu} (h : farP p.num ∧ amtP p.h0 ∧ amtP p.h1) (h2 : 16 < p.held.length) : checkZ p = 8 := by
  unfold checkZ
  rw [if_neg (fun q => q h), if_pos h2]
theorem checkZ_held {p : Pu} {e : Int} (h : farP p.num ∧ amtP p.h0 ∧ amtP p.h1) (h2 : ¬ 16 < p.held.length) (h3 : chkL [] p.held = e) (he : e ≠ 0) : checkZ p = e := by
  unfold checkZ
  rw [if_neg (fun q => q h), if_neg h2, h3, if_neg he]
theorem checkZ_sum {p : Pu} (h : farP p.num ∧ amtP p.h0 ∧ amtP p.h1) (h2 : ¬ 16 < p.held.length) (h3 : chkL [] p.held = 0) : checkZ p = if amtP (sumP p) then 0 else 2 := by
  unfold checkZ
  rw [if_neg (fun q => q h), if_neg h2, if_pos h3]
theorem Hd.Ok.some {h : Hd} (k : h.Ok) : someP h.amt := ⟨k.a0, Int.le_of_lt k.a0, k.a1⟩
attribute [local irreducible] CG NG SG Vals Der Row Blk MapIs IterAt chkL
set_option maxHeartbeats 16000000 in
theorem check_spec0 {w : World} {a : Option Addr} {c : Nat} (p : Pu) (hS : Sl hc 11 w a p.held) (hl : p.held.length ≤ 4398046511104) (hcap : p.held.length ≤ c) : Ret Tryz.prog 28 #[pv p (.slice a p.held.length c)] w (.int .i64 (checkZ p)) := by
  refine enter1 Tryz.func28 rfl Tryz.ntmps28 rfl ?_
  repeat (first|apply cA|apply cB)
  refine SG.box rfl rfl rfl (by exact rho_of rfl) (fun b1 w1 hk1 hb1 hB1 => ?_)
  have hB1 : Blk w1 b1 (.cells (pc p (.slice a p.held.length c)).toArray 47) := hB1
  obtain ⟨-, r1, r2, r3, r4, r5⟩ := pc_rows hB1
  refine cV rfl rfl rfl rfl (by first|(apply qas<;>(exact rfl))|fail) ?_
  refine cD ?_
  refine cE ?_
  repeat (first | refine CG.scope ?_ | refine cA ?_)
  refine CG.cut_then (fun L w' => SubE [(1, .pointer (some ⟨b1, 0, none⟩)), (24, .bool (!decide (farP p.num ∧ amtP p.h0 ∧ amtP p.h1)))] L ∧ Kp [] w1 w') ?_ ?_
  · repeat (first|apply cB|refine cV rfl rfl rfl rfl (by first|((first|apply qlc|apply qfa)<;>(first|exact rfl|assumption|exact List.not_mem_nil))|fail) ?_)
    refine SG.ret rfl rfl rfl (vs := [.int .i64 p.num]) (by repeat' (first | exact True.intro | exact rho_of rfl | refine And.intro ?_ ?_)) (far_spec p.num w1) (fun w2 hk2 => ?_)
    by_cases q1 : farP p.num
    rotate_left
    · rw [decide_eq_false q1, decide_eq_false (fun h => q1 h.1)]
      repeat (first | first|apply cD|refine cV rfl rfl rfl rfl (by first|((first|apply qmv|apply qpk|apply qnt)<;>(exact rfl))|fail) ?_ | refine cX rfl rfl ?_)
      exact NG.cut ⟨by (repeat' (first | exact True.intro | exact rfl | refine And.intro ?_ ?_)), hk2⟩
    rw [decide_eq_true q1]
    have r2 := r2.kp0 hk2
    have r3 := r3.kp0 hk2
    repeat (first|refine cV rfl rfl rfl rfl (by first|((first|apply qia0|apply qmv|apply qlc|apply qfa|apply qnt)<;>(first|exact rfl|exact Ar.mk (by omega)|assumption|exact List.not_mem_nil|fail))|fail) ?_)
    refine SG.ret rfl rfl rfl (vs := [.int .i64 p.h0]) (by repeat' (first | exact True.intro | exact rho_of rfl | refine And.intro ?_ ?_)) (right_spec p.h0 w2) (fun w3 hk3 => ?_)
    by_cases q2 : amtP p.h0
    rotate_left
    · rw [decide_eq_false q2, decide_eq_false (fun h => q2 h.2.1)]
      repeat (first | first|apply cD|refine cV rfl rfl rfl rfl (by first|((first|apply qmv|apply qpk|apply qnt)<;>(exact rfl))|fail) ?_ | refine cX rfl rfl ?_)
      exact NG.cut ⟨by (repeat' (first | exact True.intro | exact rfl | refine And.intro ?_ ?_)), hk2.trans hk3⟩
    rw [decide_eq_true q2]
    have r3 := r3.kp0 hk3
    repeat (first|refine cV rfl rfl rfl rfl (by first|((first|apply qia0|apply qmv|apply qlc|apply qfa|apply qpk|apply qnt)<;>(first|exact rfl|exact Ar.mk (by omega)|assumption|exact List.not_mem_nil|fail))|fail) ?_)
    refine SG.ret rfl rfl rfl (vs := [.int .i64 p.h1]) (by repeat' (first | exact True.intro | exact rho_of rfl | refine And.intro ?_ ?_)) (right_spec p.h1 w3) (fun w4 hk4 => ?_)
    by_cases q3 : amtP p.h1
    · rw [decide_eq_true q3, decide_eq_true ⟨q1, q2, q3⟩]
      repeat (first|apply cD|refine cV rfl rfl rfl rfl (by first|((first|apply qpk|apply qnt)<;>(exact rfl))|fail) ?_)
      exact NG.cut ⟨by (repeat' (first | exact True.intro | exact rfl | refine And.intro ?_ ?_)), (hk2.trans hk3).trans hk4⟩
    · rw [decide_eq_false q3, decide_eq_false (fun h => q3 h.2.2)]
      repeat (first|apply cD|refine cV rfl rfl rfl rfl (by first|((first|apply qpk|apply qnt)<;>(exact rfl))|fail) ?_)
      exact NG.cut ⟨by (repeat' (first | exact True.intro | exact rfl | refine And.intro ?_ ?_)), (hk2.trans hk3).trans hk4⟩
  rintro L w2 ⟨hLL, hk2⟩
  refine CG.to _ hLL ?_
  clear hLL L
  have r4 := r4.kp0 hk2
  by_cases hv : farP p.num ∧ amtP p.h0 ∧ amtP p.h1
  rotate_left
  · rw [decide_eq_false hv, checkZ_range hv]
    refine dA rfl (by exact rho_of rfl) rfl ?_
    repeat (first|apply cA|apply cB|apply cD|apply cE|apply cH|apply cK|refine cV rfl rfl rfl rfl (by first|(apply qas<;>(exact rfl))|fail) ?_)
    refine ret1 (Or.inl rfl) Tryz.results28 (by first | exact ResV.tmp rfl | exact ResV.agg rfl rfl (by assumption) (by first | exact dc_length _ | exact nc_length _ | exact rc_length _ _ _ | exact ec_length _ | exact dl_length _ _ _ _ | rfl) | exact ResV.cell rfl rfl (by assumption)) ?_
    exact ⟨rfl, hk1.trans hk2⟩
  rw [decide_eq_true hv]
  refine dB rfl (by exact rho_of rfl) rfl ?_
  by_cases h16 : 16 < p.held.length
  · have g1 : (16 : Int) < (p.held.length : Int) := by omega
    rw [checkZ_full hv h16]
    repeat (first|apply cA|apply cB|apply cD|apply cE|apply cF|refine cV rfl rfl rfl rfl (by first|((first|apply qlc|apply qfa|apply qln|apply qgt)<;>(first|exact rfl|assumption|exact dct (by first|assumption|omega)|exact List.not_mem_nil|fail))|fail) ?_)
    refine dA rfl (by exact rho_of rfl) rfl ?_
    repeat (first|apply cA|apply cB|apply cD|apply cE|apply cH|apply cK|refine cV rfl rfl rfl rfl (by first|(apply qas<;>(exact rfl))|fail) ?_)
    refine ret1 (Or.inl rfl) Tryz.results28 (by first | exact ResV.tmp rfl | exact ResV.agg rfl rfl (by assumption) (by first | exact dc_length _ | exact nc_length _ | exact rc_length _ _ _ | exact ec_length _ | exact dl_length _ _ _ _ | rfl) | exact ResV.cell rfl rfl (by assumption)) ?_
    exact ⟨rfl, hk1.trans hk2⟩
  have g1 : ¬ (16 : Int) < (p.held.length : Int) := by omega
  repeat (first|apply cA|apply cB|apply cD|apply cE|apply cF|refine cV rfl rfl rfl rfl (by first|((first|apply qlc|apply qfa|apply qln|apply qgt)<;>(first|exact rfl|assumption|exact dcf (by first|assumption|omega)|exact List.not_mem_nil|fail))|fail) ?_)
  refine dB rfl (by exact rho_of rfl) rfl ?_
  repeat (first|apply cA|apply cB|apply cD|apply cE|apply cF|apply cG|refine cV rfl rfl rfl rfl (by first|((first|apply qmv|apply qlc|apply qfa|apply qln)<;>(first|exact rfl|assumption|exact List.not_mem_nil))|fail) ?_)
  refine CG.loop (X := Nat) (fun i => [(1, .pointer (some ⟨b1, 0, none⟩)), (30, .slice a p.held.length c), (31, .int .i64 (p.held.length : Int)), (32, .int .i64 (i : Int))]) (fun i w' => i ≤ p.held.length ∧ Kp [] w2 w' ∧ chkL (p.held.take i) (p.held.drop i) = chkL [] p.held ∧ ∀ h ∈ p.held.take i, h.Ok) (fun i => p.held.length - i) 0 ⟨Nat.zero_le _, Kp.refl _ _, rfl, fun h hm => by cases hm⟩ (by (repeat' (first | exact True.intro | exact rfl | refine And.intro ?_ ?_))) ?_
  rintro i w3 ⟨hi, hk3, hch, hall⟩
  have r4 := r4.kp0 hk3
  have r5 := (r5.kp0 hk2).kp0 hk3
  have k3 := (hk1.trans hk2).trans hk3
  by_cases hlt : i < p.held.length
  · have g2 : (i : Int) < (p.held.length : Int) := by omega
    obtain ⟨ba, oa, rfl, hri⟩ := (hS.kp0 k3).at hlt
    have hSt := (hS.take i).kp0 k3
    have htl : (p.held.take i).length = i := by rw [List.length_take]; omega
    have hts := List.take_succ_eq_append_getElem hlt
    rw [List.drop_eq_getElem_cons hlt] at hch
    generalize hhe : p.held[i] = h at hri hch hts
    have r4' : Row w3 b1 11 [.slice (some ⟨ba, oa, none⟩) p.held.length c] := r4
    clear r4 r5
    repeat (first|apply cA|apply cB|apply cD|apply cE|refine cV rfl rfl rfl rfl (by first|(apply qls<;>(first|exact rfl|exact dct (by first|assumption|omega)|fail))|fail) ?_)
    refine dA rfl (by exact rho_of rfl) rfl ?_
    repeat (first|apply cA|apply cB|apply cE|apply cF|apply cG|refine cV rfl rfl rfl rfl (by first|((first|apply qmv|apply qla|apply qix)<;>(first|exact rfl|exact Ar.mk (by omega)|assumption|exact List.not_mem_nil|apply hc_length|fail))|fail) ?_)
    refine SG.alloc rfl rfl rfl (fun b4 w4 hk4 hb4 hB4 => ?_)
    repeat (first|refine cV rfl rfl rfl rfl (by first|(apply qas<;>(exact rfl))|fail) ?_)
    refine SG.setAll (l := hc h) rfl rfl (by exact rho_of rfl) (by exact rho_of rfl) hB4 (hc_length _) rfl (hc_one _) (fun w5 hk5 hB5 => ?_)
    have hB5 : Blk w5 b4 (.cells (hc h).toArray 86) := hB5
    obtain ⟨q0, q1, q2, q3, -⟩ := hc_rows hB5
    have k35 : Kp [] w3 w5 := hk4.trans_new hk5 (new1 (by omega))
    have r4 := r4'.kp0 k35
    clear hri r4'
    refine cD ?_
    refine cE ?_
    repeat (first | refine CG.scope ?_ | refine cA ?_)
    refine CG.cut_then (fun L w' => SubE [(1, .pointer (some ⟨b1, 0, none⟩)), (3, .int .i64 (i : Int)), (4, .pointer (some ⟨b4, 0, none⟩)), (30, .slice (some ⟨ba, oa, none⟩) p.held.length c), (31, .int .i64 (p.held.length : Int)), (32, .int .i64 (i : Int)), (56, .bool (!decide h.Ok))] L ∧ Kp [] w5 w') ?_ ?_
    · repeat (first|apply cB|refine cV rfl rfl rfl rfl (by first|((first|apply qlc|apply qfa)<;>(first|exact rfl|assumption|exact List.not_mem_nil))|fail) ?_)
      refine SG.ret rfl rfl rfl (vs := [.int .i64 h.amt]) (by repeat' (first | exact True.intro | exact rho_of rfl | refine And.intro ?_ ?_)) (some_spec h.amt w5) (fun w6 hk6 => ?_)
      have q2 := q2.kp0 hk6
      have q3 := q3.kp0 hk6
      by_cases g3 : someP h.amt
      rotate_left
      · rw [decide_eq_false g3, decide_eq_false (fun k => g3 (Hd.Ok.some k))]
        repeat (first | first|apply cD|refine cV rfl rfl rfl rfl (by first|((first|apply qmv|apply qpk|apply qnt)<;>(exact rfl))|fail) ?_ | refine cX rfl rfl ?_)
        exact NG.cut ⟨by (repeat' (first | exact True.intro | exact rfl | refine And.intro ?_ ?_)), hk6⟩
      rw [decide_eq_true g3]
      by_cases g4 : h.side < 0
      · rw [decide_eq_false (fun k : h.Ok => by have := k.s0; omega)]
        repeat (first | first|apply cD|refine cV rfl rfl rfl rfl (by first|((first|apply qmv|apply qlc|apply qfa|apply qpk|apply qls|apply qnt)<;>(first|exact rfl|assumption|exact dct (by first|assumption|omega)|exact List.not_mem_nil|fail))|fail) ?_ | refine cX rfl rfl ?_)
        exact NG.cut ⟨by (repeat' (first | exact True.intro | exact rfl | refine And.intro ?_ ?_)), hk6⟩
      by_cases g5 : 1 < h.side
      · rw [decide_eq_false (fun k : h.Ok => by have := k.s1; omega)]
        repeat (first | first|apply cD|refine cV rfl rfl rfl rfl (by first|((first|apply qmv|apply qlc|apply qfa|apply qpk|apply qls|apply qgt|apply qnt)<;>(first|exact rfl|assumption|exact dct (by first|assumption|omega)|exact dcf (by first|assumption|omega)|exact List.not_mem_nil|fail))|fail) ?_ | refine cX rfl rfl ?_)
        exact NG.cut ⟨by (repeat' (first | exact True.intro | exact rfl | refine And.intro ?_ ?_)), hk6⟩
      repeat (first|refine cV rfl rfl rfl rfl (by first|((first|apply qmv|apply qlc|apply qfa|apply qpk|apply qls|apply qgt|apply qnt)<;>(first|exact rfl|assumption|exact dcf (by first|assumption|omega)|exact List.not_mem_nil|fail))|fail) ?_)
      refine SG.ret rfl rfl rfl (vs := [.int .i64 h.til]) (by repeat' (first | exact True.intro | exact rho_of rfl | refine And.intro ?_ ?_)) (far_spec h.til w6) (fun w7 hk7 => ?_)
      by_cases g6 : farP h.til
      · rw [decide_eq_true g6, decide_eq_true (show h.Ok from ⟨g3.1, g3.2.2, by omega, by omega, g6.1, g6.2⟩)]
        repeat (first|apply cD|refine cV rfl rfl rfl rfl (by first|((first|apply qpk|apply qnt)<;>(exact rfl))|fail) ?_)
        exact NG.cut ⟨by (repeat' (first | exact True.intro | exact rfl | refine And.intro ?_ ?_)), hk6.trans hk7⟩
      · rw [decide_eq_false g6, decide_eq_false (fun k : h.Ok => g6 ⟨k.t0, k.t1⟩)]
        repeat (first|apply cD|refine cV rfl rfl rfl rfl (by first|((first|apply qpk|apply qnt)<;>(exact rfl))|fail) ?_)
        exact NG.cut ⟨by (repeat' (first | exact True.intro | exact rfl | refine And.intro ?_ ?_)), hk6.trans hk7⟩
    rintro L w6 ⟨hLL, hk6⟩
    refine CG.to _ hLL ?_
    clear hLL L
    by_cases hok : h.Ok
    rotate_left
    · rw [chkL_bad hok] at hch
      rw [decide_eq_false hok, checkZ_held hv h16 hch.symm (by decide)]
      refine dA rfl (by exact rho_of rfl) rfl ?_
      repeat (first|apply cA|apply cB|apply cD|apply cE|apply cH|apply cK|apply NG.ret_block|refine cV rfl rfl rfl rfl (by first|(apply qas<;>(exact rfl))|fail) ?_)
      refine ret1 (Or.inl rfl) Tryz.results28 (by first | exact ResV.tmp rfl | exact ResV.agg rfl rfl (by assumption) (by first | exact dc_length _ | exact nc_length _ | exact rc_length _ _ _ | exact ec_length _ | exact dl_length _ _ _ _ | rfl) | exact ResV.cell rfl rfl (by assumption)) ?_
      exact ⟨rfl, (k3.trans k35).trans hk6⟩
    rw [decide_eq_true hok]
    have r4 := r4.kp0 hk6
    have q0 := q0.kp0 hk6
    refine dB rfl (by exact rho_of rfl) rfl ?_
    repeat (first|apply cA|apply cB|apply cD|apply cE|apply cF|apply cG|refine cV rfl rfl rfl rfl (by first|((first|apply qmv|apply qlc|apply qfa|apply qln|apply qto)<;>(first|exact rfl|exact Ar.mk (by omega)|assumption|exact List.not_mem_nil|fail))|fail) ?_)
    refine CG.loop (X := Nat) (fun j => [(1, .pointer (some ⟨b1, 0, none⟩)), (3, .int .i64 (i : Int)), (4, .pointer (some ⟨b4, 0, none⟩)), (30, .slice (some ⟨ba, oa, none⟩) p.held.length c), (31, .int .i64 (p.held.length : Int)), (32, .int .i64 (i : Int)), (60, .slice (some ⟨ba, oa, none⟩) i c), (61, .int .i64 (i : Int)), (62, .int .i64 (j : Int))]) (fun j w' => j ≤ i ∧ Kp [] w6 w' ∧ ((p.held.take i).take j).any (fun o => decide (o.name = h.name)) = false) (fun j => i - j) 0 ⟨Nat.zero_le _, Kp.refl _ _, rfl⟩ (by (repeat' (first | exact True.intro | exact rfl | refine And.intro ?_ ?_))) ?_
    rintro j w7 ⟨hj, hk7, hany⟩
    have q0 := q0.kp0 hk7
    by_cases hjt : j < i
    · have g3 : (j : Int) < (i : Int) := by omega
      have hjl : j < (p.held.take i).length := by omega
      have k37 := (k35.trans hk6).trans hk7
      have hrj := (hSt.kp0 k37).row (List.getElem?_eq_getElem hjl)
      have hsn : ((p.held.take i).take (j + 1)).any (fun o => decide (o.name = h.name)) = (((p.held.take i).take j).any (fun o => decide (o.name = h.name)) || decide ((p.held.take i)[j].name = h.name)) := by
        rw [List.take_succ_eq_append_getElem hjl, List.any_append]
        simp
      rw [hany, Bool.false_or] at hsn
      have hmem := List.getElem_mem hjl
      generalize (p.held.take i)[j] = o at hrj hsn hmem
      repeat (first|apply cA|apply cB|apply cD|apply cE|refine cV rfl rfl rfl rfl (by first|(apply qls<;>(first|exact rfl|exact dct (by first|assumption|omega)|fail))|fail) ?_)
      refine dA rfl (by exact rho_of rfl) rfl ?_
      repeat (first|apply cA|apply cB|apply cE|apply cF|apply cG|refine cV rfl rfl rfl rfl (by first|((first|apply qla|apply qix)<;>(first|exact rfl|exact Ar.mk (by omega)|assumption|exact List.not_mem_nil|apply hc_length|fail))|fail) ?_)
      refine SG.alloc rfl rfl rfl (fun b6 w8 hk8 hb6 hB6 => ?_)
      refine SG.setAll (l := hc o) rfl rfl (by exact rho_of rfl) (by exact rho_of rfl) hB6 (hc_length _) rfl (hc_one _) (fun w9 hk9 hB7 => ?_)
      have hB7 : Blk w9 b6 (.cells (hc o).toArray 86) := hB7
      have k79 : Kp [] w7 w9 := hk8.trans_new hk9 (new1 (by omega))
      obtain ⟨p0, -, -, -, -⟩ := hc_rows hB7
      have q0 := q0.kp0 k79
      by_cases he : o.name = h.name
      · have ha : (p.held.take i).any (fun o => decide (o.name = h.name)) = true := List.any_eq_true.2 ⟨o, hmem, decide_eq_true he⟩
        rw [chkL_two hok ha] at hch
        rw [checkZ_held hv h16 hch.symm (by decide)]
        repeat (first|apply cA|apply cB|apply cD|apply cE|refine cV rfl rfl rfl rfl (by first|((first|apply qla|apply qfa|apply qed)<;>(first|exact rfl|assumption|exact dct (by first|assumption|omega)|exact List.not_mem_nil|apply dc_length|fail))|fail) ?_)
        refine dA rfl (by exact rho_of rfl) rfl ?_
        repeat (first|apply cA|apply cB|apply cD|apply cE|apply cH|apply cK|apply NG.ret_block|refine cV rfl rfl rfl rfl (by first|(apply qas<;>(exact rfl))|fail) ?_)
        refine ret1 (Or.inl rfl) Tryz.results28 (by first | exact ResV.tmp rfl | exact ResV.agg rfl rfl (by assumption) (by first | exact dc_length _ | exact nc_length _ | exact rc_length _ _ _ | exact ec_length _ | exact dl_length _ _ _ _ | rfl) | exact ResV.cell rfl rfl (by assumption)) ?_
        exact ⟨rfl, (k3.trans k37).trans k79⟩
      · rw [decide_eq_false he] at hsn
        repeat (first|apply cA|apply cB|apply cD|apply cE|refine cV rfl rfl rfl rfl (by first|((first|apply qla|apply qfa|apply qed)<;>(first|exact rfl|assumption|exact dcf (by first|assumption|omega)|exact List.not_mem_nil|apply dc_length|fail))|fail) ?_)
        refine dB rfl (by exact rho_of rfl) rfl ?_
        repeat (first|apply cB|apply cD|apply cE|apply cF|apply cU|refine cV rfl rfl rfl rfl (by first|((first|apply qmv|apply qad)<;>(first|exact rfl|exact Ar.mk (by omega)|fail))|fail) ?_)
        refine NG.round (j + 1) (by (repeat' (first | exact True.intro | exact rfl | refine And.intro ?_ ?_))) ⟨by omega, hk7.trans k79, hsn⟩ (by omega)
    · have g3 : ¬ (j : Int) < (i : Int) := by omega
      rw [List.take_of_length_le (by omega)] at hany
      rw [chkL_on hok hany, ← hts] at hch
      repeat (first|apply cA|apply cB|apply cD|apply cE|refine cV rfl rfl rfl rfl (by first|(apply qls<;>(first|exact rfl|exact dcf (by first|assumption|omega)|fail))|fail) ?_)
      refine dB rfl (by exact rho_of rfl) rfl ?_
      repeat (first|apply cB|apply cD|apply cE|apply cJ|apply cM|refine cN rfl ?_|apply cU|refine cV rfl rfl rfl rfl (by first|((first|apply qmv|apply qad)<;>(first|exact rfl|exact Ar.mk (by omega)|fail))|fail) ?_)
      refine NG.round (i + 1) (by (repeat' (first | exact True.intro | exact rfl | refine And.intro ?_ ?_))) ⟨by omega, hk3.trans ((k35.trans hk6).trans hk7), hch, fun x hx => ?_⟩ (by omega)
      rw [hts] at hx
      rcases List.mem_append.1 hx with hx | hx
      · exact hall x hx
      · rw [List.mem_singleton] at hx
        exact hx ▸ hok
  · have g2 : ¬ (i : Int) < (p.held.length : Int) := by omega
    rw [List.drop_of_length_le (by omega), chkL_nil] at hch
    rw [List.take_of_length_le (by omega)] at hall
    rw [checkZ_sum hv h16 hch.symm]
    clear r4
    repeat (first|apply cA|apply cB|apply cD|apply cE|refine cV rfl rfl rfl rfl (by first|(apply qls<;>(first|exact rfl|exact dcf (by first|assumption|omega)|fail))|fail) ?_)
    refine dB rfl (by exact rho_of rfl) rfl ?_
    repeat (first|apply cA|apply cB|apply cE|apply cJ|apply cM|refine cN rfl ?_|refine cV rfl rfl rfl rfl (by first|(apply qla<;>(first|exact rfl|assumption|exact List.not_mem_nil|apply pc_length))|fail) ?_)
    refine SG.ret rfl rfl rfl (vs := [pv p (.slice a p.held.length c)]) (by repeat' (first | exact True.intro | exact rho_of rfl | refine And.intro ?_ ?_)) (sum_spec p (hS.kp0 k3) (by omega) hv.2.1 hv.2.2 (fun h hm => ⟨Int.le_of_lt (hall h hm).a0, (hall h hm).a1⟩)) (fun w4 hk4 => ?_)
    refine SG.ret rfl rfl rfl (vs := [.int .i64 (sumP p)]) (by repeat' (first | exact True.intro | exact rho_of rfl | refine And.intro ?_ ?_)) (right_spec (sumP p) w4) (fun w5 hk5 => ?_)
    by_cases hs : amtP (sumP p)
    · rw [decide_eq_true hs, if_pos hs]
      repeat (first|apply cD|apply cE|refine cV rfl rfl rfl rfl (by first|(apply qnt<;>(exact rfl))|fail) ?_)
      refine dB rfl (by exact rho_of rfl) rfl ?_
      repeat (first|apply cA|apply cB|apply cD|apply cE|apply cF|apply cH|refine cV rfl rfl rfl rfl (by first|(apply qas<;>(exact rfl))|fail) ?_)
      refine ret1 (Or.inl rfl) Tryz.results28 (by first | exact ResV.tmp rfl | exact ResV.agg rfl rfl (by assumption) (by first | exact dc_length _ | exact nc_length _ | exact rc_length _ _ _ | exact ec_length _ | exact dl_length _ _ _ _ | rfl) | exact ResV.cell rfl rfl (by assumption)) ?_
      exact ⟨rfl, (k3.trans hk4).trans hk5⟩
    · rw [decide_eq_false hs, if_neg hs]
      repeat (first|apply cD|apply cE|refine cV rfl rfl rfl rfl (by first|(apply qnt<;>(exact rfl))|fail) ?_)
      refine dA rfl (by exact rho_of rfl) rfl ?_
      repeat (first|apply cA|apply cB|apply cD|apply cE|apply cH|apply cK|refine cV rfl rfl rfl rfl (by first|(apply qas<;>(exact rfl))|fail) ?_)
      refine ret1 (Or.inl rfl) Tryz.results28 (by first | exact ResV.tmp rfl | exact ResV.agg rfl rfl (by assumption) (by first | exact dc_length _ | exact nc_length _ | exact rc_length _ _ _ | exact ec_length _ | exact dl_length _ _ _ _ | rfl) | exact ResV.cell rfl rfl (by assumption)) ?_
      exact ⟨rfl, (k3.trans hk4).trans hk5⟩
theorem check_spec {w : World} {a : Option Addr} {c : Nat} (p : Pu) (hS : Sl hc 11 w a p.held) (hl : p.held.length ≤ 1000) (hcap : p.held.length ≤ c) : Ret Tryz.prog 28 #[pv p (.slice a p.held.length c)] w (.int .i64 (checkZ p)) := check_spec0 p hS (Nat.le_trans hl (by decide)) hcap
end Go.Proofs.YtajllbdeoopimaaGreat
namespace Go.Proofs.YtajllbdeoopimaaGreat
set_option linter.unusedVariables false
section
variable {P : Program} {n : Nat} {ops : List Oper} {Q : Exit → Act → World → Prop} {w : World} {L : Env} {ty : TypeId} {pos : String} {af : Array Edge} {g : Option (Nat × Bool)} {rest : List Oper}
theorem SG.appendW {base : Nat} {t e : TypeId} {i : TypeInfo} [u : Ut P t (.slice e)] [f : Inf P e i] {z : Value} {d : Nat} {s x : Operand} {v : Value} {nn : Nat} {xs : List Value} {b off m c : Nat} {news : List Value}
    (hd : Nat.blt d n = true) (hw : want ops L ⟨some d, .call { callee := .builtin .append, args := #[s, x], argTypes := #[t, t] }, ty, pos, af, g⟩ = some true) (hk : (known L s && known L x) = true)
    (hs : rho L s = v) (hx : rho L x = .slice (some ⟨b, off, none⟩) m c) (hz : i.zero = some z) (hzs : Nat.beq z.cells.size i.size = true) (hsz : Nat.blt 0 i.size = true) (hown : w.ownsRow base e i.size v nn xs) (hr : Row w b off news) (hl : news.length = m * i.size) (h1 : allOne news = true)
    (h63 : nn + m ≤ maxLen) (hbytes : (nn + m) * i.bytes ≤ 140737488355328) (hbase : base ≤ w.heap.size)
    (h : ∀ v' w', Kp (ownB v) w w' → w'.ownsRow base e i.size v' (nn + m) (xs ++ news) → (∀ g, v'.ownBlock = some g → v.ownBlock = some g ∨ g = w.heap.size) → SG P n ops Q rest ((d, v') :: L) w') : SG P n ops Q (⟨some d, .call { callee := .builtin .append, args := #[s, x], argTypes := #[t, t] }, ty, pos, af, g⟩ :: rest) L w := by
  refine SG.op (by simpa using hd) rfl hw (by simpa [Op.operands, Call.operands] using hk) ?_
  unfold OpRun
  obtain ⟨v', w', h2, h3, h4⟩ := run_append (P := P) (ty := ty) (d := .bool) (c := c) (u := u) (f := f) hz (Nat.eq_of_beq_eq_true hzs) (by simpa [Nat.blt_eq] using hsz) hown hl hr h1 h63 hbytes hbase
  have : (execOp (rho L) ⟨some d, .call { callee := .builtin .append, args := #[s, x], argTypes := #[t, t] }, ty, pos, af, g⟩).run P w = .ok (.value v') w' := by
    simp only [execOp, resolve, invoke, builtin, Sem.run_bind, Sem.run_pure, Result.andThen_ok, List.map_toArray, List.map_cons, List.map_nil, hs, hx, h2]
  rw [this]
  exact h v' w' h4 h3 (append_where (u := u) (f := f) hz hown hl hr h1 h63 hbytes h2)
end
/-- Two owned rows lie apart. -/
def Apart (v o : Value) : Prop := ∀ b, v.ownBlock = some b → o.ownBlock ≠ some b
/-- A block of another type is kept. -/
theorem blk_own {w w' : World} {base n sz : Nat} {T T' : TypeId} {v : Value} {xs : List Value} {z : Nat} {cs : Array Value} (ho : w.ownsRow base T sz v n xs) (hT : T' ≠ T) (hz : Blk w z (.cells cs T')) (hk : Kp (ownB v) w w') : Blk w' z (.cells cs T') := hz.kp hk (fun hm => by
  unfold ownB at hm
  cases hv : v.ownBlock with
  | none => rw [hv] at hm; cases hm
  | some g =>
    rw [hv, List.mem_singleton] at hm
    subst hm
    rcases ho.2 with ⟨rfl, _⟩ | ⟨g', cap, cur, rfl, _, hh, _⟩
    · cases hv
    · simp only [Value.ownBlock, Option.some.injEq] at hv
      subst hv
      have := Blk.uniq (o := .cells cs T') (o' := .cells cur T) hz hh
      simp only [Obj.cells.injEq] at this
      exact hT this.2.1)
end Go.Proofs.YtajllbdeoopimaaGreat
namespace Go.Proofs.YtajllbdeoopimaaGreat
set_option linter.unusedVariables false
/-- A string. -/
def sv (l : List UInt8) : Value := .string ⟨l.toArray⟩
section
variable {P : Program} {S : List Nat} {w0 : World} {F : World → Prop} {L : Env} {d : Option Nat} {ty : TypeId} {pos : String} {af : Array Edge} {g : Option (Nat × Bool)}
end
end Go.Proofs.YtajllbdeoopimaaGreat
namespace Go.Proofs.YtajllbdeoopimaaGreat
set_option linter.unusedVariables false
section
variable {P : Program} {n : Nat} {Q : Exit → Act → World → Prop} {L : Env} {w : World} {ops : List Oper} {rest : List Oper} {ty : TypeId} {pos : String} {af : Array Edge} {g : Option (Nat × Bool)}
/-- Nothing is appended. -/
theorem run_app0 {base sz : Nat} {t ty e : TypeId} {i : TypeInfo} [u : Ut P t (.slice e)] [f : Inf P e i] {v : Value} {nn : Nat} {xs : List Value} (hown : w.ownsRow base e sz v nn xs) (a2 : Option Addr) (c2 : Nat) : (Builtin.append_ #[t, t] ty #[v, .slice a2 0 c2]).run P w = .ok v w := by
  rcases hown.2 with ⟨rfl, rfl⟩ | ⟨g, cap, cur, rfl, hbg, hg, hnc, hcm, hcs, htake⟩
  · cases a2 <;> simp [Builtin.append_, run_underlying u.eq, sizeOf, typeInfo, f.eq, Builtin.lenOf, Builtin.firstCells, loadCells, loadCellsFrom]
  · cases a2 <;> simp [Builtin.append_, run_underlying u.eq, sizeOf, typeInfo, f.eq, Builtin.lenOf, Builtin.firstCells, loadCells, loadCellsFrom, hnc, storeCells]
/-- Any slice is appended to an owned row. -/
theorem SG.appO {α : Type} {enc : α → List Value} {base : Nat} {t e : TypeId} {i : TypeInfo} [u : Ut P t (.slice e)] [f : Inf P e i] {z : Value} {d : Nat} {s x : Operand} {v : Value} {xs ys : List α} {a2 : Option Addr} {m c2 : Nat}
    (hd : Nat.blt d n = true) (hw : want ops L ⟨some d, .call { callee := .builtin .append, args := #[s, x], argTypes := #[t, t] }, ty, pos, af, g⟩ = some true) (hk : (known L s && known L x) = true)
    (hs : rho L s = v) (hx : rho L x = .slice a2 m c2) (hm : m = ys.length) (hz : i.zero = some z) (hzs : Nat.beq z.cells.size i.size = true) (hsz : Nat.blt 0 i.size = true) (hel : ∀ x, (enc x).length = i.size) (hone : ∀ x, allOne (enc x) = true) (hown : w.ownsRow base e i.size v xs.length (flt enc xs)) (hS : Sl enc i.size w a2 ys)
    (h63 : xs.length + ys.length ≤ maxLen) (hbytes : (xs.length + ys.length) * i.bytes ≤ 140737488355328) (hbase : base ≤ w.heap.size)
    (h : ∀ v' w', Kp (ownB v) w w' → w'.ownsRow base e i.size v' (xs ++ ys).length (flt enc (xs ++ ys)) → (∀ g, v'.ownBlock = some g → v.ownBlock = some g ∨ g = w.heap.size) → SG P n ops Q rest ((d, v') :: L) w') : SG P n ops Q (⟨some d, .call { callee := .builtin .append, args := #[s, x], argTypes := #[t, t] }, ty, pos, af, g⟩ :: rest) L w := by
  subst hm
  cases ys with
  | nil =>
    refine SG.op (by simpa using hd) rfl hw (by simpa [Op.operands, Call.operands] using hk) ?_
    unfold OpRun
    have : (execOp (rho L) ⟨some d, .call { callee := .builtin .append, args := #[s, x], argTypes := #[t, t] }, ty, pos, af, g⟩).run P w = .ok (.value v) w := by
      simp only [execOp, resolve, invoke, builtin, Sem.run_bind, Sem.run_pure, Result.andThen_ok, List.map_toArray, List.map_cons, List.map_nil, hs, hx]
      have := run_app0 (P := P) (ty := ty) (u := u) (f := f) hown a2 c2
      simp only [List.length_nil]
      rw [this]
      rfl
    rw [this]
    exact h v w (Kp.refl _ _) (by rw [List.append_nil]; exact hown) (fun g hg => Or.inl hg)
  | cons y ys =>
    obtain ⟨b, off, rfl, _⟩ := hS.at (i := 0) (by simp)
    have hr := Sl.flat hel (by simp) hS
    refine SG.appendW hd hw hk hs hx hz hzs hsz hown hr (by rw [flt_length hel]) (flt_all hone _) h63 hbytes hbase (fun v' w' h1 h2 h3 => h v' w' h1 ?_ h3)
    rw [flt_append, List.length_append]
    exact h2
end
end Go.Proofs.YtajllbdeoopimaaGreat
namespace Go.Proofs.YtajllbdeoopimaaGreat
set_option linter.unusedVariables false
section
variable {P : Program} {n : Nat} {ops : List Oper} {Q : Exit → Act → World → Prop} {w0 : World} {L : Env} {G : List (Nat × GD)} {K : Env → List Fact → Prop} {Γ : List Fact} {i : Nat} {ord : List Nat} {ty : TypeId} {pos : String} {af : Array Edge} {g : Option (Nat × Bool)}
/-- What is promised of a slice written out: its block. -/
def gB (m : Nat) (E : TypeId) (k : Nat) (cs : Array Value) : GD := ⟨Nat, 0, fun b => .slice (some ⟨b, 0, none⟩) k k, fun b w => m ≤ b ∧ Blk w b (.cells cs E)⟩
/-- .. of something that holds such a slice. -/
def gW (m : Nat) (E : TypeId) (k : Nat) (cs : Array Value) (mk : Value → Value) : GD := ⟨Nat, 0, fun b => mk (.slice (some ⟨b, 0, none⟩) k k), fun b w => m ≤ b ∧ Blk w b (.cells cs E)⟩
/-- .. of a variable just made. -/
def gA (m : Nat) (T : TypeId) (cs : Array Value) : GD := ⟨Nat, 0, fun b => .pointer (some ⟨b, 0, none⟩), fun b w => m ≤ b ∧ Blk w b (.cells cs T)⟩
end
section
variable {P : Program} {S : List Nat} {w0 : World} {F : World → Prop} {L : Env} {d : Option Nat} {ty : TypeId} {pos : String} {af : Array Edge} {g : Option (Nat × Bool)}
end
end Go.Proofs.YtajllbdeoopimaaGreat
namespace Go.Proofs.YtajllbdeoopimaaGreat
set_option linter.unusedVariables false
section
variable {P : Program} {n : Nat} {ops : List Oper} {Q : Exit → Act → World → Prop} {w : World} {L : Env} {ty : TypeId} {pos : String} {af : Array Edge} {g : Option (Nat × Bool)} {rest : List Oper}
end
section
variable {P : Program} {S : List Nat} {w0 : World} {F : World → Prop} {L : Env} {d : Option Nat} {ty : TypeId} {pos : String} {af : Array Edge} {g : Option (Nat × Bool)}
end
end Go.Proofs.YtajllbdeoopimaaGreat
namespace Go.Proofs.YtajllbdeoopimaaGreat
set_option linter.unusedVariables false
section
variable {P : Program} {n : Nat} {ops : List Oper} {Q : Exit → Act → World → Prop} {w0 : World} {L : Env} {G : List (Nat × GD)} {K : Env → List Fact → Prop} {Γ : List Fact} {i : Nat} {ord : List Nat} {ty : TypeId} {pos : String} {af : Array Edge} {g : Option (Nat × Bool)}
/-- What is promised of the bytes of a string, and of what holds them. -/
def gT (l : List UInt8) (mk : Value → Value) : GD := ⟨Nat × Nat, (0, 0), fun q => mk (.slice (some ⟨q.1, 0, none⟩) l.length q.2), fun q w => Sl (fun u : UInt8 => [bv u]) 1 w (some ⟨q.1, 0, none⟩) l⟩
/-- .. of an owned row, and of what holds it. -/
def gOW {α : Type} (m : Nat) (E : TypeId) (enc : α → List Value) (sz : Nat) (l : List α) (mk : Value → Value) : GD := ⟨Value, undef, mk, fun v w => w.ownsRow m E sz v l.length (flt enc l)⟩
end
end Go.Proofs.YtajllbdeoopimaaGreat
namespace Go.Proofs.YtajllbdeoopimaaGreat
set_option linter.unusedVariables false
section
variable {P : Program} {n : Nat} {ops : List Oper} {Q : Exit → Act → World → Prop} {w0 : World} {L : Env} {G : List (Nat × GD)} {K : Env → List Fact → Prop} {Γ : List Fact} {i : Nat} {ord : List Nat} {ty : TypeId} {pos : String} {af : Array Edge} {g : Option (Nat × Bool)}
theorem gd_all {q : GD → Prop} {i : Nat} (h0 : q GD.none) : ∀ {G : List (Nat × GD)}, (∀ p ∈ G, p.1 ≠ i → q p.2) → ∀ j, j ≠ i → q (gdOf G j)
  | [], _, j, _ => h0
  | (k, D) :: G, h, j, hj => by
    unfold gdOf
    simp only [gdLook]
    by_cases e : k = j
    · subst e
      simp
      exact h _ List.mem_cons_self hj
    · have h1 : Nat.beq k j = false := by rw [← Bool.not_eq_true, Nat.beq_eq]; exact e
      rw [h1]
      exact gd_all h0 (fun p hp => h p (List.mem_cons_of_mem _ hp)) j hj
/-- A variable just made, whatever it comes to hold. -/
def gV (m : Nat) (T : TypeId) (k : Nat) : GD := ⟨Nat, 0, fun b => .pointer (some ⟨b, 0, none⟩), fun b w => m ≤ b ∧ ∃ cs, Blk w b (.cells cs T) ∧ cs.size = k⟩
theorem gV_stab {m : Nat} {T : TypeId} {k : Nat} (x : (gV m T k).X) : Stab [] ((gV m T k).phi x) := fun w w' hk ⟨h1, cs, h2, h3⟩ => ⟨h1, cs, h2.kp0 hk, h3⟩
theorem DerX.allocV {m d k : Nat} {T : TypeId} {inf : TypeInfo} [f : Inf P T inf] {z : Value} (hz : inf.zero = some z) (hzs : Nat.beq z.cells.size k = true) (hg : gdLook G i = some (gV m T k))
    (ho : ops[i]? = some ⟨some d, .alloc T, ty, pos, af, g⟩) (hw : want ops L ⟨some d, .alloc T, ty, pos, af, g⟩ = some true) (hm : m ≤ w0.heap.size)
    (h : ∀ b : Nat, DerX P w0 ops G K ord ((d, .pointer (some ⟨b, 0, none⟩)) :: L) ((i, fun w => m ≤ b ∧ ∃ cs, Blk w b (.cells cs T) ∧ cs.size = k) :: Γ)) : DerX P w0 ops G K (i :: ord) L Γ := by
  refine DerX.eff (gV m T k) hg ho hw (by simp [Op.operands]) (fun w h1 h2 => ?_) h
  unfold OpRun
  have : (execOp (rho L) ⟨some d, .alloc T, ty, pos, af, g⟩).run P w = .ok (.value (.pointer (some ⟨w.heap.size, 0, none⟩))) { w with heap := w.heap.push (.cells z.cells T) } := by
    simp [execOp, run_alloc hz, Result.andThen]
  rw [this]
  exact ⟨w.heap.size, rfl, ⟨Nat.le_trans hm h1.size, _, Blk.push w _, Nat.eq_of_beq_eq_true hzs⟩, Kp.push w _ rfl⟩
theorem gV_keep {m b k : Nat} {T : TypeId} {y : Nat} {w w' : World} {l : List Value} (hl : l.length = k) (hk : Kp [b] w w') (hb : Blk w' b (.cells l.toArray T)) (h : (gV m T k).phi y w) : (gV m T k).phi y w' := by
  obtain ⟨h1, cs, h2, h3⟩ := h
  by_cases e : y = b
  · subst e
    exact ⟨h1, _, hb, by simpa using hl⟩
  · exact ⟨h1, cs, h2.kp hk (nm1 e), h3⟩
/-- .. filled. -/
def gP (m : Nat) (T : TypeId) : GD := ⟨Nat × Array Value, (0, #[]), fun _ => undef, fun q w => m ≤ q.1 ∧ Blk w q.1 (.cells q.2 T)⟩
theorem gP_stab {m : Nat} {T : TypeId} (x : (gP m T).X) : Stab [] ((gP m T).phi x) := fun w w' hk h => ⟨h.1, h.2.kp0 hk⟩
theorem DerX.storeV {m b : Nat} {T : TypeId} {inf : TypeInfo} [f : Inf P T inf] {a x : Operand} {l : List Value} (hg : gdLook G i = some (gP m T))
    (ho : ops[i]? = some ⟨none, .store T a x, ty, pos, af, g⟩) (hw : want ops L ⟨none, .store T a x, ty, pos, af, g⟩ = some true) (hk : (known L a && known L x) = true) (ha : Γ.all (fun p => anc ops i p.1) = true)
    (hpa : rho L a = .pointer (some ⟨b, 0, none⟩)) (hx : rho L x = .agg l.toArray) (hn : l.length = inf.size) (hm : w0.heap.size ≤ m)
    (hF : ∀ w, Kp [] w0 w → Facts ops i Γ w → (m ≤ b ∧ ∃ cs, Blk w b (.cells cs T) ∧ cs.size = inf.size) ∧ allOne l = true)
    (hkeep : ∀ p ∈ G, p.1 ≠ i → ∀ y w w' cs, Blk w b (.cells cs T) → cs.size = inf.size → Kp [b] w w' → Blk w' b (.cells l.toArray T) → p.2.phi y w → p.2.phi y w')
    (h : DerX P w0 ops G K ord L ((i, fun w => m ≤ b ∧ Blk w b (.cells l.toArray T)) :: Γ)) : DerX P w0 ops G K (i :: ord) L Γ := by
  refine DerX.effD (gP m T) (b, l.toArray) hg ho hw (by simpa [Op.operands] using hk) ha (fun w h1 h2 => ?_) h
  obtain ⟨⟨g1, cs, g2, g3⟩, hone⟩ := hF w h1 h2
  unfold OpRun
  have hsp : (spl cs.toList 0 (Value.agg l.toArray).cells.toList) = l := by
    simp only [Value.cells]
    exact spl_all (by simp; omega)
  have hrun : (execOp (rho L) ⟨none, .store T a x, ty, pos, af, g⟩).run P w = .ok .skip { w with heap := w.heap.setIfInBounds b (.cells l.toArray T) } := by
    have := run_storeAt (P := P) (f := f) (off := 0) (v := .agg l.toArray) g2 (by simpa [Value.cells] using hn) (by simp [Value.cells]; omega) (by simpa [Value.cells] using hone)
    rw [hsp] at this
    simp only [execOp, hx, hpa, Sem.run_bind, this, Result.andThen, Sem.run_pure]
  rw [hrun]
  have hk' := Kp.set w (o' := .cells l.toArray T) g2 rfl rfl
  exact ⟨rfl, ⟨g1, g2.set _⟩, h1.trans_new hk' (new1 (by omega)), fun j y hj hp => gd_all (q := fun D => ∀ y, D.phi y w → D.phi y _) (fun _ _ => trivial) (fun p hp hne y hy => hkeep p hp hne y w _ cs g2 g3 hk' (g2.set _) hy) j hj y hp⟩
/-- An owned row, as the slice that it is, and what holds it. -/
def gOP {α : Type} (m : Nat) (E : TypeId) (enc : α → List Value) (sz : Nat) (l : List α) (mk : Value → Value) : GD := ⟨Option Addr × Nat, (none, 0), fun q => mk (.slice q.1 l.length q.2), fun q w => w.ownsRow m E sz (.slice q.1 l.length q.2) l.length (flt enc l)⟩
end
end Go.Proofs.YtajllbdeoopimaaGreat
namespace Go.Proofs.YtajllbdeoopimaaGreat
set_option linter.unusedVariables false
/-- In place. -/
def Room (e : TypeId) (w : World) (v v' : Value) (n m : Nat) : Prop := ∃ g cap cur, v = .slice (some ⟨g, 0, none⟩) n cap ∧ Blk w g (.cells cur e) ∧ n + m ≤ cap ∧ v' = .slice (some ⟨g, 0, none⟩) (n + m) cap
theorem run_appendR {P : Program} {w : World} {base : Nat} {t ty e : TypeId} {i : TypeInfo} [u : Ut P t (.slice e)] [f : Inf P e i] {z : Value} (hz : i.zero = some z) (hzs : z.cells.size = i.size) (hsz : 0 < i.size)
    {v : Value} {n : Nat} {xs : List Value} (hown : w.ownsRow base e i.size v n xs) {b off m c : Nat} {news : List Value} (hl : news.length = m * i.size) (hr : Row w b off news) (h1 : allOne news = true) (hm : 0 < m)
    (h63 : n + m ≤ maxLen) (hbytes : (n + m) * i.bytes ≤ 140737488355328) (hbase : base ≤ w.heap.size) :
    ∃ v' w', (Builtin.append_ #[t, t] ty #[v, .slice (some ⟨b, off, none⟩) m c]).run P w = .ok v' w' ∧ w'.ownsRow base e i.size v' (n + m) (xs ++ news) ∧ Kp (ownB v) w w' ∧ (Kp [] w w' ∨ Room e w v v' n m) := by
  obtain ⟨v', w', hrun, hown', hkp⟩ := run_append (P := P) (ty := ty) (d := .bool) (c := c) (u := u) (f := f) hz hzs hsz hown hl hr h1 h63 hbytes hbase
  refine ⟨v', w', hrun, hown', hkp, ?_⟩
  have hnews : ∀ j u, news[j]? = some u → w.cell? ((⟨b, off, none⟩ : Addr).add j) = some u := fun j u hu => by rw [add_none]; exact hr.cell hu
  have h1' : ∀ u ∈ news, u.oneCell' = true := fun u hu => by rw [one_iff]; exact List.all_eq_true.1 h1 u hu
  rcases hown.2 with ⟨rfl, rfl⟩ | ⟨g, cap, cur, rfl, hbg, hg, hnc, hcm, hcs, htake⟩
  · exact Or.inl (by simpa [ownB, Value.ownBlock] using hkp)
  · by_cases hroom : n + m ≤ cap
    · have hfit : n * i.size + news.length ≤ cur.size := by rw [hl, hcs, ← Nat.add_mul]; exact Nat.mul_le_mul_right _ hroom
      have hr2 := run_append_room (P := P) w t ty e i u.eq f.eq g n cap cur hg ⟨b, off, none⟩ m c news hl hnews h1' hroom hfit
      rw [hr2] at hrun
      cases hrun
      exact Or.inr ⟨g, cap, cur, rfl, hg, hroom, rfl⟩
    · have holds : ∀ j u, xs[j]? = some u → w.cell? ((⟨g, 0, none⟩ : Addr).add j) = some u := hown.cells (g := g) rfl
      have hr2 := run_append_grow (P := P) w t ty e i z u.eq f.eq hz ⟨g, 0, none⟩ n cap xs hown.1 holds ⟨b, off, none⟩ m c news hl hnews (by omega) (by simp only [maxLen] at h63; omega) (growslice_fits (by omega) hbytes)
      rw [hr2] at hrun
      cases hrun
      exact Or.inl (Kp.alloc_drew w _ rfl)
section
variable {w w' : World} {base n m sz : Nat} {e : TypeId} {v v' : Value} {xs news : List Value}
end
/-- A nil slice from 0 on. -/
theorem vals_fromnil {P : Program} {S : List Nat} {w0 : World} {F : World → Prop} {L : Env} {d : Option Nat} {ty : TypeId} {pos : String} {af : Array Edge} {g : Option (Nat × Bool)} {T E : TypeId} [u : Ut P T (.slice E)] {sz : Nat} [f : Sz P E sz] {x lo : Operand} (hx : ro L x = some (.slice none 0 0)) (hlo : ro L lo = some (.int .i64 0)) :
    Vals P S w0 F L ⟨d, .slice T x (some lo) none none, ty, pos, af, g⟩ (.slice none 0 0) := fun w _ _ => by
  obtain ⟨i, h2, h3⟩ := f.eq
  simp [execOp, rho_of hx, rho_of hlo, Instr.sliceAt, run_underlying u.eq, Instr.slice, Instr.sliceBounds, Instr.sliceBound, asIntOf, sizeOf, typeInfo, h2]
section
variable {P : Program} {n : Nat} {ops : List Oper} {Q : Exit → Act → World → Prop} {w0 : World} {L : Env} {G : List (Nat × GD)} {K : Env → List Fact → Prop} {Γ : List Fact} {i : Nat} {ord : List Nat} {ty : TypeId} {pos : String} {af : Array Edge} {g : Option (Nat × Bool)}
end
end Go.Proofs.YtajllbdeoopimaaGreat
namespace Go.Proofs.YtajllbdeoopimaaGreat
set_option linter.unusedVariables false
section
variable {α : Type} {enc : α → List Value} {sz : Nat}
theorem flt_set (he : ∀ x, (enc x).length = sz) (l : List α) (k : Nat) (hk : k < l.length) (x : α) (pre post : List Value) : spl (pre ++ (flt enc l ++ post)) (pre.length + k * sz) (enc x) = pre ++ (flt enc (l.set k x) ++ post) := by
  have h1 : pre ++ (flt enc l ++ post) = (pre ++ flt enc (l.take k)) ++ (enc l[k] ++ (flt enc (l.drop (k + 1)) ++ post)) := by rw [flt_split l k hk]; simp
  have h2 : (pre ++ flt enc (l.take k)).length = pre.length + k * sz := by
    rw [List.length_append, flt_length he, List.length_take, Nat.min_eq_left (by omega)]
  rw [h1, ← h2, spl_mid (by simp [he])]
  rw [List.set_eq_take_append_cons_drop, if_pos hk]
  simp [flt]
theorem own_slice {w : World} {base n : Nat} {T : TypeId} {v : Value} {xs : List Value} (ho : w.ownsRow base T sz v n xs) (hn : 0 < n) : ∃ g cap, v = .slice (some ⟨g, 0, none⟩) n cap ∧ n ≤ cap := by
  rcases ho.2 with ⟨_, h⟩ | ⟨g, cap, cur, h, _, _, h2, _⟩
  · omega
  · exact ⟨g, cap, h, h2⟩
theorem own_at {w : World} {base cap g : Nat} {T : TypeId} {l : List α} {n : Nat} (he : ∀ x, (enc x).length = sz) (ho : w.ownsRow base T sz (.slice (some ⟨g, 0, none⟩) n cap) n (flt enc l)) (hn : l.length = n) {k : Nat} (hk : k < l.length) : Row w g (0 + k * sz) (enc l[k]) := by
  obtain ⟨a, c, h1, _, hS⟩ := Sl.own he ho hn
  cases h1
  exact hS.row (List.getElem?_eq_getElem hk)
/-- One is written over. -/
theorem own_store {P : Program} {w : World} {base cap g n : Nat} {T : TypeId} {inf : TypeInfo} [f : Inf P T inf] {l : List α} (he : ∀ x, (enc x).length = inf.size) (hone : ∀ x, allOne (enc x) = true) (ho : w.ownsRow base T inf.size (.slice (some ⟨g, 0, none⟩) n cap) n (flt enc l)) (hn : l.length = n) {k : Nat} (hk : k < l.length) (x : α) :
    ∃ w', (Instr.storeAt T (.pointer (some ⟨g, 0 + k * inf.size, none⟩)) (.agg (enc x).toArray)).run P w = .ok () w' ∧ w'.ownsRow base T inf.size (.slice (some ⟨g, 0, none⟩) n cap) n (flt enc (l.set k x)) ∧ Kp [g] w w' := by
  rcases ho with ⟨h1, ⟨h2, _⟩ | ⟨g', cap', cur, h2, hb, hg, hc1, hc2, hc3, hc4⟩⟩
  · cases h2
  · cases h2
    have hB : Blk w g (.cells cur T) := hg
    have hlt : k * inf.size + inf.size ≤ n * inf.size := by
      have : (k + 1) * inf.size ≤ n * inf.size := Nat.mul_le_mul_right _ (by omega)
      rwa [Nat.add_mul, Nat.one_mul] at this
    have hle : n * inf.size ≤ cap * inf.size := Nat.mul_le_mul_right _ hc1
    have hcells : (Value.agg (enc x).toArray).cells.toList = enc x := by simp [Value.cells]
    have hrun := run_storeAt (P := P) (T := T) (off := 0 + k * inf.size) (v := .agg (enc x).toArray) hB (by rw [hcells]; exact he x) (by rw [hcells, he x]; omega) (by rw [hcells]; exact hone x)
    rw [hcells] at hrun
    refine ⟨_, hrun, ⟨by rw [flt_length he, List.length_set, hn], Or.inr ⟨g, cap, _, rfl, hb, hB.set _, hc1, hc2, ?_, ?_⟩⟩, Kp.set w hB rfl rfl⟩
    · have := spl_length (cs := cur.toList) (off := 0 + k * inf.size) (l := enc x) (by rw [he x]; simp; omega)
      rw [List.size_toArray, this]
      simpa using hc3
    · have hsplit : cur.toList = [] ++ (flt enc l ++ cur.toList.drop (n * inf.size)) := by
        rw [List.nil_append]
        conv => lhs; rw [← List.take_append_drop (n * inf.size) cur.toList]
        rw [hc4]
      have hset := flt_set he l k hk x [] (cur.toList.drop (n * inf.size))
      rw [← hsplit, List.length_nil, List.nil_append] at hset
      rw [List.toList_toArray, hset]
      refine (List.take_append_of_le_length ?_).trans (List.take_of_length_le ?_)
      · rw [flt_length he, List.length_set, hn]; exact Nat.le_refl _
      · rw [flt_length he, List.length_set, hn]; exact Nat.le_refl _
end
section
variable {P : Program} {α : Type} {enc : α → List Value} {m : Nat} {Q : Exit → Act → World → Prop} {ops rest : List Oper} {L : Env} {w : World} {ty : TypeId} {pos : String} {af : Array Edge} {q : Option (Nat × Bool)}
/-- .. in text order. -/
theorem SG.storeO {base cap g n : Nat} {T : TypeId} {inf : TypeInfo} [f : Inf P T inf] {l : List α} {a x : Operand} {y : α} {k o : Nat} (he : ∀ x, (enc x).length = inf.size) (hone : ∀ x, allOne (enc x) = true) (hw : want ops L ⟨none, .store T a x, ty, pos, af, q⟩ = some true) (hk : (known L a && known L x) = true)
    (ha : rho L a = .pointer (some ⟨g, o, none⟩)) (ho' : o = 0 + k * inf.size) (hx : rho L x = .agg (enc y).toArray) (ho : w.ownsRow base T inf.size (.slice (some ⟨g, 0, none⟩) n cap) n (flt enc l)) (hn : l.length = n) (hkl : k < l.length)
    (h : ∀ w', Kp [g] w w' → w'.ownsRow base T inf.size (.slice (some ⟨g, 0, none⟩) n cap) n (flt enc (l.set k y)) → SG P m ops Q rest L w') : SG P m ops Q (⟨none, .store T a x, ty, pos, af, q⟩ :: rest) L w := by
  subst ho'
  refine SG.op rfl rfl hw (by simpa [Op.operands] using hk) ?_
  obtain ⟨w', h1, h2, h3⟩ := own_store (P := P) he hone ho hn hkl y
  unfold OpRun
  have : (execOp (rho L) ⟨none, .store T a x, ty, pos, af, q⟩).run P w = .ok .skip w' := by
    simp only [execOp, hx, ha, Sem.run_bind, h1, Result.andThen, Sem.run_pure]
  rw [this]
  exact h w' h3 h2
end
end Go.Proofs.YtajllbdeoopimaaGreat
namespace Go.Proofs.YtajllbdeoopimaaGreat
set_option linter.unusedVariables false
theorem zeroCells_length (z : Array Value) (m : Nat) : (Builtin.zeroCells z m).toList.length = m * z.size := by simp [Builtin.zeroCells]
theorem zeroCells_one {z : Array Value} (hz : allOne z.toList = true) (m : Nat) : allOne (Builtin.zeroCells z m).toList = true := by
  unfold allOne
  rw [List.all_eq_true]
  intro v hv
  simp only [Builtin.zeroCells, Array.toList_map, List.mem_map] at hv
  obtain ⟨i, hi, rfl⟩ := hv
  have hi : i < m * z.size := by simpa using hi
  have h0 : 0 < z.size := by
    rcases Nat.eq_zero_or_pos z.size with h | h
    · rw [h] at hi; omega
    · exact h
  have hlt : i % z.size < z.size := Nat.mod_lt _ h0
  rw [getElem!_pos z _ hlt]
  exact List.all_eq_true.1 hz _ (by simp)
/-- The first i of an owned row. -/
theorem own_take {α : Type} {enc : α → List Value} {w : World} {base g n cap : Nat} {T : TypeId} {sz : Nat} {l : List α} (he : ∀ x, (enc x).length = sz) (ho : w.ownsRow base T sz (.slice (some ⟨g, 0, none⟩) n cap) n (flt enc l)) (hn : l.length = n) {i : Nat} (hi : i ≤ n) : w.ownsRow base T sz (.slice (some ⟨g, 0, none⟩) i cap) i (flt enc (l.take i)) := by
  rcases ho with ⟨h1, ⟨h2, _⟩ | ⟨g', cap', cur, h2, hb, hg, hc1, hc2, hc3, hc4⟩⟩
  · cases h2
  · cases h2
    refine ⟨by rw [flt_length he, List.length_take]; rw [Nat.min_eq_left (by omega)], Or.inr ⟨g, cap, cur, rfl, hb, hg, by omega, hc2, hc3, ?_⟩⟩
    have h3 : i * sz ≤ n * sz := Nat.mul_le_mul_right _ hi
    have : cur.toList.take (i * sz) = (flt enc l).take (i * sz) := by rw [← hc4, List.take_take, Nat.min_eq_left h3]
    rw [this]
    have e : flt enc l = flt enc (l.take i) ++ flt enc (l.drop i) := by rw [← flt_append, List.take_append_drop]
    have hl : (flt enc (l.take i)).length = i * sz := by rw [flt_length he, List.length_take, Nat.min_eq_left (by omega)]
    rw [e, List.take_append_of_le_length (by omega), ← hl, List.take_length]
section
variable {P : Program} {α : Type} {enc : α → List Value} {m : Nat} {Q : Exit → Act → World → Prop} {ops rest : List Oper} {L : Env} {w : World} {ty : TypeId} {pos : String} {af : Array Edge} {q : Option (Nat × Bool)}
end
end Go.Proofs.YtajllbdeoopimaaGreat
namespace Go.Proofs.YtajllbdeoopimaaGreat
set_option linter.unusedVariables false
section
variable {P : Program} {α : Type} {enc : α → List Value} {n : Nat} {Q : Exit → Act → World → Prop} {ops rest : List Oper} {L : Env} {w : World} {ty : TypeId} {pos : String} {af : Array Edge} {q : Option (Nat × Bool)}
theorem SG.appRoom {base : Nat} {t e : TypeId} {inf : TypeInfo} [u : Ut P t (.slice e)] [f : Inf P e inf] {z : Value} {d : Nat} {s x : Operand} {g cap nn m c2 : Nat} {a2 : Option Addr} {xs ys : List α}
    (hd : Nat.blt d n = true) (hw : want ops L ⟨some d, .call { callee := .builtin .append, args := #[s, x], argTypes := #[t, t] }, ty, pos, af, q⟩ = some true) (hk : (known L s && known L x) = true)
    (hs : rho L s = .slice (some ⟨g, 0, none⟩) nn cap) (hx : rho L x = .slice a2 m c2) (hm : m = ys.length) (hz : inf.zero = some z) (hzs : Nat.beq z.cells.size inf.size = true) (hsz : Nat.blt 0 inf.size = true) (hel : ∀ x, (enc x).length = inf.size) (hone : ∀ x, allOne (enc x) = true)
    (hown : w.ownsRow base e inf.size (.slice (some ⟨g, 0, none⟩) nn cap) nn (flt enc xs)) (hn : xs.length = nn) (hS : Sl enc inf.size w a2 ys) (hroom : nn + ys.length ≤ cap) (h63 : nn + ys.length ≤ maxLen) (hbytes : (nn + ys.length) * inf.bytes ≤ 140737488355328) (hbase : base ≤ w.heap.size)
    (h : ∀ w', Kp [g] w w' → w'.ownsRow base e inf.size (.slice (some ⟨g, 0, none⟩) (nn + m) cap) (nn + m) (flt enc (xs ++ ys)) → SG P n ops Q rest ((d, .slice (some ⟨g, 0, none⟩) (nn + m) cap) :: L) w') : SG P n ops Q (⟨some d, .call { callee := .builtin .append, args := #[s, x], argTypes := #[t, t] }, ty, pos, af, q⟩ :: rest) L w := by
  subst hm
  refine SG.op (by simpa using hd) rfl hw (by simpa [Op.operands, Call.operands] using hk) ?_
  unfold OpRun
  have key : ∃ w', (Builtin.append_ #[t, t] ty #[.slice (some ⟨g, 0, none⟩) nn cap, .slice a2 ys.length c2]).run P w = .ok (.slice (some ⟨g, 0, none⟩) (nn + ys.length) cap) w' ∧ Kp [g] w w' ∧ w'.ownsRow base e inf.size (.slice (some ⟨g, 0, none⟩) (nn + ys.length) cap) (nn + ys.length) (flt enc (xs ++ ys)) := by
    cases ys with
    | nil =>
      refine ⟨w, ?_, Kp.refl _ _, ?_⟩
      · have := run_app0 (P := P) (ty := ty) (u := u) (f := f) hown a2 c2
        simpa using this
      · simpa using hown
    | cons y ys =>
      obtain ⟨b, off, rfl, _⟩ := hS.at (i := 0) (by simp)
      have hr := Sl.flat hel (by simp) hS
      have hl : (flt enc (y :: ys)).length = (y :: ys).length * inf.size := flt_length hel _
      obtain ⟨v', w', hrun, hown', hkp⟩ := run_append (P := P) (ty := ty) (d := .bool) (c := c2) (u := u) (f := f) hz (Nat.eq_of_beq_eq_true hzs) (by simpa [Nat.blt_eq] using hsz) hown hl hr (flt_all hone _) h63 hbytes hbase
      have hnews : ∀ j u, (flt enc (y :: ys))[j]? = some u → w.cell? ((⟨b, off, none⟩ : Addr).add j) = some u := fun j u hu => by rw [add_none]; exact hr.cell hu
      have h1' : ∀ u ∈ flt enc (y :: ys), u.oneCell' = true := fun u hu => by rw [one_iff]; exact List.all_eq_true.1 (flt_all hone _) u hu
      rcases hown.2 with ⟨h2, _⟩ | ⟨g', cap', cur, h2, hbg, hg, hnc, hcm, hcs, htake⟩
      · cases h2
      · cases h2
        have hfit : nn * inf.size + (flt enc (y :: ys)).length ≤ cur.size := by rw [hl, hcs, ← Nat.add_mul]; exact Nat.mul_le_mul_right _ hroom
        have hr2 := run_append_room (P := P) w t ty e inf u.eq f.eq g nn cap cur hg ⟨b, off, none⟩ (y :: ys).length c2 _ hl hnews h1' hroom hfit
        rw [hr2] at hrun
        cases hrun
        refine ⟨_, hr2, ?_, by rw [flt_append]; exact hown'⟩
        simpa [ownB, Value.ownBlock] using hkp
  obtain ⟨w', hrun, hk2, ho2⟩ := key
  have : (execOp (rho L) ⟨some d, .call { callee := .builtin .append, args := #[s, x], argTypes := #[t, t] }, ty, pos, af, q⟩).run P w = .ok (.value (.slice (some ⟨g, 0, none⟩) (nn + ys.length) cap)) w' := by
    simp only [execOp, resolve, invoke, builtin, Sem.run_bind, Sem.run_pure, Result.andThen_ok, List.map_toArray, List.map_cons, List.map_nil, hs, hx, hrun]
  rw [this]
  exact h w' hk2 ho2
/-- 's[j:m:q]' -/
theorem qf3 {S : List Nat} {w0 : World} {F : World → Prop} {d : Option Nat} {T E : TypeId} [u : Ut P T (.slice E)] {sz : Nat} [f : Sz P E sz] {x lo hi mx : Operand} {b off n c : Nat} {k k' k'' : IntKind} {z z' z'' : Int} {j m r : Nat} (hx : ro L x = some (.slice (some ⟨b, off, none⟩) n c)) (hlo : ro L lo = some (.int k z)) (hhi : ro L hi = some (.int k' z')) (hmx : ro L mx = some (.int k'' z'')) (hz : z = (j : Int)) (hz' : z' = (m : Int)) (hz'' : z'' = (r : Int)) (hj : j ≤ m ∧ m ≤ r ∧ r ≤ c) :
    Vals P S w0 F L ⟨d, .slice T x (some lo) (some hi) (some mx), ty, pos, af, q⟩ (.slice (some ⟨b, if r = j then off else off + j * sz, none⟩) (m - j) (r - j)) := fun w _ _ => by
  obtain ⟨i, h2, h3⟩ := f.eq
  obtain ⟨q1, q2, q3⟩ := hj
  subst h3
  subst hz
  subst hz'
  subst hz''
  simp only [execOp, rho_of hx, Option.map_some, Option.map_none, rho_of hlo, rho_of hhi, rho_of hmx, Instr.sliceAt, Sem.run_bind, run_underlying u.eq, Result.andThen, Instr.slice, Instr.sliceBounds, Instr.sliceBound, asIntOf, Sem.run_pure]
  have h4 : (0 : Int) ≤ (r : Int) ∧ (r : Int) ≤ (c : Int) := ⟨by omega, by omega⟩
  simp only [h4, and_self, if_true, Sem.run_pure, Int.toNat_natCast]
  have h5 : (0 : Int) ≤ (m : Int) ∧ (m : Int) ≤ (r : Int) := ⟨by omega, by omega⟩
  simp only [h5, and_self, if_true, Sem.run_pure, Int.toNat_natCast]
  have h6 : (0 : Int) ≤ (j : Int) ∧ (j : Int) ≤ (m : Int) := ⟨by omega, by omega⟩
  simp only [h6, and_self, if_true, Sem.run_pure, sizeOf, typeInfo, Sem.run_bind, run_program, Result.andThen, h2, Int.toNat_natCast]
  by_cases hc : r = j
  · subst hc; simp
  · simp [hc, add_none]
/-- 'clear' of what stands behind an owned row, in its block. -/
theorem SG.clearT {base cap g k m : Nat} {t T : TypeId} {inf : TypeInfo} [u : Ut P t (.slice T)] [f : Inf P T inf] {z : Value} {xs : List Value} {x : Operand} {c2 : Nat} (hw : want ops L ⟨none, .call { callee := .builtin .clear, args := #[x], argTypes := #[t] }, ty, pos, af, q⟩ = some true) (hk : known L x = true)
    (hx : rho L x = .slice (some ⟨g, k * inf.size, none⟩) (m + 1) c2) (hz : inf.zero = some z) (hzs : Nat.beq z.cells.size inf.size = true) (hone : allOne z.cells.toList = true) (ho : w.ownsRow base T inf.size (.slice (some ⟨g, 0, none⟩) k cap) k xs) (hroom : k + (m + 1) ≤ cap)
    (h : ∀ w', Kp [g] w w' → w'.ownsRow base T inf.size (.slice (some ⟨g, 0, none⟩) k cap) k xs → SG P n ops Q rest L w') : SG P n ops Q (⟨none, .call { callee := .builtin .clear, args := #[x], argTypes := #[t] }, ty, pos, af, q⟩ :: rest) L w := by
  refine SG.op rfl rfl hw (by simpa [Op.operands, Call.operands] using hk) ?_
  unfold OpRun
  rcases ho with ⟨h1, ⟨h2, _⟩ | ⟨g', cap', cur, h2, hb, hg, hc1, hc2, hc3, hc4⟩⟩
  · cases h2
  · cases h2
    have hB : Blk w g (.cells cur T) := hg
    have hsz := Nat.eq_of_beq_eq_true hzs
    have hlen : (Builtin.zeroCells z.cells (m + 1)).toList.length = (m + 1) * inf.size := by rw [zeroCells_length, hsz]
    have hle : (k + (m + 1)) * inf.size ≤ cap * inf.size := Nat.mul_le_mul_right _ hroom
    have hsum : k * inf.size + (m + 1) * inf.size = (k + (m + 1)) * inf.size := by rw [← Nat.add_mul]
    have hst := run_storeCells (P := P) (b := g) (off := k * inf.size) (T := T) (Builtin.zeroCells z.cells (m + 1)).toList 0 w cur hB (by rw [hlen]; omega) (zeroCells_one hone _)
    simp only [Nat.add_zero] at hst
    have hclear : (Builtin.clear_ #[t] ty #[.slice (some ⟨g, k * inf.size, none⟩) (m + 1) c2]).run P w = .ok (.tuple #[]) { w with heap := w.heap.setIfInBounds g (.cells (spl cur.toList (k * inf.size) (Builtin.zeroCells z.cells (m + 1)).toList).toArray T) } := by
      simp only [Builtin.clear_, List.getElem?_toArray, List.getElem?_cons_zero, Sem.run_bind, run_underlying u.eq, Result.andThen_ok, run_zero hz, hst, Sem.run_pure]
    have : (execOp (rho L) ⟨none, .call { callee := .builtin .clear, args := #[x], argTypes := #[t] }, ty, pos, af, q⟩).run P w = .ok (.value (.tuple #[])) { w with heap := w.heap.setIfInBounds g (.cells (spl cur.toList (k * inf.size) (Builtin.zeroCells z.cells (m + 1)).toList).toArray T) } := by
      simp only [execOp, resolve, invoke, builtin, Sem.run_bind, Sem.run_pure, Result.andThen_ok, List.map_toArray, List.map_cons, List.map_nil, hx, hclear]
    rw [this]
    refine h _ (Kp.set w hB rfl rfl) ⟨h1, Or.inr ⟨g, cap, _, rfl, hb, hB.set _, hc1, hc2, ?_, ?_⟩⟩
    · have := spl_length (cs := cur.toList) (off := k * inf.size) (l := (Builtin.zeroCells z.cells (m + 1)).toList) (by rw [hlen]; simp; omega)
      rw [List.size_toArray, this]
      simpa using hc3
    · rw [List.toList_toArray]
      unfold spl
      rw [List.take_append_of_le_length (by rw [List.length_take]; simp; omega), List.take_take, Nat.min_self]
      exact hc4
end
end Go.Proofs.YtajllbdeoopimaaGreat
namespace Go.Proofs.YtajllbdeoopimaaGreat
set_option linter.unusedVariables false
section
variable {P : Program} {n : Nat} {Q : Exit → Act → World → Prop} {L : Env} {w w0 : World} {ops rest : List Oper} {ty : TypeId} {pos : String} {af : Array Edge} {g : Option (Nat × Bool)} {S : List Nat} {F : World → Prop}
/-- A function value. -/
def fnv (f : FuncId) (caps : List Value) : Value := .func (.func f) #[] caps.toArray
theorem ro_map : ∀ {cs : List Operand} {vs : List Value}, cs.map (ro L) = vs.map some → cs.map (rho L) = vs
  | [], vs, h => by cases vs <;> simp at h ⊢
  | x :: cs, [], h => by simp at h
  | x :: cs, v :: vs, h => by
    simp only [List.map_cons, List.cons.injEq] at h ⊢
    exact ⟨rho_of h.1, ro_map h.2⟩
theorem qmf {d : Option Nat} {f : FuncId} {cs : List Operand} {vs : List Value} (h : cs.map (ro L) = vs.map some) : Vals P S w0 F L ⟨d, .makeFunc (.func f) #[] cs.toArray, ty, pos, af, g⟩ (fnv f vs) := fun w _ _ => by
  have e : cs.map (rho L) = vs := ro_map h
  simp [execOp, Instr.makeFunc, fnv, e]
theorem run_callV {f : FuncId} [Fn : Fnc P f] {x : Operand} {args : List Operand} {vs caps : List Value} {tys : Array TypeId} {d : Option Nat} (hf : rho L x = fnv f caps) (he : Evs L args vs) :
    (execOp (rho L) ⟨d, .call ⟨.value x, args.toArray, tys⟩, ty, pos, af, g⟩).run P w = .ok (.enter f (vs ++ caps).toArray) w := by
  simp only [execOp, resolve, hf, fnv, Deferred.ofValue, he.arr]
  simp [invoke, Fn.run]
/-- A call of a function value in text order. -/
theorem SG.callV {d : Nat} {f : FuncId} [Fn : Fnc P f] {x : Operand} {args : List Operand} {vs caps : List Value} {tys : Array TypeId} (hd : Nat.blt d n = true) (hw : want ops L ⟨some d, .call ⟨.value x, args.toArray, tys⟩, ty, pos, af, g⟩ = some true) (hk : (Op.call ⟨.value x, args.toArray, tys⟩).operands.toList.all (known L) = true)
    (hf : rho L x = fnv f caps) (he : Evs L args vs) (hc : Calls P f (vs ++ caps).toArray w (fun e w' => ∃ v, e = .returned v ∧ SG P n ops Q rest ((d, v) :: L) w')) : SG P n ops Q (⟨some d, .call ⟨.value x, args.toArray, tys⟩, ty, pos, af, g⟩ :: rest) L w := by
  refine SG.op (by simpa using hd) rfl hw hk ?_
  unfold OpRun
  rw [run_callV (Fn := Fn) hf he]
  exact hc
theorem SG.retVC {d : Nat} {f : FuncId} [Fn : Fnc P f] {x : Operand} {args : List Operand} {vs caps : List Value} {tys : Array TypeId} {v : Value} (hd : Nat.blt d n = true) (hw : want ops L ⟨some d, .call ⟨.value x, args.toArray, tys⟩, ty, pos, af, g⟩ = some true) (hk : (Op.call ⟨.value x, args.toArray, tys⟩).operands.toList.all (known L) = true)
    (hf : rho L x = fnv f caps) (he : Evs L args vs) (hc : Ret P f (vs ++ caps).toArray w v) (h : ∀ w', Kp [] w w' → SG P n ops Q rest ((d, v) :: L) w') : SG P n ops Q (⟨some d, .call ⟨.value x, args.toArray, tys⟩, ty, pos, af, g⟩ :: rest) L w :=
  SG.callV (Fn := Fn) hd hw hk hf he (hc.mono (fun e w' ⟨h1, h2⟩ => ⟨v, h1, h w' h2⟩))
end
end Go.Proofs.YtajllbdeoopimaaGreat
namespace Go.Proofs.YtajllbdeoopimaaGreat
set_option linter.unusedVariables false
theorem own_neb {w : World} {base n sz : Nat} {T T' : TypeId} {v : Value} {xs : List Value} {z : Nat} {cs : Array Value} (ho : w.ownsRow base T sz v n xs) (hT : T' ≠ T) (hz : Blk w z (.cells cs T')) : ∀ b, v.ownBlock = some b → b ∉ [z] := by
  intro b hb hm
  rw [List.mem_singleton] at hm
  subst hm
  rcases ho.2 with ⟨rfl, _⟩ | ⟨g, cap, cur, rfl, _, hg, _⟩
  · cases hb
  · cases hb
    have := hz.uniq hg
    simp only [Obj.cells.injEq] at this
    exact hT this.2.1
theorem own_lt {w : World} {base n sz : Nat} {T : TypeId} {v : Value} {xs : List Value} (ho : w.ownsRow base T sz v n xs) : ∀ b, v.ownBlock = some b → b < w.heap.size := by
  intro b hb
  rcases ho.2 with ⟨rfl, _⟩ | ⟨g, cap, cur, rfl, _, hg, _⟩
  · cases hb
  · cases hb
    exact (Array.getElem?_eq_some_iff.1 hg).1
theorem own_geB {w : World} {base n : Nat} {v : Value} {sz : Nat} {T : TypeId} {xs : List Value} (ho : w.ownsRow base T sz v n xs) : ∀ b, v.ownBlock = some b → base ≤ b := by
  intro b hb
  rcases ho.2 with ⟨rfl, _⟩ | ⟨g', c, cur, rfl, hg, _⟩
  · cases hb
  · cases hb
    exact hg
theorem own_neb' {w : World} {base n : Nat} {v : Value} {sz z : Nat} {T : TypeId} {xs : List Value} (ho : w.ownsRow base T sz v n xs) (hz : z < base) : ∀ b, v.ownBlock = some b → b ∉ [z] := fun b hb => nm1 (by have := own_geB ho b hb; omega)
theorem Sl.kpN {α : Type} {enc : α → List Value} {sz : Nat} {S : List Nat} {w w' : World} {a : Option Addr} {l : List α} (h : Sl enc sz w a l) (hk : Kp S w w') (hb : l ≠ [] → ∀ b off, a = some ⟨b, off, none⟩ → b ∉ S) : Sl enc sz w' a l := by
  cases l with
  | nil => exact Sl.nil
  | cons x l => exact h.kp hk (hb (by simp))
theorem sl_one {α : Type} {enc : α → List Value} {sz : Nat} (he : ∀ x, (enc x).length = sz) {w : World} {b : Nat} {T : TypeId} {x : α} (h : Blk w b (.cells (enc x).toArray T)) : Sl enc sz w (some ⟨b, 0, none⟩) [x] := fun i y hy => by
  cases i with
  | zero =>
    cases hy
    exact ⟨b, 0, rfl, by rw [Nat.zero_mul]; exact Row.all h rfl⟩
  | succ i => simp at hy
/-- The block of a slice, if there is anything in it, is of a type. -/
def Ty {α : Type} (T : TypeId) (w : World) (a : Option Addr) (l : List α) : Prop := l ≠ [] → ∀ b off, a = some ⟨b, off, none⟩ → ∃ cs f, w.heap[b]? = some (.cells cs T f)
theorem Ty.kp {α : Type} {T : TypeId} {S : List Nat} {w w' : World} {a : Option Addr} {l : List α} (h : Ty T w a l) (hk : Kp S w w') (hb : l ≠ [] → ∀ b off, a = some ⟨b, off, none⟩ → b ∉ S) : Ty T w' a l := fun hn b off e => by
  obtain ⟨cs, f, hh⟩ := h hn b off e
  exact ⟨cs, f, (hk.blk b (Array.getElem?_eq_some_iff.1 hh).1 (hb hn b off e)).trans hh⟩
theorem Ty.kp0 {α : Type} {T : TypeId} {w w' : World} {a : Option Addr} {l : List α} (h : Ty T w a l) (hk : Kp [] w w') : Ty T w' a l := h.kp hk (by simp)
theorem Ty.own {α : Type} {w : World} {base n cap sz : Nat} {a : Option Addr} {T : TypeId} {l : List α} {xs : List Value} (ho : w.ownsRow base T sz (.slice a n cap) n xs) : Ty T w a l := fun _ b off e => by
  subst e
  rcases ho.2 with ⟨h, _⟩ | ⟨g, c, cur, h, _, hg, _⟩
  · cases h
  · cases h
    exact ⟨_, _, hg⟩
theorem Ty.ne {α : Type} {T T' : TypeId} {w : World} {a : Option Addr} {l : List α} {z : Nat} {cs : Array Value} (h : Ty T w a l) (hn : l ≠ []) (hz : Blk w z (.cells cs T')) (hT : T' ≠ T) : ∀ b off, a = some ⟨b, off, none⟩ → b ≠ z := fun b off e hb => by
  subst hb
  obtain ⟨cs', f, hh⟩ := h hn b off e
  have hz : w.heap[b]? = some (.cells cs T') := hz
  rw [hz] at hh
  cases hh
  exact hT rfl
end Go.Proofs.YtajllbdeoopimaaGreat
namespace Go.Proofs.YtajllbdeoopimaaGreat
set_option linter.unusedVariables false
theorem bzp (w : World) : (Instr.build 47 #[]).run Tryz.prog w = .ok (pv zPu (.slice none 0 0)) w := by kernel_rfl
def chgZ (p : Pu) (z : Int) : Int := if preZ p ≠ 0 then preZ p else z
/-- A purse as it came, its row behind n. -/
def PuAt (n : Nat) (w : World) (v : Value) (p : Pu) : Prop := ∃ s, v = pv p s ∧ w.ownsRow n 86 11 s p.held.length (flt hc p.held)
theorem pc_held {p : Pu} {s s' : Value} : spl (pc p s) 11 [s'] = pc p s' := by
  have := spl_mid (pre := dc p.name ++ [.int .i64 p.num, .int .i64 p.h0, .int .i64 p.h1]) (old := [s]) (l := [s']) (post := []) rfl
  simpa [pc, dc_length] using this
theorem pc_num {p : Pu} {s : Value} : spl (pc p s) 8 [.int .i64 (p.num + 1)] = pc (nextP p) s := by
  have := spl_mid (pre := dc p.name) (old := [.int .i64 p.num]) (l := [.int .i64 (p.num + 1)]) (post := [.int .i64 p.h0, .int .i64 p.h1, s]) rfl
  simpa [pc, dc_length, nextP] using this
attribute [local irreducible] CG NG SG Vals Der Row Blk MapIs IterAt chkL
set_option maxHeartbeats 16000000 in
theorem hclone_spec {w : World} {a : Option Addr} {l : List Hd} (c : Nat) (h : Sl hc 11 w a l) (hl : l.length ≤ 100000) : Calls Tryz.prog 43 #[.slice a l.length c] w (fun e w' => ∃ v, e = .returned v ∧ w'.ownsRow w.heap.size 86 11 v l.length (flt hc l) ∧ Kp [] w w') := by
  refine enter1 Tryz.func43 rfl Tryz.ntmps43 rfl ?_
  cases a with
  | none =>
    have hn : l = [] := by
      cases l with
      | nil => rfl
      | cons x l => obtain ⟨b, off, e, _⟩ := h 0 x rfl; cases e
    subst hn
    repeat (first|apply cA|apply cB|apply cD|apply cE|refine cV rfl rfl rfl rfl (by first|((first|apply qmv|apply qas|apply qsn)<;>(exact rfl))|fail) ?_)
    refine dA rfl (by exact rho_of rfl) rfl ?_
    repeat (first|apply cA|apply cB|apply cD|apply cE|apply cH|apply cK|refine cV rfl rfl rfl rfl (by first|(apply qas<;>(exact rfl))|fail) ?_)
    refine ret1 (Or.inl rfl) Tryz.results43 (by first | exact ResV.tmp rfl | exact ResV.agg rfl rfl (by assumption) (by first | exact dc_length _ | exact nc_length _ | exact rc_length _ _ _ | exact ec_length _ | exact dl_length _ _ _ _ | rfl) | exact ResV.cell rfl rfl (by assumption)) ?_
    exact ⟨_, rfl, ⟨rfl, Or.inl ⟨rfl, rfl⟩⟩, Kp.refl _ _⟩
  | some ad =>
    repeat (first|apply cA|apply cB|apply cD|apply cE|refine cV rfl rfl rfl rfl (by first|((first|apply qmv|apply qas|apply qsn)<;>(exact rfl))|fail) ?_)
    refine dB rfl (by exact rho_of rfl) rfl ?_
    repeat (first|apply cA|apply cB|apply cE|apply cF)
    refine SG.empty rfl rfl (fun b5 w1 hk1 hb5 hB5 => ?_)
    repeat (first|refine cV rfl rfl rfl rfl (by first|(apply qmv<;>(exact rfl))|fail) ?_)
    refine SG.cloneO (m := w.heap.size) rfl rfl rfl hc_length hc_one (by exact rho_of rfl) (by exact rho_of rfl) rfl rfl rfl (by simp only [maxLen]; omega) (by show l.length * 32 ≤ _; omega) hb5 (h.kp0 hk1) hB5 (fun v w2 hk2 ho2 => ?_)
    repeat (first|apply cD|apply cE|apply cH|refine cV rfl rfl rfl rfl (by first|(apply qas<;>(exact rfl))|fail) ?_)
    refine ret1 (Or.inl rfl) Tryz.results43 (by first | exact ResV.tmp rfl | exact ResV.agg rfl rfl (by assumption) (by first | exact dc_length _ | exact nc_length _ | exact rc_length _ _ _ | exact ec_length _ | exact dl_length _ _ _ _ | rfl) | exact ResV.cell rfl rfl (by assumption)) ?_
    exact ⟨v, rfl, ho2, hk1.trans hk2⟩
set_option maxHeartbeats 16000000 in
theorem pclone_spec {w : World} {a : Option Addr} {c : Nat} (p : Pu) (hS : Sl hc 11 w a p.held) (hl : p.held.length ≤ 100000) : Calls Tryz.prog 81 #[pv p (.slice a p.held.length c)] w (fun e w' => ∃ v, e = .returned v ∧ PuAt w.heap.size w' v p ∧ Kp [] w w') := by
  refine enter1 Tryz.func81 rfl Tryz.ntmps81 rfl ?_
  repeat (first|apply cA|apply cB)
  refine SG.box rfl rfl rfl (by exact rho_of rfl) (fun b1 w1 hk1 hb1 hB1 => ?_)
  have hB1 : Blk w1 b1 (.cells (pc p (.slice a p.held.length c)).toArray 47) := hB1
  have l1 := hB1.lt
  refine SG.alloc rfl rfl rfl (fun b2 w2 hk2 hb2 hB2 => ?_)
  have hB1 := hB1.kp0 hk2
  obtain ⟨-, -, -, -, r4, -⟩ := pc_rows hB1
  have s1 := hk1.size
  repeat (first|apply cA|apply cB|apply cD|apply cE|refine cV rfl rfl rfl rfl (by first|((first|apply qlc|apply qfa)<;>(first|exact rfl|assumption|exact List.not_mem_nil))|fail) ?_)
  refine SG.call rfl rfl rfl (vs := [.slice a p.held.length c]) (by repeat' (first | exact True.intro | exact rho_of rfl | refine And.intro ?_ ?_)) ((hclone_spec c (hS.kp0 (hk1.trans hk2)) hl).mono (fun e w3 hh => ?_))
  obtain ⟨v3, he, ho3, hk3⟩ := hh
  refine ⟨_, he, ?_⟩
  obtain ⟨a3, c3, rfl, _, _⟩ := Sl.own hc_length ho3 rfl
  have hB1 := hB1.kp0 hk3
  have hB2 := hB2.kp0 hk3
  repeat (first|refine cV rfl rfl rfl rfl (by first|(apply qfa<;>(exact rfl))|fail) ?_)
  refine SG.store rfl rfl (by exact rho_of rfl) (by exact rho_of rfl) hB1 rfl (by show 11 + 1 ≤ _; simp [pc_length]) rfl (fun w4 hk4 hB4 => ?_)
  have hB4 : Blk w4 b1 (.cells (spl (pc p (.slice a p.held.length c)) 11 [.slice a3 p.held.length c3]).toArray 47) := hB4
  rw [pc_held] at hB4
  have ho4 := own_kp ho3 hk4 (own_neb ho3 (by decide) hB1)
  have hB2' := hB2.kp hk4 (nm1 (by omega))
  clear r4
  obtain ⟨-, -, -, -, -, r5⟩ := pc_rows hB4
  repeat (first|apply cA|apply cB|apply cD|apply cE|refine cV rfl rfl rfl rfl (by first|(apply qla<;>(first|exact rfl|assumption|exact List.not_mem_nil|apply pc_length))|fail) ?_)
  refine SG.setAll (l := pc p (.slice a3 p.held.length c3)) rfl rfl (by exact rho_of rfl) (by exact rho_of rfl) hB2' (pc_length _ _) rfl (pc_one _ _ _ _) (fun w5 hk5 hB5 => ?_)
  have hr : Row w5 b2 0 (pc p (.slice a3 p.held.length c3)) := Row.all hB5 rfl
  have ho5 := own_kp ho4 hk5 (own_neb ho4 (by decide) hB2')
  repeat (first|apply cD|apply cE|apply cH)
  refine ret1 (Or.inl rfl) Tryz.results81 (ResV.agg rfl rfl hr (pc_length _ _)) ?_
  exact ⟨_, rfl, ⟨_, rfl, own_mono ho5 (hk1.trans hk2).size⟩, (((hk1.trans hk2).trans hk3).trans_new hk4 (new1 (by omega))).trans_new hk5 (new1 (by omega))⟩
set_option maxHeartbeats 16000000 in
theorem changed_spec {w : World} {a : Option Addr} {c : Nat} (p q : Pu) (z : Int) (hS : Sl hc 11 w a p.held) (hl : p.held.length ≤ 1000) (hcap : p.held.length ≤ c) (hq : q.num = p.num) {f : FuncId} [Fn : Fnc Tryz.prog f] {caps : List Value}
    (hdo : checkZ p = 0 → ∀ (W : World) (bq : Nat) (s : Value), Kp [] w W → w.heap.size ≤ bq → Blk W bq (.cells (pc p s).toArray 47) → W.ownsRow w.heap.size 86 11 s p.held.length (flt hc p.held) → Calls Tryz.prog f (([.pointer (some ⟨bq, 0, none⟩)] : List Value) ++ caps).toArray W (fun e W' => e = .returned (.int .i64 z) ∧ Kp (bq :: ownB s) W W' ∧ ∃ p' s', Blk W' bq (.cells (pc p' s').toArray 47) ∧ (z = 0 → p' = q ∧ W'.ownsRow w.heap.size 86 11 s' q.held.length (flt hc q.held)))) :
    Calls Tryz.prog 64 #[pv p (.slice a p.held.length c), fnv f caps] w (fun e w' => ∃ v, e = .returned (.tuple #[v, .int .i64 (chgZ p z)]) ∧ Kp [] w w' ∧ (chgZ p z = 0 → PuAt w.heap.size w' v (nextP q)) ∧ (chgZ p z ≠ 0 → v = pv zPu (.slice none 0 0))) := by
  refine enter2 Tryz.func64 rfl Tryz.ntmps64 rfl ?_
  have h00 : (0 : Int) = 0 := rfl
  repeat (first|apply cA|apply cB)
  refine SG.box rfl rfl rfl (by exact rho_of rfl) (fun b2 w1 hk1 hb2 hB2 => ?_)
  have hB2 : Blk w1 b2 (.cells (pc p (.slice a p.held.length c)).toArray 47) := hB2
  have l2 := hB2.lt
  refine SG.alloc rfl rfl rfl (fun b4 w2 hk2 hb4 hB4 => ?_)
  have hB2 := hB2.kp0 hk2
  have hB4 : Blk w2 b4 (.cells (pc zPu (.slice none 0 0)).toArray 47) := hB4
  have l4 := hB4.lt
  obtain ⟨-, -, -, -, -, r5⟩ := pc_rows hB2
  have k2 := hk1.trans hk2
  have s1 := hk1.size
  have s2 := hk2.size
  repeat (first|apply cA|apply cB|apply cD|apply cE|refine cV rfl rfl rfl rfl (by first|((first|apply qas|apply qla)<;>(first|exact rfl|assumption|exact List.not_mem_nil|apply pc_length))|fail) ?_)
  refine SG.ret rfl rfl rfl (vs := [pv p (.slice a p.held.length c)]) (by repeat' (first | exact True.intro | exact rho_of rfl | refine And.intro ?_ ?_)) (check_spec p (hS.kp0 k2) hl hcap) (fun w3 hk3 => ?_)
  have hB2 := hB2.kp0 hk3
  have hB4 := hB4.kp0 hk3
  have k3 := k2.trans hk3
  have s3 := hk3.size
  clear r5
  by_cases hc0 : checkZ p = 0
  rotate_left
  · have e : chgZ p z = 3 := by
      simp [chgZ, preZ, hc0]
    rw [e]
    repeat (first|apply cD|apply cE|refine cV rfl rfl rfl rfl (by first|(apply qni<;>(first|exact rfl|exact dcf (by first|assumption|omega)|fail))|fail) ?_)
    refine dA rfl (by exact rho_of rfl) rfl ?_
    repeat (first|apply cA|apply cB)
    refine cV rfl rfl rfl rfl (vals_build rfl bzp) ?_
    refine SG.setAll (l := pc zPu (.slice none 0 0)) rfl rfl (by exact rho_of rfl) (by exact rho_of rfl) hB4 (pc_length _ _) (pc_length _ _) (pc_one _ _ _ _) (fun w4 hk4 hB5 => ?_)
    have hr : Row w4 b4 0 (pc zPu (.slice none 0 0)) := Row.all hB5 rfl
    repeat (first|apply cD|apply cE|apply cH|apply cK|refine cV rfl rfl rfl rfl (by first|(apply qas<;>(exact rfl))|fail) ?_)
    refine ret2 (Or.inl rfl) Tryz.results64 (ResV.agg rfl rfl hr (pc_length _ _)) (by first | exact ResV.tmp rfl | exact ResV.agg rfl rfl (by assumption) (by first | exact dc_length _ | exact nc_length _ | exact rc_length _ _ _ | exact ec_length _ | exact dl_length _ _ _ _ | rfl) | exact ResV.cell rfl rfl (by assumption)) ?_
    exact ⟨_, rfl, k3.trans_new hk4 (new1 (by omega)), fun h => absurd h (by decide), fun _ => rfl⟩
  obtain ⟨-, r1, -, -, -, r5⟩ := pc_rows hB2
  have hnum : farP p.num := Classical.byContradiction (fun h => by
    have : checkZ p = 2 := checkZ_range (fun k => h k.1)
    omega)
  obtain ⟨hn0, hn1⟩ := hnum
  rw [hc0]
  repeat (first|apply cD|apply cE|refine cV rfl rfl rfl rfl (by first|(apply qni<;>(first|exact rfl|exact dct (by first|assumption|omega)|fail))|fail) ?_)
  refine dB rfl (by exact rho_of rfl) rfl ?_
  by_cases hn : p.num = 1099511627776
  · have e : chgZ p z = 17 := by
      simp [chgZ, preZ, hc0, hn]
    rw [e]
    clear r5
    repeat (first|apply cA|apply cB|apply cD|apply cE|apply cF|refine cV rfl rfl rfl rfl (by first|((first|apply qlc|apply qfa|apply qei)<;>(first|exact rfl|assumption|exact dct (by first|assumption|omega)|exact List.not_mem_nil|fail))|fail) ?_)
    refine dA rfl (by exact rho_of rfl) rfl ?_
    repeat (first|apply cA|apply cB)
    refine cV rfl rfl rfl rfl (vals_build rfl bzp) ?_
    refine SG.setAll (l := pc zPu (.slice none 0 0)) rfl rfl (by exact rho_of rfl) (by exact rho_of rfl) hB4 (pc_length _ _) (pc_length _ _) (pc_one _ _ _ _) (fun w4 hk4 hB5 => ?_)
    have hr : Row w4 b4 0 (pc zPu (.slice none 0 0)) := Row.all hB5 rfl
    repeat (first|apply cD|apply cE|apply cH|apply cK|refine cV rfl rfl rfl rfl (by first|(apply qas<;>(exact rfl))|fail) ?_)
    refine ret2 (Or.inl rfl) Tryz.results64 (ResV.agg rfl rfl hr (pc_length _ _)) (by first | exact ResV.tmp rfl | exact ResV.agg rfl rfl (by assumption) (by first | exact dc_length _ | exact nc_length _ | exact rc_length _ _ _ | exact ec_length _ | exact dl_length _ _ _ _ | rfl) | exact ResV.cell rfl rfl (by assumption)) ?_
    exact ⟨_, rfl, k3.trans_new hk4 (new1 (by omega)), fun h => absurd h (by decide), fun _ => rfl⟩
  have e : chgZ p z = z := by
    simp [chgZ, preZ, hc0, hn]
  rw [e]
  repeat (first|apply cA|apply cB|apply cD|apply cE|apply cF|refine cV rfl rfl rfl rfl (by first|((first|apply qlc|apply qfa|apply qei)<;>(first|exact rfl|assumption|exact dcf (by first|assumption|omega)|exact List.not_mem_nil|fail))|fail) ?_)
  refine dB rfl (by exact rho_of rfl) rfl ?_
  clear r1
  repeat (first|apply cA|apply cB|apply cE|apply cF|refine cV rfl rfl rfl rfl (by first|(apply qla<;>(first|exact rfl|assumption|exact List.not_mem_nil|apply pc_length))|fail) ?_)
  refine SG.call rfl rfl rfl (vs := [pv p (.slice a p.held.length c)]) (by repeat' (first | exact True.intro | exact rho_of rfl | refine And.intro ?_ ?_)) ((pclone_spec p (hS.kp0 k3) (by omega)).mono (fun e w4 hh => ?_))
  obtain ⟨v4, he, ⟨s4, rfl, ho4⟩, hk4⟩ := hh
  refine ⟨_, he, ?_⟩
  obtain ⟨a4, c4, rfl, hc4, hS4⟩ := Sl.own hc_length ho4 rfl
  have hB4 := hB4.kp0 hk4
  have s4 := hk4.size
  refine SG.alloc rfl rfl rfl (fun b6 w5 hk5 hb6 hB6 => ?_)
  refine SG.setAll (l := pc p (.slice a4 p.held.length c4)) rfl rfl (by exact rho_of rfl) (by exact rho_of rfl) hB6 (pc_length _ _) rfl (pc_one _ _ _ _) (fun w6 hk6 hB7 => ?_)
  have hB7 : Blk w6 b6 (.cells (pc p (.slice a4 p.held.length c4)).toArray 47) := hB7
  have k46 : Kp [] w4 w6 := hk5.trans_new hk6 (new1 (by omega))
  have ho6 := own_kp0 (own_mono ho4 k3.size) k46
  have hB4 := hB4.kp0 k46
  have k6 := (k3.trans hk4).trans k46
  clear r5
  repeat (first|apply cA|apply cB|apply cD|apply cE|refine cV rfl rfl rfl rfl (by first|(apply qmv<;>(exact rfl))|fail) ?_)
  refine SG.callV (Fn := Fn) (vs := [.pointer (some ⟨b6, 0, none⟩)]) (caps := caps) rfl rfl rfl (by exact rho_of rfl) (by repeat' (first | exact True.intro | exact rho_of rfl | refine And.intro ?_ ?_)) ((hdo hc0 w6 b6 _ k6 (by omega) hB7 ho6).mono (fun e w7 hh => ?_))
  obtain ⟨he, hk7, p', s', hB8, hgood⟩ := hh
  refine ⟨_, he, ?_⟩
  have hn4 : b4 ∉ b6 :: ownB (.slice a4 p.held.length c4) := fun hm => by
    rcases List.mem_cons.1 hm with h | h
    · omega
    · exact own_neb ho6 (by decide) hB4 b4 (ownB_mem h) (by simp)
  have hB4 := hB4.kp hk7 hn4
  have k7 : Kp [] w w7 := k6.trans_new hk7 (fun x hx => by
    right
    rcases List.mem_cons.1 hx with h | h
    · omega
    · exact own_geB ho6 x (ownB_mem h))
  by_cases hz : z = 0
  · obtain ⟨rfl, ho8⟩ := hgood hz
    obtain ⟨a8, c8, rfl, _, _⟩ := Sl.own hc_length ho8 rfl
    obtain ⟨-, p1, -, -, -, -⟩ := pc_rows hB8
    have hn2 : p'.num < 1099511627776 := by omega
    have hn3 : 0 ≤ p'.num := by omega
    rw [hz]
    repeat (first|apply cA|apply cB|apply cD|apply cE|refine cV rfl rfl rfl rfl (by first|((first|apply qmv|apply qas|apply qni)<;>(first|exact rfl|exact dct (by first|assumption|omega)|fail))|fail) ?_)
    refine dB rfl (by exact rho_of rfl) rfl ?_
    repeat (first|apply cA|apply cB|apply cE|apply cF|refine cV rfl rfl rfl rfl (by first|((first|apply qlc|apply qfa|apply qad)<;>(first|exact rfl|assumption|exact Ar.mk (by omega)|exact List.not_mem_nil|fail))|fail) ?_)
    refine SG.store rfl rfl (by exact rho_of rfl) (by exact rho_of rfl) hB8 rfl (by show 8 + 1 ≤ _; simp [pc_length]) rfl (fun w8 hk8 hB9 => ?_)
    have hB9 : Blk w8 b6 (.cells (spl (pc p' (.slice a8 p'.held.length c8)) 8 [.int .i64 (p'.num + 1)]).toArray 47) := hB9
    rw [pc_num] at hB9
    have ho9 := own_kp ho8 hk8 (own_neb ho8 (by decide) hB8)
    have hB4 := hB4.kp hk8 (nm1 (by omega))
    clear p1
    obtain ⟨-, -, -, -, -, p5⟩ := pc_rows hB9
    repeat (first|apply cA|apply cB|apply cD|apply cE|refine cV rfl rfl rfl rfl (by first|(apply qla<;>(first|exact rfl|assumption|exact List.not_mem_nil|apply pc_length))|fail) ?_)
    refine SG.setAll (l := pc (nextP p') (.slice a8 p'.held.length c8)) rfl rfl (by exact rho_of rfl) (by exact rho_of rfl) hB4 (pc_length _ _) (pc_length _ _) (pc_one _ _ _ _) (fun w9 hk9 hB10 => ?_)
    have hr : Row w9 b4 0 (pc (nextP p') (.slice a8 p'.held.length c8)) := Row.all hB10 rfl
    have ho10 := own_kp ho9 hk9 (own_neb ho9 (by decide) hB4)
    repeat (first|apply cD|apply cE|apply cH|refine cV rfl rfl rfl rfl (by first|(apply qas<;>(exact rfl))|fail) ?_)
    refine ret2 (Or.inl rfl) Tryz.results64 (ResV.agg rfl rfl hr (pc_length _ _)) (by first | exact ResV.tmp rfl | exact ResV.agg rfl rfl (by assumption) (by first | exact dc_length _ | exact nc_length _ | exact rc_length _ _ _ | exact ec_length _ | exact dl_length _ _ _ _ | rfl) | exact ResV.cell rfl rfl (by assumption)) ?_
    exact ⟨_, rfl, (k7.trans_new hk8 (new1 (by omega))).trans_new hk9 (new1 (by omega)), fun _ => ⟨_, rfl, ho10⟩, fun h => absurd rfl h⟩
  · repeat (first|apply cA|apply cB|apply cD|apply cE|refine cV rfl rfl rfl rfl (by first|((first|apply qmv|apply qas|apply qni)<;>(first|exact rfl|exact dcf (by first|assumption|omega)|fail))|fail) ?_)
    refine dA rfl (by exact rho_of rfl) rfl ?_
    repeat (first|apply cA|apply cB)
    refine cV rfl rfl rfl rfl (vals_build rfl bzp) ?_
    repeat (first|refine cV rfl rfl rfl rfl (by first|(apply qmv<;>(exact rfl))|fail) ?_)
    refine SG.setAll (l := pc zPu (.slice none 0 0)) rfl rfl (by exact rho_of rfl) (by exact rho_of rfl) hB4 (pc_length _ _) (pc_length _ _) (pc_one _ _ _ _) (fun w8 hk8 hB9 => ?_)
    have hr : Row w8 b4 0 (pc zPu (.slice none 0 0)) := Row.all hB9 rfl
    repeat (first|apply cD|apply cE|apply cH|apply cK|refine cV rfl rfl rfl rfl (by first|(apply qas<;>(exact rfl))|fail) ?_)
    refine ret2 (Or.inl rfl) Tryz.results64 (ResV.agg rfl rfl hr (pc_length _ _)) (by first | exact ResV.tmp rfl | exact ResV.agg rfl rfl (by assumption) (by first | exact dc_length _ | exact nc_length _ | exact rc_length _ _ _ | exact ec_length _ | exact dl_length _ _ _ _ | rfl) | exact ResV.cell rfl rfl (by assumption)) ?_
    exact ⟨_, rfl, k7.trans_new hk8 (new1 (by omega)), fun h => absurd h hz, fun _ => rfl⟩
end Go.Proofs.YtajllbdeoopimaaGreat
namespace Go.Proofs.YtajllbdeoopimaaGreat
set_option linter.unusedVariables false
/-- The block that a slice, or a map, is of. -/
def obk : Value → Option Nat
  | .slice (some a) _ _ => some a.block
  | .map r => r
  | _ => none
theorem obk_own {v : Value} {b : Nat} (h : v.ownBlock = some b) : obk v = some b := by
  unfold Value.ownBlock at h
  split at h
  · exact h
  · cases h
theorem obk_row {w : World} {base n sz : Nat} {T : TypeId} {v : Value} {xs : List Value} (h : w.ownsRow base T sz v n xs) : obk v = v.ownBlock := by
  rcases h with ⟨_, ⟨rfl, _⟩ | ⟨g, cap, cur, rfl, _⟩⟩ <;> rfl
/-- An effect: its place (from 1000 on: there before), its chain, what it promises of its value. -/
structure RE where
  i : Nat
  ch : Nat
  phi : Value → World → Prop
structure RE.Ok (e : RE) : Prop where
  keep : ∀ v w w', w.heap.size ≤ w'.heap.size → (∀ z o, obk v = some z → Blk w z o → Blk w' z o) → e.phi v w → e.phi v w'
  lt : ∀ v w b, e.phi v w → obk v = some b → b < w.heap.size
def sees (ops : List Oper) (i p : Nat) : Bool := Nat.ble 1000 p || anc ops i p
def isR (G : List RE) (i : Nat) : Bool := G.any (fun e => Nat.beq e.i i)
def atR (G : List RE) (i : Nat) : List RE := G.filter (fun e => Nat.beq e.i i)
theorem atR_mem {G : List RE} {i : Nat} {E : RE} (h : atR G i = [E]) {e : RE} (he : e ∈ G) (hi : e.i = i) : e = E := by
  have : e ∈ atR G i := List.mem_filter.2 ⟨he, by rw [hi]; simp⟩
  rw [h] at this
  simpa using this
theorem atR_in {G : List RE} {i : Nat} {E : RE} (h : atR G i = [E]) : E ∈ G ∧ E.i = i := by
  have : E ∈ atR G i := by rw [h]; simp
  have := List.mem_filter.1 this
  exact ⟨this.1, by simpa using this.2⟩
theorem isR_no {G : List RE} {i : Nat} (h : isR G i = false) {e : RE} (he : e ∈ G) : e.i ≠ i := by
  intro e1
  have := List.any_eq_false.1 h e he
  rw [e1] at this
  simp at this
abbrev Gm := List (Nat × Value)
def FactsR (ops : List Oper) (G : List RE) (i : Nat) (Γ : Gm) (w : World) : Prop := ∀ p ∈ Γ, sees ops i p.1 = true → ∀ e ∈ G, e.i = p.1 → e.phi p.2 w
/-- What is so where the effects in D are done. -/
structure SOk (S : List Nat) (w0 : World) (G : List RE) (D : Nat → Bool) (V : Nat → Value) (w : World) : Prop where
  kp : Kp S w0 w
  row : ∀ e ∈ G, D e.i = true → e.phi (V e.i) w
  sep : ∀ e ∈ G, ∀ e' ∈ G, D e.i = true → D e'.i = true → e.ch ≠ e'.ch → ∀ b, obk (V e.i) = some b → obk (V e'.i) ≠ some b
  own : ∀ e ∈ G, D e.i = true → ∀ b, obk (V e.i) = some b → b ∈ S ∨ w0.heap.size ≤ b
def updR (V : Nat → Value) (i : Nat) (v : Value) : Nat → Value := fun j => if j = i then v else V j
theorem updR_same {V : Nat → Value} {i : Nat} {v : Value} : updR V i v i = v := by simp [updR]
theorem updR_ne {V : Nat → Value} {i j : Nat} {v : Value} (h : j ≠ i) : updR V i v j = V j := by simp [updR, h]
section
variable {S : List Nat} {w0 w w' : World} {G : List RE} {D D' : Nat → Bool} {V V' : Nat → Value}
theorem SOk.kp0 (hG : ∀ e ∈ G, e.Ok) (h : SOk S w0 G D V w) (hk : Kp [] w w') : SOk S w0 G D V w' :=
  ⟨h.kp.trans hk.any, fun e he hd => (hG e he).keep _ _ _ hk.size (fun z o _ hB => hB.kp0 hk) (h.row e he hd), h.sep, h.own⟩
theorem SOk.congr (h : SOk S w0 G D V w) (he : ∀ e ∈ G, D e.i = D' e.i ∧ V e.i = V' e.i) : SOk S w0 G D' V' w :=
  ⟨h.kp, fun e hm hd => by obtain ⟨h1, h2⟩ := he e hm; rw [← h2]; exact h.row e hm (by rw [h1]; exact hd),
   fun e hm e' hm' hd hd' hc b hb => by
    obtain ⟨h1, h2⟩ := he e hm
    obtain ⟨h3, h4⟩ := he e' hm'
    rw [← h4]
    rw [← h2] at hb
    exact h.sep e hm e' hm' (by rw [h1]; exact hd) (by rw [h3]; exact hd') hc b hb,
   fun e hm hd b hb => by obtain ⟨h1, h2⟩ := he e hm; rw [← h2] at hb; exact h.own e hm (by rw [h1]; exact hd) b hb⟩
/-- An effect that makes something new. -/
theorem SOk.new (hG : ∀ e ∈ G, e.Ok) (h : SOk S w0 G D V w) {i : Nat} {E : RE} {v : Value} (hE : atR G i = [E]) (hk : Kp [] w w') (hp : E.phi v w') (hb : ∀ b, obk v = some b → w.heap.size ≤ b) : SOk S w0 G (setD D i) (updR V i v) w' := by
  have h' := h.kp0 hG hk
  have hlt : ∀ e ∈ G, D e.i = true → ∀ b, obk (V e.i) = some b → b < w.heap.size := fun e he hd b hb => (hG e he).lt _ _ b (h.row e he hd) hb
  refine ⟨h'.kp, fun e he hd => ?_, fun e he e' he' hd hd' hc b h1 => ?_, fun e he hd b h1 => ?_⟩
  · by_cases hi : e.i = i
    · rw [atR_mem hE he hi]
      have : E.i = i := (atR_in hE).2
      rw [this, updR_same]
      exact hp
    · rw [setD_ne hi] at hd
      rw [updR_ne hi]
      exact h'.row e he hd
  · by_cases hi : e.i = i
    · by_cases hi' : e'.i = i
      · exact absurd (by rw [atR_mem hE he hi, atR_mem hE he' hi']) hc
      · rw [setD_ne hi'] at hd'
        rw [updR_ne hi']
        rw [hi, updR_same] at h1
        intro h2
        have := hlt e' he' hd' b h2
        have := hb b h1
        omega
    · rw [setD_ne hi] at hd
      rw [updR_ne hi] at h1
      by_cases hi' : e'.i = i
      · rw [hi', updR_same]
        intro h2
        have := hlt e he hd b h1
        have := hb b h2
        omega
      · rw [setD_ne hi'] at hd'
        rw [updR_ne hi']
        exact h.sep e he e' he' hd hd' hc b h1
  · by_cases hi : e.i = i
    · rw [hi, updR_same] at h1
      have := hb b h1
      by_cases hS : w0.heap.size ≤ b
      · exact Or.inr hS
      · have := h.kp.size
        omega
    · rw [setD_ne hi] at hd
      rw [updR_ne hi] at h1
      exact h.own e he hd b h1
/-- An effect that turns the block of one of its chain. -/
theorem SOk.turn (hG : ∀ e ∈ G, e.Ok) (h : SOk S w0 G D V w) {i src : Nat} {E0 E : RE} {v : Value} (h0 : atR G src = [E0]) (hd0 : D src = true) (hE : atR G i = [E]) (hc : E.ch = E0.ch) (hk : Kp S w0 w') (hsz : w.heap.size ≤ w'.heap.size)
    (hoth : ∀ z o, obk (V src) ≠ some z → Blk w z o → Blk w' z o) (hp : E.phi v w') (hb : ∀ b, obk v = some b → obk (V src) = some b ∨ w.heap.size ≤ b)
    (hch : ∀ e ∈ G, e.ch = E0.ch → e.i ≠ i → D e.i = true → e.phi (V e.i) w → e.phi (V e.i) w') : SOk S w0 G (setD D i) (updR V i v) w' := by
  have hlt : ∀ e ∈ G, D e.i = true → ∀ b, obk (V e.i) = some b → b < w.heap.size := fun e he hd b hb => (hG e he).lt _ _ b (h.row e he hd) hb
  obtain ⟨m0, i0⟩ := atR_in h0
  have hEi : E.i = i := (atR_in hE).2
  refine ⟨hk, fun e he hd => ?_, fun e he e' he' hd hd' hcc b h1 => ?_, fun e he hd b h1 => ?_⟩
  · by_cases hi : e.i = i
    · rw [atR_mem hE he hi, hEi, updR_same]
      exact hp
    · rw [setD_ne hi] at hd
      rw [updR_ne hi]
      by_cases hce : e.ch = E0.ch
      · exact hch e he hce hi hd (h.row e he hd)
      · refine (hG e he).keep _ _ _ hsz (fun z o hz hB => hoth z o (fun e1 => ?_) hB) (h.row e he hd)
        have := h.sep e he E0 m0 hd (by rw [i0]; exact hd0) hce z hz
        rw [i0] at this
        exact this e1
  · by_cases hi : e.i = i
    · by_cases hi' : e'.i = i
      · exact absurd (by rw [atR_mem hE he hi, atR_mem hE he' hi']) hcc
      · rw [setD_ne hi'] at hd'
        rw [updR_ne hi']
        rw [hi, updR_same] at h1
        intro h2
        rcases hb b h1 with h3 | h3
        · have hce : E0.ch ≠ e'.ch := by rw [← hc, ← atR_mem hE he hi]; exact hcc
          exact h.sep E0 m0 e' he' (by rw [i0]; exact hd0) hd' hce b (by rw [i0]; exact h3) h2
        · have := hlt e' he' hd' b h2
          omega
    · rw [setD_ne hi] at hd
      rw [updR_ne hi] at h1
      by_cases hi' : e'.i = i
      · rw [hi', updR_same]
        intro h2
        rcases hb b h2 with h3 | h3
        · have hce : e.ch ≠ E0.ch := by rw [← hc, ← atR_mem hE he' hi']; exact hcc
          have := h.sep e he E0 m0 hd (by rw [i0]; exact hd0) hce b h1
          rw [i0] at this
          exact this h3
        · have := hlt e he hd b h1
          omega
      · rw [setD_ne hi'] at hd'
        rw [updR_ne hi']
        exact h.sep e he e' he' hd hd' hcc b h1
  · by_cases hi : e.i = i
    · rw [hi, updR_same] at h1
      rcases hb b h1 with h3 | h3
      · exact h.own E0 m0 (by rw [i0]; exact hd0) b (by rw [i0]; exact h3)
      · have := h.kp.size
        exact Or.inr (by omega)
    · rw [setD_ne hi] at hd
      rw [updR_ne hi] at h1
      exact h.own e he hd b h1
end
section
variable (P : Program) (S : List Nat) (w0 : World) (ops : List Oper) (G : List RE) (K : Env → Gm → Prop)
def LiveR (D : Nat → Bool) (V : Nat → Value) : List Nat → Env → Gm → Prop
  | [], L, Γ => K L Γ
  | i :: ord, L, Γ => ∃ o, ops[i]? = some o ∧
      ((isR G i = false ∧ ((D i = true ∧ LiveR D V ord (addD o.dst (V i) L) Γ) ∨
          (D i = false ∧ want ops L o = some false ∧ LiveR D V ord (addD o.dst undef L) Γ) ∨
          (D i = false ∧ want ops L o = some true ∧ ∃ v, o.op.operands.toList.all (known L) = true ∧ (∀ w, Kp S w0 w → FactsR ops G i Γ w → OpRun P (rho L) o w (fun v' w' => v' = v ∧ Kp [] w w')) ∧ LiveR D V ord (addD o.dst v L) Γ))) ∨
       (isR G i = true ∧ ((D i = true ∧ LiveR D V ord (addD o.dst (V i) L) ((i, V i) :: Γ)) ∨
          (D i = false ∧ want ops L o = some true ∧ o.op.operands.toList.all (known L) = true ∧
            (∀ D' V' w, SOk S w0 G D' V' w → (∀ p ∈ Γ, sees ops i p.1 = true → D' p.1 = true ∧ V' p.1 = p.2) → D' i = false → (∀ j, anc ops j i = true → D' j = false) → OpRun P (rho L) o w (fun v w' => SOk S w0 G (setD D' i) (updR V' i v) w')) ∧
            ∀ v, LiveR D V ord (addD o.dst v L) ((i, v) :: Γ)))))
/-- The derivation: nothing is done yet. -/
def DerR : List Nat → Env → Gm → Prop := LiveR P S w0 ops G K (fun _ => false) (fun _ => undef)
end
section
variable {P : Program} {n : Nat} {S : List Nat} {ops : List Oper} {Q : Exit → Act → World → Prop} {w0 : World} {L0 : Env} {G : List RE} {K : Env → Gm → Prop}
theorem LiveR.congr {D D' : Nat → Bool} {V V' : Nat → Value} : ∀ {ord : List Nat} {L : Env} {Γ : Gm}, (∀ i ∈ ord, D i = D' i ∧ V i = V' i) → LiveR P S w0 ops G K D V ord L Γ → LiveR P S w0 ops G K D' V' ord L Γ
  | [], _, _, _, h => h
  | i :: ord, L, Γ, he, ⟨o, ho, h⟩ => by
    obtain ⟨e1, e2⟩ := he i (by simp)
    have he' : ∀ j ∈ ord, D j = D' j ∧ V j = V' j := fun j hj => he j (by simp [hj])
    refine ⟨o, ho, ?_⟩
    rcases h with ⟨hg, h⟩ | ⟨hg, h⟩
    · refine Or.inl ⟨hg, ?_⟩
      rcases h with ⟨hd, h⟩ | ⟨hd, hw, h⟩ | ⟨hd, hw, v, hk, hc, h⟩
      · exact Or.inl ⟨by rw [← e1]; exact hd, by rw [← e2]; exact LiveR.congr he' h⟩
      · exact Or.inr (Or.inl ⟨by rw [← e1]; exact hd, hw, LiveR.congr he' h⟩)
      · exact Or.inr (Or.inr ⟨by rw [← e1]; exact hd, hw, v, hk, hc, LiveR.congr he' h⟩)
    · refine Or.inr ⟨hg, ?_⟩
      rcases h with ⟨hd, h⟩ | ⟨hd, hw, hk, hc, h⟩
      · exact Or.inl ⟨by rw [← e1]; exact hd, by rw [← e2]; exact LiveR.congr he' h⟩
      · exact Or.inr ⟨by rw [← e1]; exact hd, hw, hk, hc, fun x => LiveR.congr he' (h x)⟩
def WayR (ops : List Oper) (L0 : Env) (D : Nat → Bool) (V : Nat → Value) (pre : List Nat) (L : Env) : Prop :=
  ∀ t v, look L t = some v → (∃ j ∈ pre, dstOf ops j = some t ∧ (D j = true → v = V j)) ∨ ((∀ j ∈ pre, dstOf ops j ≠ some t) ∧ look L0 t = some v)
theorem WayR.nil {D : Nat → Bool} {V : Nat → Value} : WayR ops L0 D V [] L0 := fun t v h => Or.inr ⟨by simp, h⟩
theorem WayR.cons {D : Nat → Bool} {V : Nat → Value} {pre : List Nat} {L : Env} {i : Nat} {o : Oper} {u : Value} (h : WayR ops L0 D V pre L) (ho : ops[i]? = some o) (hu : D i = true → u = V i) : WayR ops L0 D V (i :: pre) (addD o.dst u L) := by
  intro t v hv
  rw [look_addD] at hv
  have hdi : dstOf ops i = o.dst := by simp [dstOf, ho]
  by_cases e : o.dst = some t
  · rw [if_pos e] at hv
    cases hv
    exact Or.inl ⟨i, by simp, by rw [hdi, e], hu⟩
  · rw [if_neg e] at hv
    rcases h t v hv with ⟨j, hj, h1, h2⟩ | ⟨h1, h2⟩
    · exact Or.inl ⟨j, by simp [hj], h1, h2⟩
    · refine Or.inr ⟨fun j hj => ?_, h2⟩
      rcases List.mem_cons.1 hj with rfl | hj
      · rw [hdi]; exact e
      · exact h1 j hj
/-- The way to an operation that has no effect: all effects ahead of it are done. -/
theorem LiveR.plain {D : Nat → Bool} {V : Nat → Value} {r : Nat} (hgr : isR G r = false) (hdr : D r = false) : ∀ {ord pre : List Nat} {L : Env} {Γ : Gm}, ord.Nodup → r ∈ ord →
    (∀ g A B, ord = A ++ g :: B → r ∈ B → isR G g = true → D g = true) → WayR ops L0 D V pre L → (∀ p ∈ Γ, D p.1 = true ∧ V p.1 = p.2) → LiveR P S w0 ops G K D V ord L Γ →
    ∃ o L' Γ' A B, ord = A ++ r :: B ∧ ops[r]? = some o ∧ WayR ops L0 D V (A.reverse ++ pre) L' ∧ (∀ p ∈ Γ', D p.1 = true ∧ V p.1 = p.2) ∧
      ((want ops L' o = some false ∧ LiveR P S w0 ops G K (setD D r) (updR V r undef) ord L Γ) ∨
       (want ops L' o = some true ∧ ∃ v, o.op.operands.toList.all (known L') = true ∧ (∀ w, Kp S w0 w → FactsR ops G r Γ' w → OpRun P (rho L') o w (fun v' w' => v' = v ∧ Kp [] w w')) ∧ LiveR P S w0 ops G K (setD D r) (updR V r v) ord L Γ))
  | [], _, _, _, _, hm, _, _, _, _ => by cases hm
  | i :: ord, pre, L, Γ, hn, hm, hgd, hway, hfa, ⟨o, ho, h⟩ => by
    have hn' := List.nodup_cons.1 hn
    by_cases hir : i = r
    · subst hir
      have hsame : ∀ j ∈ ord, D j = setD D i j ∧ ∀ v, V j = updR V i v j := fun j hj => by
        have hne : j ≠ i := fun e => hn'.1 (e ▸ hj)
        exact ⟨(setD_ne hne).symm, fun v => by simp [updR, hne]⟩
      refine ⟨o, L, Γ, [], ord, rfl, ho, by simpa using hway, hfa, ?_⟩
      rcases h with ⟨hg, h⟩ | ⟨hg, h⟩
      · rcases h with ⟨hd, h⟩ | ⟨hd, hw, h⟩ | ⟨hd, hw, v, hk, hc, h⟩
        · rw [hdr] at hd; cases hd
        · refine Or.inl ⟨hw, o, ho, Or.inl ⟨hg, Or.inl ⟨setD_same, ?_⟩⟩⟩
          rw [updR_same]
          exact LiveR.congr (fun j hj => ⟨(hsame j hj).1, (hsame j hj).2 _⟩) h
        · refine Or.inr ⟨hw, v, hk, hc, o, ho, Or.inl ⟨hg, Or.inl ⟨setD_same, ?_⟩⟩⟩
          rw [updR_same]
          exact LiveR.congr (fun j hj => ⟨(hsame j hj).1, (hsame j hj).2 _⟩) h
      · rw [hgr] at hg; cases hg
    · have hm' : r ∈ ord := by
        rcases List.mem_cons.1 hm with h | h
        · exact absurd h.symm hir
        · exact h
      have hgd' : ∀ g A B, ord = A ++ g :: B → r ∈ B → isR G g = true → D g = true := fun g A B e hb => hgd g (i :: A) B (by rw [e]; rfl) hb
      have key : ∀ {L1 : Env} {Γ1 : Gm}, WayR ops L0 D V (i :: pre) L1 → (∀ p ∈ Γ1, D p.1 = true ∧ V p.1 = p.2) → LiveR P S w0 ops G K D V ord L1 Γ1 →
          ∃ o' L' Γ' A B, i :: ord = A ++ r :: B ∧ ops[r]? = some o' ∧ WayR ops L0 D V (A.reverse ++ pre) L' ∧ (∀ p ∈ Γ', D p.1 = true ∧ V p.1 = p.2) ∧
            ((want ops L' o' = some false ∧ LiveR P S w0 ops G K (setD D r) (updR V r undef) ord L1 Γ1) ∨
             (want ops L' o' = some true ∧ ∃ v, o'.op.operands.toList.all (known L') = true ∧ (∀ w, Kp S w0 w → FactsR ops G r Γ' w → OpRun P (rho L') o' w (fun v' w' => v' = v ∧ Kp [] w w')) ∧ LiveR P S w0 ops G K (setD D r) (updR V r v) ord L1 Γ1)) := by
        intro L1 Γ1 hw1 hf1 h1
        obtain ⟨o', L', Γ', A, B, e1, e2, e3, e4, e5⟩ := LiveR.plain hgr hdr hn'.2 hm' hgd' hw1 hf1 h1
        exact ⟨o', L', Γ', i :: A, B, by rw [e1]; rfl, e2, by simpa using e3, e4, e5⟩
      have eD : setD D r i = D i := setD_ne hir
      have eV : ∀ v, updR V r v i = V i := fun v => by simp [updR, hir]
      rcases h with ⟨hg, h⟩ | ⟨hg, h⟩
      · rcases h with ⟨hd, h⟩ | ⟨hd, hw, h⟩ | ⟨hd, hw, v, hk, hc, h⟩
        · obtain ⟨o', L', Γ', A, B, e1, e2, e3, e4, e5⟩ := key (hway.cons ho (fun _ => rfl)) hfa h
          refine ⟨o', L', Γ', A, B, e1, e2, e3, e4, ?_⟩
          rcases e5 with ⟨f1, f2⟩ | ⟨f1, v, f2, f3, f4⟩
          · exact Or.inl ⟨f1, o, ho, Or.inl ⟨hg, Or.inl ⟨by rw [eD]; exact hd, by rw [eV]; exact f2⟩⟩⟩
          · exact Or.inr ⟨f1, v, f2, f3, o, ho, Or.inl ⟨hg, Or.inl ⟨by rw [eD]; exact hd, by rw [eV]; exact f4⟩⟩⟩
        · obtain ⟨o', L', Γ', A, B, e1, e2, e3, e4, e5⟩ := key (hway.cons ho (fun hd' => by rw [hd] at hd'; cases hd')) hfa h
          refine ⟨o', L', Γ', A, B, e1, e2, e3, e4, ?_⟩
          rcases e5 with ⟨f1, f2⟩ | ⟨f1, v, f2, f3, f4⟩
          · exact Or.inl ⟨f1, o, ho, Or.inl ⟨hg, Or.inr (Or.inl ⟨by rw [eD]; exact hd, hw, f2⟩)⟩⟩
          · exact Or.inr ⟨f1, v, f2, f3, o, ho, Or.inl ⟨hg, Or.inr (Or.inl ⟨by rw [eD]; exact hd, hw, f4⟩)⟩⟩
        · obtain ⟨o', L', Γ', A, B, e1, e2, e3, e4, e5⟩ := key (hway.cons ho (fun hd' => by rw [hd] at hd'; cases hd')) hfa h
          refine ⟨o', L', Γ', A, B, e1, e2, e3, e4, ?_⟩
          rcases e5 with ⟨f1, f2⟩ | ⟨f1, v', f2, f3, f4⟩
          · exact Or.inl ⟨f1, o, ho, Or.inl ⟨hg, Or.inr (Or.inr ⟨by rw [eD]; exact hd, hw, v, hk, hc, f2⟩)⟩⟩
          · exact Or.inr ⟨f1, v', f2, f3, o, ho, Or.inl ⟨hg, Or.inr (Or.inr ⟨by rw [eD]; exact hd, hw, v, hk, hc, f4⟩)⟩⟩
      · have hdi : D i = true := hgd i [] ord rfl hm' hg
        rcases h with ⟨hd, h⟩ | ⟨hd, _⟩
        · obtain ⟨o', L', Γ', A, B, e1, e2, e3, e4, e5⟩ := key (hway.cons ho (fun _ => rfl)) (fun p hp => by
            rcases List.mem_cons.1 hp with rfl | hp
            · exact ⟨hd, rfl⟩
            · exact hfa p hp) h
          refine ⟨o', L', Γ', A, B, e1, e2, e3, e4, ?_⟩
          rcases e5 with ⟨f1, f2⟩ | ⟨f1, v, f2, f3, f4⟩
          · exact Or.inl ⟨f1, o, ho, Or.inr ⟨hg, Or.inl ⟨by rw [eD]; exact hd, by rw [eV]; exact f2⟩⟩⟩
          · exact Or.inr ⟨f1, v, f2, f3, o, ho, Or.inr ⟨hg, Or.inl ⟨by rw [eD]; exact hd, by rw [eV]; exact f4⟩⟩⟩
        · rw [hdi] at hd; cases hd
/-- What is so at an effect. -/
def EffR (P : Program) (S : List Nat) (w0 : World) (ops : List Oper) (G : List RE) (r : Nat) (o : Oper) (L' : Env) (Γ' : Gm) : Prop :=
  ∀ D' V' w, SOk S w0 G D' V' w → (∀ p ∈ Γ', sees ops r p.1 = true → D' p.1 = true ∧ V' p.1 = p.2) → D' r = false → (∀ j, anc ops j r = true → D' j = false) → OpRun P (rho L') o w (fun v w' => SOk S w0 G (setD D' r) (updR V' r v) w')
/-- The way to an effect: others may stand beside it, undone. -/
theorem LiveR.effect {D : Nat → Bool} {V : Nat → Value} {r : Nat} (hgr : isR G r = true) (hdr : D r = false) : ∀ {ord pre : List Nat} {L : Env} {Γ : Gm}, ord.Nodup → r ∈ ord →
    WayR ops L0 D V pre L → (∀ p ∈ Γ, D p.1 = true → V p.1 = p.2) → LiveR P S w0 ops G K D V ord L Γ →
    ∃ o L' Γ' A B, ord = A ++ r :: B ∧ ops[r]? = some o ∧ WayR ops L0 D V (A.reverse ++ pre) L' ∧ (∀ p ∈ Γ', D p.1 = true → V p.1 = p.2) ∧ want ops L' o = some true ∧ o.op.operands.toList.all (known L') = true ∧ EffR P S w0 ops G r o L' Γ' ∧ ∀ v, LiveR P S w0 ops G K (setD D r) (updR V r v) ord L Γ
  | [], _, _, _, _, hm, _, _, _ => by cases hm
  | i :: ord, pre, L, Γ, hn, hm, hway, hfa, ⟨o, ho, h⟩ => by
    have hn' := List.nodup_cons.1 hn
    by_cases hir : i = r
    · subst hir
      have hcg : ∀ (x : Value) {L1 : Env} {Γ1 : Gm}, LiveR P S w0 ops G K D V ord L1 Γ1 → LiveR P S w0 ops G K (setD D i) (updR V i x) ord L1 Γ1 := fun x {L1 Γ1} h1 => LiveR.congr (fun j hj => by
        have hne : j ≠ i := fun e => hn'.1 (e ▸ hj)
        exact ⟨(setD_ne hne).symm, (updR_ne hne).symm⟩) h1
      rcases h with ⟨hg, h⟩ | ⟨hg, h⟩
      · rw [hgr] at hg; cases hg
      · rcases h with ⟨hd, h⟩ | ⟨hd, hw, hk, hc, h⟩
        · rw [hdr] at hd; cases hd
        · refine ⟨o, L, Γ, [], ord, rfl, ho, by simpa using hway, hfa, hw, hk, hc, fun x => ⟨o, ho, Or.inr ⟨hg, Or.inl ⟨setD_same, ?_⟩⟩⟩⟩
          rw [updR_same]
          exact hcg x (h x)
    · have hm' : r ∈ ord := by
        rcases List.mem_cons.1 hm with h | h
        · exact absurd h.symm hir
        · exact h
      have eD : setD D r i = D i := setD_ne hir
      have eX : ∀ x, updR V r x i = V i := fun x => updR_ne hir
      have key : ∀ {L1 : Env} {Γ1 : Gm}, WayR ops L0 D V (i :: pre) L1 → (∀ p ∈ Γ1, D p.1 = true → V p.1 = p.2) → LiveR P S w0 ops G K D V ord L1 Γ1 →
          ∃ o L' Γ' A B, i :: ord = A ++ r :: B ∧ ops[r]? = some o ∧ WayR ops L0 D V (A.reverse ++ pre) L' ∧ (∀ p ∈ Γ', D p.1 = true → V p.1 = p.2) ∧ want ops L' o = some true ∧ o.op.operands.toList.all (known L') = true ∧ EffR P S w0 ops G r o L' Γ' ∧ ∀ v, LiveR P S w0 ops G K (setD D r) (updR V r v) ord L1 Γ1 := by
        intro L1 Γ1 hw1 hf1 h1
        obtain ⟨o', L', Γ', A, B, e1, e2, e3, e4, e5, e6, e7, e8⟩ := LiveR.effect hgr hdr hn'.2 hm' hw1 hf1 h1
        exact ⟨o', L', Γ', i :: A, B, by rw [e1]; rfl, e2, by simpa using e3, e4, e5, e6, e7, e8⟩
      rcases h with ⟨hg, h⟩ | ⟨hg, h⟩
      · rcases h with ⟨hd, h⟩ | ⟨hd, hw, h⟩ | ⟨hd, hw, v, hk, hc, h⟩
        · obtain ⟨o', L', Γ', A, B, e1, e2, e3, e4, e5, e6, e7, e8⟩ := key (hway.cons ho (fun _ => rfl)) hfa h
          exact ⟨o', L', Γ', A, B, e1, e2, e3, e4, e5, e6, e7, fun x => ⟨o, ho, Or.inl ⟨hg, Or.inl ⟨by rw [eD]; exact hd, by rw [eX]; exact e8 x⟩⟩⟩⟩
        · obtain ⟨o', L', Γ', A, B, e1, e2, e3, e4, e5, e6, e7, e8⟩ := key (hway.cons ho (fun hd' => by rw [hd] at hd'; cases hd')) hfa h
          exact ⟨o', L', Γ', A, B, e1, e2, e3, e4, e5, e6, e7, fun x => ⟨o, ho, Or.inl ⟨hg, Or.inr (Or.inl ⟨by rw [eD]; exact hd, hw, e8 x⟩)⟩⟩⟩
        · obtain ⟨o', L', Γ', A, B, e1, e2, e3, e4, e5, e6, e7, e8⟩ := key (hway.cons ho (fun hd' => by rw [hd] at hd'; cases hd')) hfa h
          exact ⟨o', L', Γ', A, B, e1, e2, e3, e4, e5, e6, e7, fun x => ⟨o, ho, Or.inl ⟨hg, Or.inr (Or.inr ⟨by rw [eD]; exact hd, hw, v, hk, hc, e8 x⟩)⟩⟩⟩
      · rcases h with ⟨hd, h⟩ | ⟨hd, hw, hk, hc, h⟩
        · obtain ⟨o', L', Γ', A, B, e1, e2, e3, e4, e5, e6, e7, e8⟩ := key (hway.cons ho (fun _ => rfl)) (fun p hp hpd => by
            rcases List.mem_cons.1 hp with rfl | hp
            · rfl
            · exact hfa p hp hpd) h
          exact ⟨o', L', Γ', A, B, e1, e2, e3, e4, e5, e6, e7, fun x => ⟨o, ho, Or.inr ⟨hg, Or.inl ⟨by rw [eD]; exact hd, by rw [eX]; exact e8 x⟩⟩⟩⟩
        · have hf : ∀ (y : Value), ∀ p ∈ ((i, y) :: Γ : Gm), D p.1 = true → V p.1 = p.2 := fun y p hp hpd => by
            rcases List.mem_cons.1 hp with rfl | hp
            · simp only at hpd; rw [hd] at hpd; cases hpd
            · exact hfa p hp hpd
          have all : ∀ y, ∀ x, LiveR P S w0 ops G K (setD D r) (updR V r x) ord (addD o.dst y L) ((i, y) :: Γ) := fun y => by
            obtain ⟨o', L', Γ', A, B, e1, e2, e3, e4, e5, e6, e7, e8⟩ := key (hway.cons ho (fun hd' => by rw [hd] at hd'; cases hd')) (hf y) (h y)
            exact e8
          obtain ⟨o', L', Γ', A, B, e1, e2, e3, e4, e5, e6, e7, e8⟩ := key (hway.cons ho (fun hd' => by rw [hd] at hd'; cases hd')) (hf undef) (h undef)
          exact ⟨o', L', Γ', A, B, e1, e2, e3, e4, e5, e6, e7, fun x => ⟨o, ho, Or.inr ⟨hg, Or.inr ⟨by rw [eD]; exact hd, hw, hk, hc, fun y => all y x⟩⟩⟩⟩
/-- All is done. -/
theorem LiveR.done {D : Nat → Bool} {V : Nat → Value} : ∀ {ord pre : List Nat} {L : Env} {Γ : Gm}, (∀ i ∈ ord, D i = true) → WayR ops L0 D V pre L → (∀ p ∈ Γ, V p.1 = p.2) → LiveR P S w0 ops G K D V ord L Γ →
    ∃ L' Γ', WayR ops L0 D V (ord.reverse ++ pre) L' ∧ (∀ p ∈ Γ', V p.1 = p.2) ∧ K L' Γ'
  | [], pre, L, Γ, _, hway, hfa, h => ⟨L, Γ, by simpa using hway, hfa, h⟩
  | i :: ord, pre, L, Γ, hall, hway, hfa, ⟨o, ho, h⟩ => by
    have hdi := hall i (by simp)
    have hall' : ∀ j ∈ ord, D j = true := fun j hj => hall j (by simp [hj])
    rcases h with ⟨hg, h⟩ | ⟨hg, h⟩
    · rcases h with ⟨hd, h⟩ | ⟨hd, _⟩ | ⟨hd, _⟩
      · obtain ⟨L', Γ', e1, e2, e3⟩ := LiveR.done hall' (hway.cons ho (fun _ => rfl)) hfa h
        exact ⟨L', Γ', by simpa using e1, e2, e3⟩
      · rw [hdi] at hd; cases hd
      · rw [hdi] at hd; cases hd
    · rcases h with ⟨hd, h⟩ | ⟨hd, _⟩
      · obtain ⟨L', Γ', e1, e2, e3⟩ := LiveR.done hall' (hway.cons ho (fun _ => rfl)) (fun p hp => by
          rcases List.mem_cons.1 hp with rfl | hp
          · rfl
          · exact hfa p hp) h
        exact ⟨L', Γ', by simpa using e1, e2, e3⟩
      · rw [hdi] at hd; cases hd
end
end Go.Proofs.YtajllbdeoopimaaGreat
namespace Go.Proofs.YtajllbdeoopimaaGreat
set_option linter.unusedVariables false
def chkY (n : Nat) (ops : List Oper) (ord gi : List Nat) (k0 k : Nat) : Bool :=
  ops.all (fun o => !isSelect o.op) && ops.all (fun o => o.dst.all (fun d => Nat.blt d n)) && nodupB (ops.filterMap (·.dst)) &&
  (List.range k).all (fun i => Nat.blt i k0 || ord.elem i) && nodupB ord && ordX ops gi [] ord && ord.all (fun i => Nat.blt i k && Nat.ble k0 i) && Nat.ble k ops.length &&
  ((List.range ops.length).all fun i => ((ops[i]?).map fun o => (edges o).all (fun e => Nat.blt e i)).getD false) &&
  ((List.range ops.length).all fun i => Nat.blt i k || (List.range k).all (fun j => Nat.blt j k0 || anc ops i j)) && gi.all (fun i => ord.elem i)
section
variable {P : Program} {n : Nat} {ops : List Oper} {Q : Exit → Act → World → Prop} {w0 : World} {L0 : Env} {G : List (Nat × GD)} {ord gi : List Nat} {k0 k : Nat}
structure ChkY (n : Nat) (ops : List Oper) (ord gi : List Nat) (k0 k : Nat) : Prop where
  sel : ∀ o ∈ ops, isSelect o.op = false
  dlt : ∀ o ∈ ops, ∀ d, o.dst = some d → d < n
  one : ∀ (i j : Nat) (oi oj : Oper) (t : Nat), ops[i]? = some oi → ops[j]? = some oj → oi.dst = some t → oj.dst = some t → i = j
  cover : ∀ i, k0 ≤ i → i < k → i ∈ ord
  nodup : ord.Nodup
  ok : ordX ops gi [] ord = true
  lt : ∀ i ∈ ord, i < k
  ge : ∀ i ∈ ord, k0 ≤ i
  le : k ≤ ops.length
  ed : ∀ (i : Nat) (o : Oper), ops[i]? = some o → ∀ e ∈ edges o, e < i
  tl : ∀ i, i < ops.length → k ≤ i → ∀ j, k0 ≤ j → j < k → anc ops i j = true
  gi : ∀ i ∈ gi, i ∈ ord
/-- What is so on the way. -/
structure StY (P : Program) (n : Nat) (ops : List Oper) (k0 : Nat) (w0 : World) (L0 : Env) (G : List (Nat × GD)) (K : Env → List Fact → Prop) (ord : List Nat) (D : Nat → Bool) (V : Nat → Value) (ξ : (i : Nat) → (gdOf G i).X) (a : Act) (w : World) : Prop where
  closed : ∀ (i : Nat) (o : Oper), ops[i]? = some o → D i = true → ∀ e ∈ edges o, D e = true
  size : a.tmps.size = n
  defers : a.defers = []
  slot : ∀ (i : Nat) (o : Oper) (d : Nat), k0 ≤ i → ops[i]? = some o → D i = true → o.dst = some d → a.tmps[d]? = some (gave G V ξ i)
  old : ∀ t v, look L0 t = some v → (∀ (i : Nat) (o : Oper), k0 ≤ i → ops[i]? = some o → D i = true → o.dst ≠ some t) → a.tmps[t]? = some v
  kp : Kp [] w0 w
  ph : ∀ i, isGh G i = true → D i = true → (gdOf G i).phi (ξ i) w
  live : Live P w0 ops G K D V ξ ord L0 []
/-- The first k are done. -/
def lst (N k : Nat) : Array Bool := ((List.range N).map (fun i => decide (i < k))).toArray
/-- The region, its first k done. -/
def RG (P : Program) (n : Nat) (ops : List Oper) (Q : Exit → Act → World → Prop) (k : Nat) (L : Env) (w : World) : Prop := ∀ a, Fits n a L → Go.wpAny P .any ops.toArray Q (ops.length - k) (lst ops.length k) a w
def KY (n : Nat) (w0 : World) (P : Program) (ops : List Oper) (Q : Exit → Act → World → Prop) (k : Nat) (L : Env) (Γ : List Fact) : Prop :=
  ∀ w', Kp [] w0 w' → (∀ p ∈ Γ, p.2 w') → RG P n ops Q k L w'
theorem cnt_of {listed : Array Bool} (hle : k ≤ ops.length) (hdec : ∀ i, i < ops.length → listed.getD i true = decide (i < k)) : (List.range ops.length).countP (fun i => !listed.getD i true) = ops.length - k := by
  have e1 : (List.range ops.length).countP (fun i => !listed.getD i true) = (List.range ops.length).countP (fun i => !decide (i < k)) := by
    apply List.countP_congr
    intro i hi
    rw [hdec i (by simpa using hi)]
  rw [e1]
  have : ops.length = k + (ops.length - k) := by omega
  rw [this, List.range_add, List.countP_append, List.countP_map]
  have h1 : (List.range k).countP (fun i => !decide (i < k)) = 0 := by
    rw [List.countP_eq_zero]; intro i hi; simp at hi; simp [hi]
  have h2 : (List.range (ops.length - k)).countP ((fun i => !decide (i < k)) ∘ fun x => k + x) = (List.range (ops.length - k)).length := by
    rw [List.countP_eq_length]; intro i hi; simp
  rw [h1, h2]
  simp
end
end Go.Proofs.YtajllbdeoopimaaGreat
namespace Go.Proofs.YtajllbdeoopimaaGreat
set_option linter.unusedVariables false
def giR (G : List RE) : List Nat := (G.map (·.i)).filter (fun i => Nat.blt i 1000)
theorem isR_iff {G : List RE} {i : Nat} (hi : i < 1000) : isR G i = (giR G).elem i := by
  rw [Bool.eq_iff_iff, List.elem_eq_mem, decide_eq_true_iff]
  unfold isR giR
  rw [List.any_eq_true, List.mem_filter, List.mem_map]
  constructor
  · rintro ⟨e, he, h⟩
    exact ⟨⟨e, he, by simpa using h⟩, by simp [Nat.blt_eq, hi]⟩
  · rintro ⟨⟨e, he, h⟩, _⟩
    exact ⟨e, he, by simp [h]⟩
theorem befs_len : ∀ (r : List Oper) (acc : List Nat), (befs r acc).length = acc.length + r.length
  | [], acc => by simp [befs]
  | o :: r, acc => by simp only [befs]; rw [befs_len r]; simp; omega
/-- Where nothing is done the values don't count. -/
theorem LiveR.anyV {P : Program} {S : List Nat} {w0 : World} {ops : List Oper} {G : List RE} {K : Env → Gm → Prop} {D : Nat → Bool} {V V' : Nat → Value} : ∀ {ord : List Nat} {L : Env} {Γ : Gm}, (∀ i ∈ ord, D i = false) → LiveR P S w0 ops G K D V ord L Γ → LiveR P S w0 ops G K D V' ord L Γ
  | [], _, _, _, h => h
  | i :: ord, L, Γ, he, ⟨o, ho, h⟩ => by
    have e1 := he i (by simp)
    have he' : ∀ j ∈ ord, D j = false := fun j hj => he j (by simp [hj])
    refine ⟨o, ho, ?_⟩
    rcases h with ⟨hg, h⟩ | ⟨hg, h⟩
    · refine Or.inl ⟨hg, ?_⟩
      rcases h with ⟨hd, h⟩ | ⟨hd, hw, h⟩ | ⟨hd, hw, v, hk, hc, h⟩
      · rw [e1] at hd; cases hd
      · exact Or.inr (Or.inl ⟨hd, hw, LiveR.anyV he' h⟩)
      · exact Or.inr (Or.inr ⟨hd, hw, v, hk, hc, LiveR.anyV he' h⟩)
    · refine Or.inr ⟨hg, ?_⟩
      rcases h with ⟨hd, h⟩ | ⟨hd, hw, hk, hc, h⟩
      · rw [e1] at hd; cases hd
      · exact Or.inr ⟨hd, hw, hk, hc, fun x => LiveR.anyV he' (h x)⟩
section
variable {P : Program} {n : Nat} {S : List Nat} {ops : List Oper} {Q : Exit → Act → World → Prop} {w0 : World} {L0 : Env} {G : List RE} {Γ0 : Gm} {ord : List Nat} {k : Nat}
structure StR (P : Program) (n : Nat) (S : List Nat) (ops : List Oper) (w0 : World) (L0 : Env) (G : List RE) (Γ0 : Gm) (K : Env → Gm → Prop) (ord : List Nat) (D : Nat → Bool) (V : Nat → Value) (a : Act) (w : World) : Prop where
  closed : ∀ (i : Nat) (o : Oper), ops[i]? = some o → D i = true → ∀ e ∈ edges o, D e = true
  size : a.tmps.size = n
  defers : a.defers = []
  slot : ∀ (i : Nat) (o : Oper) (d : Nat), ops[i]? = some o → D i = true → o.dst = some d → a.tmps[d]? = some (V i)
  old : ∀ t v, look L0 t = some v → (∀ (i : Nat) (o : Oper), ops[i]? = some o → D i = true → o.dst ≠ some t) → a.tmps[t]? = some v
  ok : SOk S w0 G D V w
  ini : ∀ p ∈ Γ0, V p.1 = p.2 ∧ D p.1 = true ∧ ops.length ≤ p.1
  live : LiveR P S w0 ops G K D V ord L0 Γ0
theorem StR.looks {K : Env → Gm → Prop} {D : Nat → Bool} {V : Nat → Value} {a : Act} {w : World} (c : ChkX n ops ord (giR G) k) (hst : StR P n S ops w0 L0 G Γ0 K ord D V a w) (htl : ∀ i, i < ops.length → k ≤ i → D i = false)
    {r : Nat} {o : Oper} {A B : List Nat} {L' : Env} (he : ord = A ++ r :: B) (ho : ops[r]? = some o) (hdr : D r = false) (hanc : ∀ j, anc ops r j = true → D j = true) (hway : WayR ops L0 D V (A.reverse ++ []) L') :
    ∀ t ∈ lks ops o, ∀ v, look L' t = some v → a.tmps[t]? = some v := by
  intro t ht v hv
  obtain ⟨g1, _⟩ := ordX_spec ord [] c.ok A r B he o ho
  rcases hway t v hv with ⟨j, hj, h1, h2⟩ | ⟨h1, h2⟩
  · have hjA : j ∈ A := by simpa using hj
    have hdj := hanc j ((g1 t ht).1 j (Or.inl hjA) h1)
    unfold dstOf at h1
    cases hoj : ops[j]? with
    | none => rw [hoj] at h1; simp at h1
    | some oj =>
      rw [hoj] at h1
      simp only [Option.bind_some] at h1
      rw [hst.slot j oj t hoj hdj h1, h2 hdj]
  · refine hst.old t v h2 (fun i oi hoi hdi e => ?_)
    have hil := (List.getElem?_eq_some_iff.1 hoi).1
    have hik : i < k := by
      by_cases h : i < k
      · exact h
      · rw [htl i hil (by omega)] at hdi; cases hdi
    have hio := c.cover i hik
    have hdi' : dstOf ops i = some t := by simp [dstOf, hoi, e]
    rw [he] at hio
    rcases List.mem_append.1 hio with hA | hB
    · exact h1 i (by simpa using hA) hdi'
    · rcases List.mem_cons.1 hB with rfl | hB
      · rw [hdr] at hdi; cases hdi
      · have h3 := (g1 t ht).2 i hB hdi'
        have := anc_closed hst.closed i oi hoi (hst.closed i oi hoi hdi) r h3
        rw [hdr] at this
        cases this
/-- One is done. -/
theorem StR.did {K : Env → Gm → Prop} {D : Nat → Bool} {V : Nat → Value} {a : Act} {w w' : World} (c : ChkX n ops ord (giR G) k) (hst : StR P n S ops w0 L0 G Γ0 K ord D V a w) {r : Nat} {o : Oper} {v : Value} (ho : ops[r]? = some o) (hed : ∀ e ∈ edges o, D e = true)
    (hok : SOk S w0 G (setD D r) (updR V r v) w') (hlive : LiveR P S w0 ops G K (setD D r) (updR V r v) ord L0 Γ0) :
    StR P n S ops w0 L0 G Γ0 K ord (setD D r) (updR V r v) (a.put o.dst v) w' := by
  have hrl := (List.getElem?_eq_some_iff.1 ho).1
  refine ⟨fun i oi hoi hdi e he => ?_, ?_, ?_, fun i oi d hoi hdi hd => ?_, fun t u hu hno => ?_, hok, fun p hp => ?_, hlive⟩
  · by_cases hir : i = r
    · subst hir
      rw [ho] at hoi
      cases hoi
      exact setD_of (hed e he)
    · rw [setD_ne hir] at hdi
      exact setD_of (hst.closed i oi hoi hdi e he)
  · cases hdd : o.dst with
    | none => exact hst.size
    | some d => simp [Act.put, hst.size]
  · cases hdd : o.dst <;> exact hst.defers
  · by_cases hir : i = r
    · subst hir
      rw [ho] at hoi
      cases hoi
      rw [hd, updR_same]
      exact put_here hst.size (c.dlt o (List.mem_of_getElem? ho) d hd)
    · rw [setD_ne hir] at hdi
      rw [updR_ne hir]
      exact put_slot hst.size d _ (hst.slot i oi d hoi hdi hd) (fun e => hir (c.one i r oi o d hoi ho hd e))
  · refine put_slot hst.size t u (hst.old t u hu (fun i oi hoi hdi => hno i oi hoi (setD_of hdi))) (hno r o ho setD_same)
  · obtain ⟨h1, h2, h3⟩ := hst.ini p hp
    exact ⟨by rw [updR_ne (by omega)]; exact h1, setD_of h2, h3⟩
def KR (n : Nat) (S : List Nat) (w0 : World) (P : Program) (ops : List Oper) (Q : Exit → Act → World → Prop) (k : Nat) (G : List RE) (L : Env) (Γ : Gm) : Prop :=
  ∀ w' V, SOk S w0 G (fun _ => true) V w' → (∀ p ∈ Γ, V p.1 = p.2) → SG P n ops Q (ops.drop k) L w'
theorem StR.wpAny (c : ChkX n ops ord (giR G) k) (hG : ∀ e ∈ G, e.Ok) (hlen : ops.length ≤ 1000) : ∀ (fuel : Nat) (listed : Array Bool) (V : Nat → Value) (a : Act) (w : World),
    listed.size = ops.length → StR P n S ops w0 L0 G Γ0 (KR n S w0 P ops Q k G) ord (fun j => listed.getD j true) V a w → (∀ i, i < ops.length → k ≤ i → listed.getD i true = false) →
    (List.range ops.length).countP (fun i => !listed.getD i true) = fuel → Go.wpAny P .any ops.toArray Q fuel listed a w := by
  have hfin : ∀ (listed : Array Bool) (V : Nat → Value) (a : Act) (w : World), listed.size = ops.length → StR P n S ops w0 L0 G Γ0 (KR n S w0 P ops Q k G) ord (fun j => listed.getD j true) V a w → (∀ i, i < ops.length → k ≤ i → listed.getD i true = false) → (∀ i, i < k → listed.getD i true = true) → wpList P ops.toArray Q (ops.drop k) a w := by
    intro listed V a w hsz hst htl hpre
    obtain ⟨L', Γ', h1, h2, h3⟩ := LiveR.done (L0 := L0) (pre := []) (fun i hi => hpre i (c.lt i hi)) WayR.nil (fun p hp => (hst.ini p hp).1) hst.live
    refine h3 w V (hst.ok.congr (fun e he => ⟨?_, rfl⟩)) h2 a ⟨fun t v hv => ?_, hst.size, hst.defers⟩
    · by_cases h : e.i < 1000
      · have hg : (giR G).elem e.i = true := by
          rw [← isR_iff h]
          exact List.any_eq_true.2 ⟨e, he, by simp⟩
        rw [List.elem_eq_mem] at hg
        exact hpre _ (c.lt _ (c.gi _ (of_decide_eq_true hg)))
      · simp [Array.getD_eq_getD_getElem?, Array.getElem?_eq_none (show listed.size ≤ e.i by omega)]
    · rcases h1 t v hv with ⟨j, hj, g1, g2⟩ | ⟨g1, g2⟩
      · have hjo : j ∈ ord := by simpa using hj
        have hdj := hpre j (c.lt j hjo)
        unfold dstOf at g1
        cases hoj : ops[j]? with
        | none => rw [hoj] at g1; simp at g1
        | some oj =>
          rw [hoj] at g1
          simp only [Option.bind_some] at g1
          rw [hst.slot j oj t hoj hdj g1, g2 hdj]
      · refine hst.old t v g2 (fun i oi hoi hdi e => ?_)
        have hil := (List.getElem?_eq_some_iff.1 hoi).1
        have hik : i < k := by
          by_cases h : i < k
          · exact h
          · simp only [htl i hil (by omega)] at hdi; cases hdi
        exact g1 i (by simpa using c.cover i hik) (by simp [dstOf, hoi, e])
  intro fuel
  induction fuel with
  | zero =>
    intro listed V a w hsz hst htl hcnt
    rw [List.countP_eq_zero] at hcnt
    have hall : ∀ i, i < ops.length → listed.getD i true = true := fun i hi => by simpa using hcnt i (by simpa using hi)
    have hle := c.le
    have hk : k = ops.length := by
      by_cases h : k < ops.length
      · have := htl k h (Nat.le_refl _)
        rw [hall k h] at this
        cases this
      · omega
    exact wpAny_tail c.ed 0 k listed a w (by omega) hsz c.tl hst.closed (fun i hi => by rw [hall i hi]; simp; omega) (hfin listed V a w hsz hst htl (fun i hi => hall i (by omega)))
  | succ fuel ih =>
    intro listed V a w hsz hst htl hcnt
    have hle := c.le
    by_cases hpre : ∀ i, i < k → listed.getD i true = true
    · have hdec : ∀ i, i < ops.length → listed.getD i true = decide (i < k) := by
        intro i hi
        by_cases hik : i < k
        · rw [hpre i hik]; simp [hik]
        · rw [htl i hi (by omega)]; simp [hik]
      have hm : k + (fuel + 1) = ops.length := by
        have := cnt_of hle hdec
        omega
      exact wpAny_tail c.ed (fuel + 1) k listed a w hm hsz c.tl hst.closed hdec (hfin listed V a w hsz hst htl hpre)
    · constructor
      · intro hr
        exfalso
        apply hpre
        intro i
        induction i using Nat.strongRecOn with
        | _ i ihi =>
          intro hik
          cases hd : listed.getD i true with
          | true => rfl
          | false =>
            exfalso
            have : i ∈ Region.ready .any ops.toArray listed := by
              refine (ready_iff hsz).2 ⟨ops[i], by simp, hd, fun e he => ?_⟩
              have hei := c.ed i ops[i] (by simp) e he
              have := ihi e hei (by omega)
              simp only [Array.getD_eq_getD_getElem?] at this ⊢
              rw [Array.getElem?_eq_getElem (by omega)] at this ⊢
              exact this
            rw [hr] at this
            cases this
      · intro i hi
        obtain ⟨o, ho, hnd, hed'⟩ := (ready_iff hsz).1 hi
        have hil : i < ops.length := (List.getElem?_eq_some_iff.1 ho).1
        have hed : ∀ e ∈ edges o, listed.getD e true = true := by
          intro e he
          have := hed' e he
          simp only [Array.getD_eq_getD_getElem?] at this ⊢
          cases h : listed[e]? with
          | none => rfl
          | some b => rw [h] at this; exact this
        have hanc : ∀ j, anc ops i j = true → listed.getD j true = true := anc_closed hst.closed i o ho hed
        have hsz' : (listed.setIfInBounds i true).size = ops.length := by simp [hsz]
        have hset : (fun j => (listed.setIfInBounds i true).getD j true) = setD (fun j => listed.getD j true) i := funext fun j => getD_set (by omega)
        have hini : ∀ p ∈ Γ0, listed.getD p.1 true = true ∧ V p.1 = p.2 := fun p hp => ⟨(hst.ini p hp).2.1, (hst.ini p hp).1⟩
        have hlater : ∀ j, anc ops j i = true → listed.getD j true = false := by
          intro j hj
          cases hd : listed.getD j true with
          | false => rfl
          | true =>
            exfalso
            by_cases hjl : j < ops.length
            · have hoj : ops[j]? = some ops[j] := by simp
              have := anc_closed hst.closed j ops[j] hoj (hst.closed j ops[j] hoj hd) i hj
              rw [hnd] at this
              cases this
            · unfold anc at hj
              rw [List.getD_eq_getElem?_getD, List.getElem?_eq_none (by rw [befs_len]; simp; omega)] at hj
              simp at hj
        by_cases hik : i < k
        · have htl' : ∀ j, j < ops.length → k ≤ j → (listed.setIfInBounds i true).getD j true = false := by
            intro j hj hkj
            rw [getD_set (by omega), setD_ne (by omega)]
            exact htl j hj hkj
          have hcnt' : (List.range ops.length).countP (fun j => !(listed.setIfInBounds i true).getD j true) = fuel := by
            have key : ∀ (l : List Nat), l.Nodup → i ∈ l → l.countP (fun j => !listed.getD j true) = l.countP (fun j => !(listed.setIfInBounds i true).getD j true) + 1 := by
              intro l
              induction l with
              | nil => intro _ h; cases h
              | cons y l ihl =>
                intro hnl hm
                rw [List.nodup_cons] at hnl
                rw [List.countP_cons, List.countP_cons]
                by_cases e : y = i
                · subst e
                  have hsame : l.countP (fun j => !listed.getD j true) = l.countP (fun j => !(listed.setIfInBounds y true).getD j true) := by
                    apply List.countP_congr
                    intro j hj
                    rw [getD_set (by omega), setD_ne (show j ≠ y from fun e1 => hnl.1 (e1 ▸ hj))]
                  rw [hsame, getD_set (by omega), setD_same, hnd]
                  simp
                · have hm' : i ∈ l := by
                    rcases List.mem_cons.1 hm with h | h
                    · exact absurd h.symm e
                    · exact h
                  rw [ihl hnl.2 hm', getD_set (by omega), setD_ne e]
                  omega
            have := key (List.range ops.length) List.nodup_range (by simpa using hil)
            omega
          have hio := c.cover i hik
          cases hg : isR G i with
          | false =>
            have hgd : ∀ g A B, ord = A ++ g :: B → i ∈ B → isR G g = true → listed.getD g true = true := by
              intro g A B he hb hgg
              have hgo : g ∈ ord := by rw [he]; simp
              have hgl : g < ops.length := Nat.lt_of_lt_of_le (c.lt g hgo) hle
              obtain ⟨_, g2⟩ := ordX_spec ord [] c.ok A g B he ops[g] (by simp [hgl])
              rcases g2 (by rw [← isR_iff (by omega)]; exact hgg) i hb with h | h
              · rw [← isR_iff (by omega), hg] at h; cases h
              · exact hanc g h
            obtain ⟨o', L', Γ', A, B, e1, e2, e3, e4, e5⟩ := LiveR.plain (D := fun j => listed.getD j true) hg hnd c.nodup hio hgd WayR.nil hini hst.live
            have heo : o = o' := Option.some.inj (ho.symm.trans e2)
            subst heo
            have hlk := hst.looks c htl e1 ho hnd hanc e3
            rcases e5 with ⟨hw, hl⟩ | ⟨hw, v, hkn, hrun, hl⟩
            · refine wpOp_of ho (wanted_of hlk hw) (fun h => by cases h) (fun _ => ?_)
              refine ih _ (updR V i undef) _ w hsz' ?_ htl' hcnt'
              rw [hset]
              exact hst.did c ho hed (hst.ok.congr (fun e he => ⟨(setD_ne (D := fun j => listed.getD j true) (isR_no hg he)).symm, (updR_ne (isR_no hg he)).symm⟩)) hl
            · refine wpOp_of ho (wanted_of hlk hw) (fun _ => ?_) (fun h => by cases h)
              have hr := hrun w hst.ok.kp (fun p hp ha e he hei => by
                obtain ⟨h1, h2⟩ := e4 p hp
                rw [← h2, ← hei]
                exact hst.ok.row e he (by rw [hei]; exact h1))
              have hr' := OpRun.congr (c.sel o (List.mem_of_getElem? ho)) (eval_of hlk hkn) hr
              refine hr'.wp (fun v' w' ⟨h1, h2⟩ => ?_)
              subst h1
              refine ih _ (updR V i v') _ w' hsz' ?_ htl' hcnt'
              rw [hset]
              exact hst.did c ho hed ((hst.ok.kp0 hG h2).congr (fun e he => ⟨(setD_ne (D := fun j => listed.getD j true) (isR_no hg he)).symm, (updR_ne (isR_no hg he)).symm⟩)) hl
          | true =>
            obtain ⟨o', L', Γ', A, B, e1, e2, e3, e4, hw, hkn, hrun, hl⟩ := LiveR.effect (D := fun j => listed.getD j true) hg hnd c.nodup hio WayR.nil (fun p hp _ => (hini p hp).2) hst.live
            have heo : o = o' := Option.some.inj (ho.symm.trans e2)
            subst heo
            have hlk := hst.looks c htl e1 ho hnd hanc e3
            refine wpOp_of ho (wanted_of hlk hw) (fun _ => ?_) (fun h => by cases h)
            have hr := hrun (fun j => listed.getD j true) V w hst.ok (fun p hp hs => by
              have hD : listed.getD p.1 true = true := by
                unfold sees at hs
                rw [Bool.or_eq_true] at hs
                rcases hs with hs | hs
                · have hs := Nat.le_of_ble_eq_true hs
                  simp [Array.getD_eq_getD_getElem?, Array.getElem?_eq_none (show listed.size ≤ p.1 by omega)]
                · exact hanc p.1 hs
              exact ⟨hD, e4 p hp hD⟩) hnd hlater
            have hr' := OpRun.congr (c.sel o (List.mem_of_getElem? ho)) (eval_of hlk hkn) hr
            refine hr'.wp (fun v' w' hok => ?_)
            refine ih _ (updR V i v') _ w' hsz' ?_ htl' hcnt'
            rw [hset]
            exact hst.did c ho hed hok (hl v')
        · exfalso
          apply hpre
          intro j hj
          exact hanc j (c.tl i hil (by omega) j (by omega))
/-- The rule, with slices that were there before (Γ0, their places from 1000 on). -/
theorem CG.rowsI {id : Nat} (hm : P.follows .mixedOrders = true) (k : Nat) (ord : List Nat) (G : List RE) (Γ0 : Gm) (S : List Nat) (V0 : Nat → Value) (hc : chkX n ops ord (giR G) k = true) (hlen : Nat.ble ops.length 1000 = true) (hG : ∀ e ∈ G, e.Ok)
    (h0 : ∀ w', Kp [] w0 w' → SOk S w0 G (fun j => Nat.ble 1000 j) V0 w') (hV : ∀ p ∈ Γ0, V0 p.1 = p.2 ∧ 1000 ≤ p.1)
    (h : DerR P S w0 ops G (KR n S w0 P ops Q k G) ord L0 Γ0) : CG P n (.region id ops.toArray true) Q L0 w0 := by
  intro a ha
  have c := ChkX.of hc
  have hlen := Nat.le_of_ble_eq_true hlen
  refine wp_region_any hm ?_
  have hget : ∀ j, (Array.replicate ops.toArray.size false).getD j true = !decide (j < ops.length) := by
    intro j
    simp [Array.getD_eq_getD_getElem?, Array.getElem?_replicate]
    split <;> simp_all
  refine StR.wpAny (S := S) (w0 := w0) (L0 := L0) (G := G) (Γ0 := Γ0) c hG hlen _ _ V0 a _ (by simp) ?_ ?_ ?_
  · have hD : (fun j => (Array.replicate ops.toArray.size false).getD j true) = fun j => !decide (j < ops.length) := funext hget
    rw [hD]
    refine ⟨fun i o ho hd => ?_, ha.size, ha.defers, fun i o d ho hd => ?_, fun t v hv _ => ha.slot t v hv, (h0 _ (Kp.refl [] w0).drew).congr (fun e he => ⟨?_, rfl⟩), fun p hp => ?_, ?_⟩
    · simp [(List.getElem?_eq_some_iff.1 ho).1] at hd
    · simp [(List.getElem?_eq_some_iff.1 ho).1] at hd
    · by_cases h : e.i < 1000
      · have hg : (giR G).elem e.i = true := by
          rw [← isR_iff h]
          exact List.any_eq_true.2 ⟨e, he, by simp⟩
        rw [List.elem_eq_mem] at hg
        have h1 := c.lt _ (c.gi _ (of_decide_eq_true hg))
        have h2 := c.le
        have h3 : e.i < ops.length := by omega
        have h4 : Nat.ble 1000 e.i = false := by
          rw [← Bool.not_eq_true, Nat.ble_eq]; omega
        simp [h3, h4]
      · have h3 : ¬ e.i < ops.length := by omega
        have h4 : Nat.ble 1000 e.i = true := by rw [Nat.ble_eq]; omega
        simp [h3, h4]
    · obtain ⟨h1, h2⟩ := hV p hp
      have h3 : ¬ p.1 < ops.length := by omega
      exact ⟨h1, by simp [h3], by omega⟩
    · refine LiveR.congr (fun i hi => ⟨?_, ?_⟩) (show LiveR P S w0 ops G (KR n S w0 P ops Q k G) (fun _ => false) V0 ord L0 Γ0 from ?_)
      · have h1 := c.lt i hi
        have hle := c.le
        have hil : i < ops.length := by omega
        simp [hil]
      · rfl
      · exact LiveR.anyV (fun _ _ => rfl) h
  · intro i hi _
    rw [hget]; simp [hi]
  · have : (List.range ops.length).countP (fun i => !(Array.replicate ops.toArray.size false).getD i true) = (List.range ops.length).length := by
      rw [List.countP_eq_length]
      intro i hi
      rw [hget]
      simp at hi
      simp [hi]
    rw [this]
    simp
theorem CG.rows {id : Nat} (hm : P.follows .mixedOrders = true) (k : Nat) (ord : List Nat) (G : List RE) (hc : chkX n ops ord (giR G) k = true) (hlen : Nat.ble ops.length 1000 = true) (hlow : G.all (fun e => Nat.blt e.i 1000) = true) (hG : ∀ e ∈ G, e.Ok)
    (h : DerR P [] w0 ops G (KR n [] w0 P ops Q k G) ord L0 []) : CG P n (.region id ops.toArray true) Q L0 w0 := by
  have hno : ∀ e ∈ G, Nat.ble 1000 e.i = true → False := fun e he h1 => by
    have h2 := List.all_eq_true.1 hlow e he
    rw [Nat.blt_eq] at h2
    have h3 := Nat.le_of_ble_eq_true h1
    omega
  exact CG.rowsI hm k ord G [] [] (fun _ => undef) hc hlen hG (fun w' hk => ⟨hk, fun e he h1 => (hno e he h1).elim, fun e he e' _ h1 => (hno e he h1).elim, fun e he h1 => (hno e he h1).elim⟩) (fun p hp => by cases hp) h
end
end Go.Proofs.YtajllbdeoopimaaGreat
namespace Go.Proofs.YtajllbdeoopimaaGreat
set_option linter.unusedVariables false
section
variable {P : Program} {n : Nat} {ops : List Oper} {Q : Exit → Act → World → Prop} {w w0 : World} {L : Env} {ty : TypeId} {pos : String} {af : Array Edge} {g : Option (Nat × Bool)} {rest : List Oper}
end
end Go.Proofs.YtajllbdeoopimaaGreat
namespace Go.Proofs.YtajllbdeoopimaaGreat
set_option linter.unusedVariables false
/-- An owned row; a slice written out. -/
def oP {α : Type} (base : Nat) (E : TypeId) (sz : Nat) (enc : α → List Value) (l : List α) : Value → World → Prop := fun v w => w.ownsRow base E sz v l.length (flt enc l)
def bP (m : Nat) (E : TypeId) (k : Nat) (cs : Array Value) : Value → World → Prop := fun v w => ∃ b f, v = .slice (some ⟨b, 0, none⟩) k k ∧ m ≤ b ∧ Blk w b (.cells cs E f)
theorem oP_ok {α : Type} {i ch base : Nat} {E : TypeId} {sz : Nat} {enc : α → List Value} {l : List α} : RE.Ok ⟨i, ch, oP base E sz enc l⟩ := by
  refine ⟨fun v w w' _ h hp => ?_, fun v w b hp hb => ?_⟩
  · rcases hp with ⟨h1, h2 | ⟨g, cap, cur, rfl, hg, hh, hr⟩⟩
    · exact ⟨h1, Or.inl h2⟩
    · exact ⟨h1, Or.inr ⟨g, cap, cur, rfl, hg, h g _ rfl hh, hr⟩⟩
  · rcases hp with ⟨h1, ⟨rfl, _⟩ | ⟨g, cap, cur, rfl, hg, hh, hr⟩⟩
    · cases hb
    · cases hb
      exact (Array.getElem?_eq_some_iff.1 hh).1
theorem bP_ok {i ch m k : Nat} {E : TypeId} {cs : Array Value} : RE.Ok ⟨i, ch, bP m E k cs⟩ := by
  refine ⟨fun v w w' _ h hp => ?_, fun v w b hp hb => ?_⟩
  · obtain ⟨b, f, rfl, hm, hB⟩ := hp
    exact ⟨b, f, rfl, hm, h b _ rfl hB⟩
  · obtain ⟨b, f, rfl, hm, hB⟩ := hp
    cases hb
    exact hB.lt
inductive OkL : List RE → Prop
  | nil : OkL []
  | cons {e : RE} {r : List RE} : e.Ok → OkL r → OkL (e :: r)
theorem OkL.all : ∀ {G : List RE}, OkL G → ∀ e ∈ G, e.Ok
  | _, .nil, _, h => by cases h
  | _, .cons h1 h2, e, h => by
    rcases List.mem_cons.1 h with rfl | h
    · exact h1
    · exact h2.all e h
theorem oP.sl {α : Type} {base : Nat} {E : TypeId} {sz : Nat} {enc : α → List Value} {l : List α} {v : Value} {w : World} (he : ∀ x, (enc x).length = sz) (h : oP base E sz enc l v w) : ∃ a c, v = .slice a l.length c ∧ Sl enc sz w a l := by
  obtain ⟨a, c, h1, _, h2⟩ := Sl.own he h rfl
  exact ⟨a, c, h1, h2⟩
def LeAll {α : Type} (n : Nat) : List (Nat × List α) → Prop
  | [] => True
  | q :: r => q.2.length ≤ n ∧ LeAll n r
theorem LeAll.mem {α : Type} {n : Nat} : ∀ {l : List (Nat × List α)}, LeAll n l → ∀ q ∈ l, q.2.length ≤ n
  | [], _, _, h => by cases h
  | q :: r, ⟨h1, h2⟩, p, h => by
    rcases List.mem_cons.1 h with rfl | h
    · exact h1
    · exact h2.mem p h
/-- Rows no longer than the elder one stay. -/
theorem app_keptS {w w' : World} {base n m sz : Nat} {e : TypeId} {v v' : Value} {xs news : List Value} (hown : w.ownsRow base e sz v n xs) (hown' : w'.ownsRow base e sz v' (n + m) (xs ++ news)) (hk : Kp (ownB v) w w') (h : Kp [] w w' ∨ Room e w v v' n m) {base2 n2 : Nat} {v2 : Value} {xs2 : List Value} (hn : n2 ≤ n) (h2 : w.ownsRow base2 e sz v2 n2 xs2) : w'.ownsRow base2 e sz v2 n2 xs2 := by
  rcases h with h | ⟨g, cap, cur, rfl, hB, hroom, rfl⟩
  · exact own_kp0 h2 h
  · have hk : Kp [g] w w' := hk
    obtain ⟨h20, ⟨rfl, h21⟩ | ⟨g2, cap2, cur2, rfl, hb2, hh2, hc1, hc2, hc3, hc4⟩⟩ := h2
    · exact ⟨h20, Or.inl ⟨rfl, h21⟩⟩
    · by_cases eg : g2 = g
      · subst eg
        have hu := hB.uniq hh2
        simp only [Obj.cells.injEq] at hu
        obtain ⟨rfl, _, _⟩ := hu
        obtain ⟨hx0, ⟨hx, _⟩ | ⟨g3, cap3, cur3, hx, hb3, hh3, d1, d2, d3, d4⟩⟩ := hown
        · cases hx
        · simp only [Value.slice.injEq, Option.some.injEq, Addr.mk.injEq] at hx
          obtain ⟨⟨rfl, _⟩, _, rfl⟩ := hx
          have hu := hB.uniq hh3
          simp only [Obj.cells.injEq] at hu
          obtain ⟨rfl, _, _⟩ := hu
          obtain ⟨hy0, ⟨hy, _⟩ | ⟨g4, cap4, cur4, hy, hb4, hh4, f1, f2, f3, f4⟩⟩ := hown'
          · cases hy
          · simp only [Value.slice.injEq, Option.some.injEq, Addr.mk.injEq] at hy
            obtain ⟨⟨rfl, _⟩, _, rfl⟩ := hy
            refine ⟨h20, Or.inr ⟨g2, cap2, cur4, rfl, hb2, hh4, hc1, hc2, by rw [f3, ← d3, hc3], ?_⟩⟩
            have h5 := congrArg (List.take (n * sz)) f4
            rw [List.take_take, Nat.min_eq_left (Nat.mul_le_mul_right sz (by omega)), List.take_append_of_le_length (by omega), ← hx0, List.take_length, hx0] at h5
            have h6 := congrArg (List.take (n2 * sz)) (h5.trans d4.symm)
            rw [List.take_take, List.take_take, Nat.min_eq_left (Nat.mul_le_mul_right sz hn)] at h6
            rw [h6, hc4]
      · exact ⟨h20, Or.inr ⟨g2, cap2, cur2, rfl, hb2, by rw [hk.blk g2 (Array.getElem?_eq_some_iff.1 hh2).1 (by simp [eg])]; exact hh2, hc1, hc2, hc3, hc4⟩⟩
/-- append of any slice to an owned row: all that comes of it. -/
theorem run_appA {α : Type} {enc : α → List Value} {P : Program} {w : World} {base : Nat} {t ty e : TypeId} {i : TypeInfo} [u : Ut P t (.slice e)] [f : Inf P e i] {z : Value} (hz : i.zero = some z) (hzs : z.cells.size = i.size) (hsz : 0 < i.size) (hel : ∀ x, (enc x).length = i.size) (hone : ∀ x, allOne (enc x) = true)
    {v : Value} {l ys : List α} (hown : w.ownsRow base e i.size v l.length (flt enc l)) {a2 : Option Addr} {c2 : Nat} (hS : Sl enc i.size w a2 ys) (h63 : l.length + ys.length ≤ maxLen) (hbytes : (l.length + ys.length) * i.bytes ≤ 140737488355328) (hbase : base ≤ w.heap.size) :
    ∃ v' w', (Builtin.append_ #[t, t] ty #[v, .slice a2 ys.length c2]).run P w = .ok v' w' ∧ w'.ownsRow base e i.size v' (l ++ ys).length (flt enc (l ++ ys)) ∧ Kp (ownB v) w w' ∧ (∀ g, v'.ownBlock = some g → v.ownBlock = some g ∨ w.heap.size ≤ g) ∧
      (∀ {base2 n2 : Nat} {v2 : Value} {xs2 : List Value}, n2 ≤ l.length → w.ownsRow base2 e i.size v2 n2 xs2 → w'.ownsRow base2 e i.size v2 n2 xs2) := by
  cases ys with
  | nil =>
    refine ⟨v, w, ?_, by rw [List.append_nil]; exact hown, Kp.refl _ _, fun g hg => Or.inl hg, fun _ h => h⟩
    simpa using run_app0 (P := P) (ty := ty) (u := u) (f := f) hown a2 c2
  | cons y ys =>
    obtain ⟨b, off, rfl, _⟩ := hS.at (i := 0) (by simp)
    have hr := Sl.flat hel (by simp) hS
    obtain ⟨v', w', e1, e2, e3, e4⟩ := run_appendR (P := P) (ty := ty) (c := c2) (u := u) (f := f) hz hzs hsz hown (m := (y :: ys).length) (flt_length hel _) hr (flt_all hone _) (by simp) h63 hbytes hbase
    refine ⟨v', w', e1, by rw [flt_append, List.length_append]; exact e2, e3, fun g hg => ?_, fun hn h2 => app_keptS hown e2 e3 e4 hn h2⟩
    rcases append_where (P := P) (ty := ty) (u := u) (f := f) hz hown (flt_length hel _) hr (flt_all hone _) h63 hbytes e1 g hg with h | h
    · exact Or.inl h
    · exact Or.inr (by omega)
section
variable {P : Program} {n : Nat} {S : List Nat} {ops : List Oper} {Q : Exit → Act → World → Prop} {w0 : World} {L : Env} {G : List RE} {K : Env → Gm → Prop} {Γ : Gm} {i : Nat} {ord : List Nat} {ty : TypeId} {pos : String} {af : Array Edge} {g : Option (Nat × Bool)}
theorem FactsR.get {w : World} (h : FactsR ops G i Γ w) {j : Nat} {v : Value} {E : RE} (hp : (j, v) ∈ Γ) (hs : sees ops i j = true) (hE : atR G j = [E]) : E.phi v w := h (j, v) hp hs E (atR_in hE).1 (atR_in hE).2
theorem SOk.get {V : Nat → Value} {w : World} (h : SOk S w0 G (fun _ => true) V w) (hV : ∀ p ∈ Γ, V p.1 = p.2) {j : Nat} {v : Value} {E : RE} (hp : (j, v) ∈ Γ) (hE : atR G j = [E]) : E.phi v w := by
  have h1 := h.row E (atR_in hE).1 rfl
  have h2 := hV _ hp
  rw [(atR_in hE).2] at h1
  simp only at h2
  rwa [h2] at h1
/-- .. maps too. -/
theorem SOk.apart2 {V : Nat → Value} {w : World} (h : SOk S w0 G (fun _ => true) V w) (hV : ∀ p ∈ Γ, V p.1 = p.2) {j j' : Nat} {v v' : Value} {E E' : RE} (hp : (j, v) ∈ Γ) (hp' : (j', v') ∈ Γ) (hE : atR G j = [E]) (hE' : atR G j' = [E']) (hc : E.ch ≠ E'.ch) : ∀ b, obk v = some b → obk v' ≠ some b := by
  have h1 := h.sep E (atR_in hE).1 E' (atR_in hE').1 rfl rfl hc
  rw [(atR_in hE).2, (atR_in hE').2] at h1
  have h2 := hV _ hp
  have h3 := hV _ hp'
  simp only at h2 h3
  rw [h2, h3] at h1
  exact h1
theorem DerR.val {d : Nat} {op : Op} {v : Value} (hg : isR G i = false) (ho : ops[i]? = some ⟨some d, op, ty, pos, af, g⟩) (hw : want ops L ⟨some d, op, ty, pos, af, g⟩ = some true) (hk : op.operands.toList.all (known L) = true)
    (hv : Vals P S w0 (FactsR ops G i Γ) L ⟨some d, op, ty, pos, af, g⟩ v) (h : DerR P S w0 ops G K ord ((d, v) :: L) Γ) : DerR P S w0 ops G K (i :: ord) L Γ :=
  ⟨_, ho, Or.inl ⟨hg, Or.inr (Or.inr ⟨rfl, hw, v, hk, fun w hkp hF => by unfold OpRun; rw [hv w hkp hF]; exact ⟨rfl, Kp.refl _ _⟩, h⟩)⟩⟩
theorem SOk.facts {D : Nat → Bool} {V : Nat → Value} {w : World} (h : SOk S w0 G D V w) (hc : ∀ p ∈ Γ, sees ops i p.1 = true → D p.1 = true ∧ V p.1 = p.2) : FactsR ops G i Γ w := fun p hp hs e he hi => by
  obtain ⟨h1, h2⟩ := hc p hp hs
  rw [← h2, ← hi]
  exact h.row e he (by rw [hi]; exact h1)
/-- An effect that makes something new. -/
theorem DerR.eff {o : Oper} {E : RE} (hE : atR G i = [E]) (ho : ops[i]? = some o) (hw : want ops L o = some true) (hk : o.op.operands.toList.all (known L) = true) (hG : OkL G)
    (hc : ∀ w, Kp S w0 w → FactsR ops G i Γ w → OpRun P (rho L) o w (fun v w' => E.phi v w' ∧ Kp [] w w' ∧ ∀ b, obk v = some b → w.heap.size ≤ b))
    (h : ∀ v, DerR P S w0 ops G K ord (addD o.dst v L) ((i, v) :: Γ)) : DerR P S w0 ops G K (i :: ord) L Γ := by
  have hr : isR G i = true := List.any_eq_true.2 ⟨E, (atR_in hE).1, by rw [(atR_in hE).2]; simp⟩
  exact ⟨o, ho, Or.inr ⟨hr, Or.inr ⟨rfl, hw, hk, fun D' V' w hs hcon hd hl => (hc w hs.kp (hs.facts hcon)).mono (fun v w' ⟨g1, g2, g3⟩ => hs.new hG.all hE g2 g1 g3), h⟩⟩⟩
/-- .. that is an owned row at once. -/
theorem DerR.buildO {α : Type} {enc : α → List Value} {base sz c d k : Nat} {T E : TypeId} {parts : List (Nat × Operand)} {vs : List (Nat × Value)} (l : List α) (hel : ∀ x, (enc x).length = sz) (hE : atR G i = [⟨i, c, oP base E sz enc l⟩]) (hl : k = l.length)
    (ho : ops[i]? = some ⟨some d, .buildSlice T k parts.toArray, ty, pos, af, g⟩) (hw : want ops L ⟨some d, .buildSlice T k parts.toArray, ty, pos, af, g⟩ = some true) (hk : (Op.buildSlice T k parts.toArray).operands.toList.all (known L) = true) (hG : OkL G)
    (he : (parts.map fun p => (p.1, rho L p.2)) = vs) (hm : base ≤ w0.heap.size) (hlen : l.length ≤ maxLen) (hrun : ∀ w : World, (Instr.buildSlice T k vs.toArray).run P w = .ok (.slice (some ⟨w.heap.size, 0, none⟩) k k) { w with heap := w.heap.push (.cells (flt enc l).toArray E) })
    (h : ∀ v, DerR P S w0 ops G K ord ((d, v) :: L) ((i, v) :: Γ)) : DerR P S w0 ops G K (i :: ord) L Γ := by
  subst hl
  refine DerR.eff hE ho hw hk hG (fun w h1 h2 => ?_) h
  unfold OpRun
  have e : (parts.toArray.map fun (p : Nat × Operand) => (p.1, rho L p.2)) = vs.toArray := by simp [he]
  have : (execOp (rho L) ⟨some d, .buildSlice T l.length parts.toArray, ty, pos, af, g⟩).run P w = .ok (.value (.slice (some ⟨w.heap.size, 0, none⟩) l.length l.length)) { w with heap := w.heap.push (.cells (flt enc l).toArray E) } := by
    simp only [execOp, e, Sem.run_bind, hrun w, Result.andThen, Sem.run_pure]
  rw [this]
  exact ⟨own_made hel (Blk.push w _) (Nat.le_trans hm h1.size) rfl hlen, Kp.push w _ rfl, fun b hb => by cases hb; exact Nat.le_refl _⟩
/-- 'append'. -/
theorem DerR.append {α : Type} {enc : α → List Value} {base d c src : Nat} {t e : TypeId} {inf : TypeInfo} [u : Ut P t (.slice e)] [f : Inf P e inf] {z : Value} {s y : Operand} {v v2 : Value} (l l2 : List α) (LL : List (Nat × List α)) (hel : ∀ x, (enc x).length = inf.size) (hone : ∀ x, allOne (enc x) = true)
    (hE : atR G i = [⟨i, c, oP base e inf.size enc (l ++ l2)⟩]) (hE0 : atR G src = [⟨src, c, oP base e inf.size enc l⟩])
    (hLL : G.filter (fun q => Nat.beq q.ch c && !Nat.beq q.i i && !anc ops q.i i) = LL.map (fun q => ⟨q.1, c, oP base e inf.size enc q.2⟩)) (hle : LeAll l.length LL)
    (ho : ops[i]? = some ⟨some d, .call { callee := .builtin .append, args := #[s, y], argTypes := #[t, t] }, ty, pos, af, g⟩) (hw : want ops L ⟨some d, .call { callee := .builtin .append, args := #[s, y], argTypes := #[t, t] }, ty, pos, af, g⟩ = some true) (hk : (known L s && known L y) = true) (hG : OkL G)
    (hs : rho L s = v) (hx : rho L y = v2) (hz : inf.zero = some z) (hzs : Nat.beq z.cells.size inf.size = true) (hsz : Nat.blt 0 inf.size = true) (h63 : l.length + l2.length ≤ maxLen) (hbytes : (l.length + l2.length) * inf.bytes ≤ 140737488355328) (hbase : base ≤ w0.heap.size)
    (hsrc : (src, v) ∈ Γ) (hsee : sees ops i src = true) (hY : ∀ w, Kp S w0 w → FactsR ops G i Γ w → ∃ a2 c2, v2 = .slice a2 l2.length c2 ∧ Sl enc inf.size w a2 l2)
    (h : ∀ v' : Value, DerR P S w0 ops G K ord ((d, v') :: L) ((i, v') :: Γ)) : DerR P S w0 ops G K (i :: ord) L Γ := by
  have hr : isR G i = true := List.any_eq_true.2 ⟨_, (atR_in hE).1, by simp⟩
  refine ⟨_, ho, Or.inr ⟨hr, Or.inr ⟨rfl, hw, by simpa [Op.operands, Call.operands] using hk, fun D' V' w hok hcon hd hl => ?_, h⟩⟩⟩
  have hF := hok.facts hcon
  obtain ⟨hds, hvs⟩ := hcon _ hsrc hsee
  simp only at hds hvs
  have hown : w.ownsRow base e inf.size v l.length (flt enc l) := hF.get hsrc hsee hE0
  obtain ⟨a2, c2, rfl, hS⟩ := hY w hok.kp hF
  obtain ⟨v', w', e1, e2, e3, e4, e5⟩ := run_appA (P := P) (ty := ty) (c2 := c2) (u := u) (f := f) hz (Nat.eq_of_beq_eq_true hzs) (by simpa [Nat.blt_eq] using hsz) hel hone hown hS h63 hbytes (Nat.le_trans hbase hok.kp.size)
  have hbS : ∀ b, v.ownBlock = some b → b ∈ S ∨ w0.heap.size ≤ b := fun b hb => by
    have := hok.own _ (atR_in hE0).1 (by simpa using hds) b
    simp only at this
    rw [hvs] at this
    exact this (obk_own hb)
  unfold OpRun
  have : (execOp (rho L) ⟨some d, .call { callee := .builtin .append, args := #[s, y], argTypes := #[t, t] }, ty, pos, af, g⟩).run P w = .ok (.value v') w' := by
    simp only [execOp, resolve, invoke, builtin, Sem.run_bind, Sem.run_pure, Result.andThen_ok, List.map_toArray, List.map_cons, List.map_nil, hs, hx, e1]
  rw [this]
  have hownB : ∀ z, z ∈ ownB v → v.ownBlock = some z := fun z hz => by
    unfold ownB at hz
    split at hz
    · rename_i b hb
      rw [List.mem_singleton] at hz
      rw [hb, hz]
    · cases hz
  refine hok.turn hG.all hE0 (by simpa using hds) hE rfl (hok.kp.trans_new e3 (fun z hz => hbS z (hownB z hz))) e3.size (fun z o hz hB => hB.kp e3 (fun hm => hz (by rw [hvs]; exact obk_own (hownB z hm)))) e2 (fun b hb => by rw [hvs, obk_row hown]; exact e4 b ((obk_row e2).symm.trans hb)) (fun q hq hc hi hdq hp => ?_)
  by_cases ha : anc ops q.i i = true
  · have := hl q.i ha
    rw [hdq] at this
    cases this
  · have hm : q ∈ G.filter (fun q => Nat.beq q.ch c && !Nat.beq q.i i && !anc ops q.i i) := by
      refine List.mem_filter.2 ⟨hq, ?_⟩
      have h1 : Nat.beq q.ch c = true := by rw [Nat.beq_eq]; exact hc
      have h2 : Nat.beq q.i i = false := by rw [← Bool.not_eq_true, Nat.beq_eq]; exact hi
      simp [h1, h2, ha]
    rw [hLL] at hm
    obtain ⟨qq, hqq, rfl⟩ := List.mem_map.1 hm
    exact e5 (hle.mem qq hqq) hp
theorem DerR.tl {k : Nat} (h : ∀ w' V, SOk S w0 G (fun _ => true) V w' → (∀ p ∈ Γ, V p.1 = p.2) → SG P n ops Q (ops.drop k) L w') : DerR P S w0 ops G (KR n S w0 P ops Q k G) [] L Γ := h
/-- With one owned row that was there before. -/
theorem CG.rows1 {α : Type} {L0 : Env} {enc : α → List Value} {E : TypeId} {id base sz c : Nat} {v : Value} {l : List α} (hm : P.follows .mixedOrders = true) (k : Nat) (ord : List Nat) (G : List RE) (hi : G.filter (fun e => Nat.ble 1000 e.i) = [⟨1000, c, oP base E sz enc l⟩]) (ho : w0.ownsRow base E sz v l.length (flt enc l)) (hc : chkX n ops ord (giR G) k = true) (hlen : Nat.ble ops.length 1000 = true) (hG : OkL G)
    (h : DerR P (ownB v) w0 ops G (KR n (ownB v) w0 P ops Q k G) ord L0 [(1000, v)]) : CG P n (.region id ops.toArray true) Q L0 w0 := by
  have hin : ∀ e ∈ G, Nat.ble 1000 e.i = true → e = ⟨1000, c, oP base E sz enc l⟩ := fun e he h1 => by
    have : e ∈ G.filter (fun e => Nat.ble 1000 e.i) := List.mem_filter.2 ⟨he, h1⟩
    rw [hi] at this
    simpa using this
  refine CG.rowsI hm k ord G [(1000, v)] (ownB v) (fun _ => v) hc hlen hG.all (fun w' hk => ⟨hk.any, fun e he h1 => ?_, fun e he e' he' h1 h2 hcc => ?_, fun e he h1 b hb => ?_⟩) (fun p hp => ?_) h
  · rw [hin e he h1]
    exact own_kp0 ho hk
  · rw [hin e he h1, hin e' he' h2] at hcc
    exact absurd rfl hcc
  · left
    have hb : v.ownBlock = some b := (obk_row ho).symm.trans hb
    unfold ownB
    rw [hb]
    simp
  · simp only [List.mem_singleton] at hp
    subst hp
    exact ⟨rfl, Nat.le_refl _⟩
end
end Go.Proofs.YtajllbdeoopimaaGreat
namespace Go.Proofs.YtajllbdeoopimaaGreat
set_option linter.unusedVariables false
def holdE (p : Pu) (h : Hd) : Int := if h.side < 0 ∨ 1 < h.side then 28 else if ¬ (someP h.amt ∧ farP h.til) then 2 else if placeN p.held h.name < p.held.length then 7 else if 16 ≤ p.held.length then 8 else if haveP p h.side < h.amt then 21 else 0
def holdQ (p : Pu) (h : Hd) : Pu := { addP p h.side (-h.amt) with held := p.held ++ [h] }
theorem bsH' (w : World) (a0 a1 a2 a3 a4 a5 a6 a7 : UInt8) (x y z : Int) : (Instr.buildSlice 45 1 #[(0, .agg #[bv a0, bv a1, bv a2, bv a3, bv a4, bv a5, bv a6, bv a7, .int .i64 x, .int .i64 y, .int .i64 z])]).run Tryz.prog w = .ok (.slice (some ⟨w.heap.size, 0, none⟩) 1 1) { w with heap := w.heap.push (.cells #[bv a0, bv a1, bv a2, bv a3, bv a4, bv a5, bv a6, bv a7, .int .i64 x, .int .i64 y, .int .i64 z] 86) } := by kernel_rfl
theorem bsH (h : Hd) (w : World) : (Instr.buildSlice 45 1 #[(0, hv h)]).run Tryz.prog w = .ok (.slice (some ⟨w.heap.size, 0, none⟩) 1 1) { w with heap := w.heap.push (.cells (hc h).toArray 86) } := by
  obtain ⟨⟨l, hl⟩, x, y, z⟩ := h
  match l, hl with
  | [a0, a1, a2, a3, a4, a5, a6, a7], _ => exact bsH' w a0 a1 a2 a3 a4 a5 a6 a7 x y z
/-- What is so of a purse that may be. -/
structure Pu.Ok (p : Pu) : Prop where
  n : farP p.num
  a : amtP p.h0
  b : amtP p.h1
  l : p.held.length ≤ 16
  s : amtP (sumP p)
  c : chkL [] p.held = 0
theorem pu_ok {p : Pu} (h : checkZ p = 0) : p.Ok := by
  by_cases h1 : farP p.num ∧ amtP p.h0 ∧ amtP p.h1
  · by_cases h2 : 16 < p.held.length
    · rw [checkZ_full h1 h2] at h
      cases h
    · by_cases h3 : chkL [] p.held = 0
      · rw [checkZ_sum h1 h2 h3] at h
        by_cases h4 : amtP (sumP p)
        · exact ⟨h1.1, h1.2.1, h1.2.2, by omega, h4, h3⟩
        · rw [if_neg h4] at h
          cases h
      · rw [checkZ_held h1 h2 rfl h3] at h
        exact absurd h h3
  · rw [checkZ_range h1] at h
    cases h
theorem pc_side {p : Pu} {s : Value} {j : Nat} (hj : j < 2) {z : Int} : spl (pc p s) (9 + j) [.int .i64 (haveP p (j : Int) + z)] = pc (addP p (j : Int) z) s := by
  have l8 : (dc p.name).length = 8 := dc_length _
  rcases (show j = 0 ∨ j = 1 by omega) with rfl | rfl
  · have := spl_mid (pre := dc p.name ++ [.int .i64 p.num]) (old := [.int .i64 p.h0]) (l := [.int .i64 (p.h0 + z)]) (post := [.int .i64 p.h1, s]) rfl
    simpa [pc, l8, addP, haveP] using this
  · have := spl_mid (pre := dc p.name ++ [.int .i64 p.num, .int .i64 p.h0]) (old := [.int .i64 p.h1]) (l := [.int .i64 (p.h1 + z)]) (post := [s]) rfl
    simpa [pc, l8, addP, haveP] using this
theorem row_side {w : World} {b : Nat} {T : TypeId} {p : Pu} {s : Value} (h : Blk w b (.cells (pc p s).toArray T)) {j : Nat} (hj : j < 2) : Row w b (0 + 9 + j * 1) [.int .i64 (haveP p (j : Int))] := by
  obtain ⟨-, -, r2, r3, -, -⟩ := pc_rows h
  rcases (show j = 0 ∨ j = 1 by omega) with rfl | rfl
  · exact r2
  · exact r3
theorem addP_held (p : Pu) (s d : Int) : (addP p s d).held = p.held := by
  unfold addP
  split <;> rfl
theorem addP_num (p : Pu) (s d : Int) : (addP p s d).num = p.num := by
  unfold addP
  split <;> rfl
theorem have_amt {p : Pu} (h : p.Ok) (s : Int) : 0 ≤ haveP p s ∧ haveP p s ≤ 1125899906842624 := by
  unfold haveP
  split
  · exact h.a
  · exact h.b
attribute [local irreducible] CG NG SG Vals Der Row Blk MapIs IterAt chkL DerR
set_option maxHeartbeats 16000000 in
theorem hold1_spec {w : World} {base bq b3 : Nat} {p : Pu} {s : Value} {h : Hd} (hB : Blk w bq (.cells (pc p s).toArray 47)) (hR : Blk w b3 (.cells (hc h).toArray 86)) (ho : w.ownsRow base 86 11 s p.held.length (flt hc p.held)) (hbase : base ≤ w.heap.size) (hok : p.Ok) (hb3 : b3 ∉ ownB s) :
    Calls Tryz.prog 65 #[.pointer (some ⟨bq, 0, none⟩), .pointer (some ⟨b3, 0, none⟩)] w (fun e w' => e = .returned (.int .i64 (holdE p h)) ∧ Kp (bq :: ownB s) w w' ∧ ∃ p' s', Blk w' bq (.cells (pc p' s').toArray 47) ∧ (holdE p h = 0 → p' = holdQ p h ∧ w'.ownsRow base 86 11 s' (holdQ p h).held.length (flt hc (holdQ p h).held))) := by
  refine enter2 Tryz.func65 rfl Tryz.ntmps65 rfl ?_
  obtain ⟨q0, q1, q2, q3, q4⟩ := hc_rows hR
  have hl16 := hok.l
  have fin : ∀ {z : Int} {w' : World}, Kp [] w w' → holdE p h = z → z ≠ 0 → ((Ending.returned (.int .i64 z) = .returned (.int .i64 (holdE p h))) ∧ Kp (bq :: ownB s) w w' ∧ ∃ p' s', Blk w' bq (.cells (pc p' s').toArray 47) ∧ (holdE p h = 0 → p' = holdQ p h ∧ w'.ownsRow base 86 11 s' (holdQ p h).held.length (flt hc (holdQ p h).held))) := fun hk e hz => ⟨by rw [e], hk.any, p, s, hB.kp0 hk, fun h0 => absurd (e.symm.trans h0) hz⟩
  by_cases g1 : h.side < 0
  · have e : holdE p h = 28 := if_pos (Or.inl g1)
    clear q4
    repeat (first | first|apply cA|apply cB|apply cD|apply cE|refine cV rfl rfl rfl rfl (by first|((first|apply qmv|apply qas|apply qlc|apply qfa|apply qpk|apply qls)<;>(first|exact rfl|assumption|exact dct (by first|assumption|omega)|exact List.not_mem_nil|fail))|fail) ?_ | refine cX rfl rfl ?_)
    refine dA rfl (by exact rho_of rfl) rfl ?_
    repeat (first|apply cA|apply cB|apply cD|apply cE|apply cH|apply cK|refine cV rfl rfl rfl rfl (by first|(apply qas<;>(exact rfl))|fail) ?_)
    refine ret1 (Or.inl rfl) Tryz.results65 (by first | exact ResV.tmp rfl | exact ResV.agg rfl rfl (by assumption) (by first | exact dc_length _ | exact nc_length _ | exact rc_length _ _ _ | exact ec_length _ | exact dl_length _ _ _ _ | rfl) | exact ResV.cell rfl rfl (by assumption)) ?_
    exact fin (Kp.refl _ _) e (by decide)
  by_cases g2 : 1 < h.side
  · have e : holdE p h = 28 := if_pos (Or.inr g2)
    clear q4
    repeat (first|apply cA|apply cB|apply cD|apply cE|refine cV rfl rfl rfl rfl (by first|((first|apply qmv|apply qas|apply qlc|apply qfa|apply qpk|apply qls|apply qgt)<;>(first|exact rfl|assumption|exact dct (by first|assumption|omega)|exact dcf (by first|assumption|omega)|exact List.not_mem_nil|fail))|fail) ?_)
    refine dA rfl (by exact rho_of rfl) rfl ?_
    repeat (first|apply cA|apply cB|apply cD|apply cE|apply cH|apply cK|refine cV rfl rfl rfl rfl (by first|(apply qas<;>(exact rfl))|fail) ?_)
    refine ret1 (Or.inl rfl) Tryz.results65 (by first | exact ResV.tmp rfl | exact ResV.agg rfl rfl (by assumption) (by first | exact dc_length _ | exact nc_length _ | exact rc_length _ _ _ | exact ec_length _ | exact dl_length _ _ _ _ | rfl) | exact ResV.cell rfl rfl (by assumption)) ?_
    exact fin (Kp.refl _ _) e (by decide)
  have hs1 : ¬ (h.side < 0 ∨ 1 < h.side) := fun k => k.elim g1 g2
  obtain ⟨j, hj, hj2⟩ : ∃ j : Nat, h.side = (j : Int) ∧ j < 2 := ⟨h.side.toNat, by omega, by omega⟩
  clear q4
  repeat (first|apply cA|apply cB|apply cD|apply cE|refine cV rfl rfl rfl rfl (by first|((first|apply qmv|apply qas|apply qlc|apply qfa|apply qpk|apply qls|apply qgt)<;>(first|exact rfl|assumption|exact dcf (by first|assumption|omega)|exact List.not_mem_nil|fail))|fail) ?_)
  refine dB rfl (by exact rho_of rfl) rfl ?_
  repeat (first|apply cA|apply cB|apply cE|apply cF|refine cV rfl rfl rfl rfl (by first|((first|apply qlc|apply qfa)<;>(first|exact rfl|assumption|exact List.not_mem_nil))|fail) ?_)
  refine SG.ret rfl rfl rfl (vs := [.int .i64 h.amt]) (by repeat' (first | exact True.intro | exact rho_of rfl | refine And.intro ?_ ?_)) (some_spec h.amt w) (fun w1 hk1 => ?_)
  have q3 := q3.kp0 hk1
  by_cases g3 : someP h.amt
  rotate_left
  · have e : holdE p h = 2 := by simp [holdE, hs1, g3]
    rw [decide_eq_false g3]
    repeat (first | first|apply cD|apply cE|refine cV rfl rfl rfl rfl (by first|((first|apply qmv|apply qpk|apply qnt)<;>(exact rfl))|fail) ?_ | refine cX rfl rfl ?_)
    refine dA rfl (by exact rho_of rfl) rfl ?_
    repeat (first|apply cA|apply cB|apply cD|apply cE|apply cH|apply cK|refine cV rfl rfl rfl rfl (by first|(apply qas<;>(exact rfl))|fail) ?_)
    refine ret1 (Or.inl rfl) Tryz.results65 (by first | exact ResV.tmp rfl | exact ResV.agg rfl rfl (by assumption) (by first | exact dc_length _ | exact nc_length _ | exact rc_length _ _ _ | exact ec_length _ | exact dl_length _ _ _ _ | rfl) | exact ResV.cell rfl rfl (by assumption)) ?_
    exact fin hk1 e (by decide)
  rw [decide_eq_true g3]
  repeat (first|refine cV rfl rfl rfl rfl (by first|((first|apply qmv|apply qlc|apply qfa|apply qnt)<;>(first|exact rfl|assumption|exact List.not_mem_nil))|fail) ?_)
  refine SG.ret rfl rfl rfl (vs := [.int .i64 h.til]) (by repeat' (first | exact True.intro | exact rho_of rfl | refine And.intro ?_ ?_)) (far_spec h.til w1) (fun w2 hk2 => ?_)
  have k2 := hk1.trans hk2
  by_cases g4 : farP h.til
  rotate_left
  · have e : holdE p h = 2 := by simp [holdE, hs1, g4]
    rw [decide_eq_false g4]
    repeat (first|apply cD|apply cE|refine cV rfl rfl rfl rfl (by first|((first|apply qpk|apply qnt)<;>(exact rfl))|fail) ?_)
    refine dA rfl (by exact rho_of rfl) rfl ?_
    repeat (first|apply cA|apply cB|apply cD|apply cE|apply cH|apply cK|refine cV rfl rfl rfl rfl (by first|(apply qas<;>(exact rfl))|fail) ?_)
    refine ret1 (Or.inl rfl) Tryz.results65 (by first | exact ResV.tmp rfl | exact ResV.agg rfl rfl (by assumption) (by first | exact dc_length _ | exact nc_length _ | exact rc_length _ _ _ | exact ec_length _ | exact dl_length _ _ _ _ | rfl) | exact ResV.cell rfl rfl (by assumption)) ?_
    exact fin k2 e (by decide)
  rw [decide_eq_true g4]
  obtain ⟨a, c, rfl, hcap, hS⟩ := Sl.own hc_length ho rfl
  have hpl := fun W (k : Kp [] w2 W) => place_spec (c := c) p h.name ((hS.kp0 k2).kp0 k) (by omega)
  have hB2 := hB.kp0 k2
  have hR2 := hR.kp0 k2
  clear q0 q1 q2 q3
  obtain ⟨-, -, -, -, -, r5⟩ := pc_rows hB2
  obtain ⟨q0, -⟩ := hc_rows hR2
  repeat (first|apply cD|apply cE|refine cV rfl rfl rfl rfl (by first|((first|apply qpk|apply qnt)<;>(exact rfl))|fail) ?_)
  refine dB rfl (by exact rho_of rfl) rfl ?_
  by_cases g5 : placeN p.held h.name < p.held.length
  · have e : holdE p h = 7 := by simp [holdE, hs1, g3, g4, g5]
    have ez : placeZ p.held h.name = (placeN p.held h.name : Int) := if_pos g5
    rw [ez] at hpl
    have g6 : (0 : Int) ≤ (placeN p.held h.name : Int) := by omega
    repeat (first|apply cA|apply cE|apply cF)
    refine CG.draw0 mixed [0, 1, 2, 3, 4, 5, 6] [] (by kernel_rfl) ?_
    repeat (refine cY rfl rfl rfl (by first|((first|apply qmv|apply qla|apply qfa|apply qnc)<;>(first|exact rfl|assumption|exact List.not_mem_nil|apply dc_length|apply pc_length))|fail) ?_)
    refine Der.call rfl rfl rfl (vs := [pv p (.slice a p.held.length c), dv h.name]) (by repeat' (first | exact True.intro | exact rho_of rfl | refine And.intro ?_ ?_)) (fun W hk _ => hpl W hk) ?_
    repeat (refine cY rfl rfl rfl (by first|(apply qge<;>(first|exact rfl|exact dct (by first|assumption|omega)|fail))|fail) ?_)
    refine Der.fin (fun w3 hk3 _ _ => ?_)
    repeat (first|apply cE)
    refine dA rfl (by exact rho_of rfl) rfl ?_
    repeat (first|apply cA|apply cB|apply cD|apply cE|apply cH|apply cK|refine cV rfl rfl rfl rfl (by first|(apply qas<;>(exact rfl))|fail) ?_)
    refine ret1 (Or.inl rfl) Tryz.results65 (by first | exact ResV.tmp rfl | exact ResV.agg rfl rfl (by assumption) (by first | exact dc_length _ | exact nc_length _ | exact rc_length _ _ _ | exact ec_length _ | exact dl_length _ _ _ _ | rfl) | exact ResV.cell rfl rfl (by assumption)) ?_
    exact fin (k2.trans hk3) e (by decide)
  have ez : placeZ p.held h.name = -1 := if_neg g5
  rw [ez] at hpl
  have g6 : ¬ (0 : Int) ≤ -1 := by omega
  repeat (first|apply cA|apply cE|apply cF)
  refine CG.draw0 mixed [0, 1, 2, 3, 4, 5, 6] [] (by kernel_rfl) ?_
  repeat (refine cY rfl rfl rfl (by first|((first|apply qmv|apply qla|apply qfa|apply qnc)<;>(first|exact rfl|assumption|exact List.not_mem_nil|apply dc_length|apply pc_length))|fail) ?_)
  refine Der.call rfl rfl rfl (vs := [pv p (.slice a p.held.length c), dv h.name]) (by repeat' (first | exact True.intro | exact rho_of rfl | refine And.intro ?_ ?_)) (fun W hk _ => hpl W hk) ?_
  repeat (refine cY rfl rfl rfl (by first|(apply qge<;>(first|exact rfl|exact dcf (by first|assumption|omega)|fail))|fail) ?_)
  refine Der.fin (fun w3 hk3 _ _ => ?_)
  have k3 := k2.trans hk3
  have hB3 := hB.kp0 k3
  have hR3 := hR.kp0 k3
  clear q0 r5 hpl
  obtain ⟨-, -, -, -, r4, -⟩ := pc_rows hB3
  repeat (first|apply cE)
  refine dB rfl (by exact rho_of rfl) rfl ?_
  by_cases g7 : 16 ≤ p.held.length
  · have e : holdE p h = 8 := by simp [holdE, hs1, g3, g4, g5, g7]
    have g8 : (16 : Int) ≤ (p.held.length : Int) := by omega
    repeat (first|apply cA|apply cB|apply cD|apply cE|apply cF|refine cV rfl rfl rfl rfl (by first|((first|apply qmv|apply qlc|apply qfa|apply qnc|apply qln|apply qge)<;>(first|exact rfl|assumption|exact dct (by first|assumption|omega)|exact List.not_mem_nil|fail))|fail) ?_)
    refine dA rfl (by exact rho_of rfl) rfl ?_
    repeat (first|apply cA|apply cB|apply cD|apply cE|apply cH|apply cK|refine cV rfl rfl rfl rfl (by first|(apply qas<;>(exact rfl))|fail) ?_)
    refine ret1 (Or.inl rfl) Tryz.results65 (by first | exact ResV.tmp rfl | exact ResV.agg rfl rfl (by assumption) (by first | exact dc_length _ | exact nc_length _ | exact rc_length _ _ _ | exact ec_length _ | exact dl_length _ _ _ _ | rfl) | exact ResV.cell rfl rfl (by assumption)) ?_
    exact fin k3 e (by decide)
  have g8 : ¬ (16 : Int) ≤ (p.held.length : Int) := by omega
  obtain ⟨-, q1, q2, -, -⟩ := hc_rows hR3
  have rj := row_side hB3 hj2
  rw [← hj] at rj
  have hav := have_amt hok h.side
  obtain ⟨g30, g31, g32⟩ := g3
  repeat (first|apply cA|apply cB|apply cD|apply cE|apply cF|refine cV rfl rfl rfl rfl (by first|((first|apply qmv|apply qlc|apply qfa|apply qnc|apply qln|apply qge)<;>(first|exact rfl|assumption|exact dcf (by first|assumption|omega)|exact List.not_mem_nil|fail))|fail) ?_)
  refine dB rfl (by exact rho_of rfl) rfl ?_
  by_cases g9 : haveP p h.side < h.amt
  · have e : holdE p h = 21 := by simp [holdE, hs1, g30, g31, g32, someP, amtP, g4, g5, g7, g9]
    repeat (first|apply cA|apply cE|apply cF)
    refine CG.draw0 mixed [0, 1, 2, 3, 4, 5, 6, 7, 8, 9] [] (by kernel_rfl) ?_
    repeat (refine cY rfl rfl rfl (by first|((first|apply qia|apply qmv|apply qlc|apply qfa|apply qnc|apply qls)<;>(first|exact rfl|assumption|exact Ar.mk (by omega)|exact dct (by first|assumption|omega)|exact List.not_mem_nil|fail))|fail) ?_)
    refine Der.fin (fun w4 hk4 _ _ => ?_)
    repeat (first|apply cE)
    refine dA rfl (by exact rho_of rfl) rfl ?_
    repeat (first|apply cA|apply cB|apply cD|apply cE|apply cH|apply cK|refine cV rfl rfl rfl rfl (by first|(apply qas<;>(exact rfl))|fail) ?_)
    refine ret1 (Or.inl rfl) Tryz.results65 (by first | exact ResV.tmp rfl | exact ResV.agg rfl rfl (by assumption) (by first | exact dc_length _ | exact nc_length _ | exact rc_length _ _ _ | exact ec_length _ | exact dl_length _ _ _ _ | rfl) | exact ResV.cell rfl rfl (by assumption)) ?_
    exact fin (k3.trans hk4) e (by decide)
  have e : holdE p h = 0 := by simp [holdE, hs1, g30, g31, g32, someP, amtP, g4, g5, g7, g9]
  clear fin
  repeat (first|apply cA|apply cE|apply cF)
  refine CG.draw0 mixed [0, 1, 2, 3, 4, 5, 6, 7, 8, 9] [] (by kernel_rfl) ?_
  repeat (refine cY rfl rfl rfl (by first|((first|apply qia|apply qmv|apply qlc|apply qfa|apply qnc|apply qls)<;>(first|exact rfl|assumption|exact Ar.mk (by omega)|exact dcf (by first|assumption|omega)|exact List.not_mem_nil|fail))|fail) ?_)
  refine Der.fin (fun w4 hk4 _ _ => ?_)
  have k4 := k3.trans hk4
  have hB4 := hB3.kp0 hk4
  have hR4 := hR3.kp0 hk4
  have rj := rj.kp0 hk4
  have q1 := q1.kp0 hk4
  have q2 := q2.kp0 hk4
  repeat (first|apply cE)
  refine dB rfl (by exact rho_of rfl) rfl ?_
  repeat (first|apply cA|apply cE|apply cF)
  refine CG.tail mixed 12 [0, 1, 2, 3, 4, 5, 6, 7, 8, 9, 10, 11] (by kernel_rfl) ?_
  repeat (refine cY rfl rfl rfl (by first|((first|apply qia|apply qmv|apply qlc|apply qfa|apply qnc|apply qsb)<;>(first|exact rfl|assumption|exact Ar.mk (by omega)|exact List.not_mem_nil|fail))|fail) ?_)
  refine Der.tl (fun w5 hk5 _ _ => ?_)
  have hB5 := hB4.kp0 hk5
  have hR5 := hR4.kp0 hk5
  have k5 := k4.trans hk5
  have ho5 := own_kp0 ho k5
  clear rj q1 q2 r4
  repeat (first|refine cV rfl rfl rfl rfl (by first|(apply qia<;>(first|exact rfl|assumption|exact Ar.mk (by omega)|fail))|fail) ?_)
  refine SG.store rfl rfl (by exact rho_of rfl) (by exact rho_of rfl) hB5 rfl (by show 0 + 9 + j * 1 + 1 ≤ _; simp [pc_length]; omega) rfl (fun w6 hk6 hB6 => ?_)
  have hB6 : Blk w6 bq (.cells (spl (pc p (.slice a p.held.length c)) (9 + j) [.int .i64 (haveP p h.side + (-h.amt))]).toArray 47) := by
    have e9 : 9 + j = 0 + 9 + j * 1 := by omega
    rw [e9]
    exact hB6
  rw [hj, pc_side hj2] at hB6
  have ho6 := own_kp ho5 hk6 (own_neb ho5 (by decide) hB5)
  have hb3q : b3 ≠ bq := fun e => by
    subst e
    have := hR.uniq hB
    simp only [Obj.cells.injEq] at this
    exact absurd this.2.1 (by decide)
  have hR6 := hR5.kp hk6 (nm1 hb3q)
  have hnb : bq ∉ ownB (.slice a p.held.length c) := fun hm => own_neb ho (by decide) hB bq (ownB_mem hm) (by simp)
  have hph := addP_held p (j : Int) (-h.amt)
  obtain ⟨-, -, -, -, r4, -⟩ := pc_rows hB6
  obtain ⟨-, -, -, -, q4⟩ := hc_rows hR6
  have s6 := (k5.any.trans hk6).size
  repeat (first|apply cA|apply cD|apply cE)
  refine CG.rows1 (base := base) (enc := hc) (E := 86) (sz := 11) (v := .slice a p.held.length c) (l := p.held) mixed 8 [0, 1, 2, 3, 4, 5, 6, 7] [⟨1000, 0, oP base 86 11 hc p.held⟩, ⟨6, 1, oP w6.heap.size 86 11 hc [h]⟩, ⟨7, 0, oP base 86 11 hc (p.held ++ [h])⟩] rfl ho6 (by kernel_rfl) (by kernel_rfl) (by repeat' (first | exact OkL.nil | refine OkL.cons ?_ ?_ | exact oP_ok | exact bP_ok)) ?_
  repeat (refine DerR.val rfl rfl rfl rfl (by first|((first|apply qmv|apply qlc|apply qla|apply qfa|apply qnc)<;>(first|exact rfl|assumption|apply hc_length))|fail) ?_)
  refine DerR.buildO [h] hc_length rfl rfl rfl rfl rfl (by repeat' (first | exact OkL.nil | refine OkL.cons ?_ ?_ | exact oP_ok | exact bP_ok)) rfl (Nat.le_refl _) (by simp [maxLen]) (fun w => by rw [flt_one]; exact bsH h w) (fun v8 => ?_)
  refine DerR.append (src := 1000) p.held [h] [(1000, p.held)] hc_length hc_one rfl rfl (by kernel_rfl) ⟨Nat.le_refl _, trivial⟩ rfl rfl rfl (by repeat' (first | exact OkL.nil | refine OkL.cons ?_ ?_ | exact oP_ok | exact bP_ok)) (by exact rho_of rfl) (by exact rho_of rfl) rfl rfl rfl (by simp only [maxLen, List.length_cons, List.length_nil]; omega) (by show (p.held.length + 1) * 32 ≤ _; omega) (by omega) (.tail _ (.head _)) (by kernel_rfl) (fun w hk hF => oP.sl hc_length (hF.get (.head _) (by kernel_rfl) rfl)) (fun v9 => ?_)
  refine DerR.tl (fun w7 V hok2 hV => ?_)
  have ho7 : w7.ownsRow base 86 11 v9 (p.held ++ [h]).length (flt hc (p.held ++ [h])) := hok2.get hV (.head _) rfl
  have hk7 := hok2.kp
  have hB7 := hB6.kp hk7 hnb
  obtain ⟨a9, c9, rfl, _, _⟩ := Sl.own hc_length ho7 rfl
  repeat (first|refine cV rfl rfl rfl rfl (by first|((first|apply qfa|apply qnc)<;>(exact rfl))|fail) ?_)
  refine SG.store rfl rfl (by exact rho_of rfl) (by exact rho_of rfl) hB7 rfl (by show 0 + 11 + 1 ≤ _; simp [pc_length]) rfl (fun w8 hk8 hB8 => ?_)
  have hB8 : Blk w8 bq (.cells (spl (pc (addP p (j : Int) (-h.amt)) (.slice a p.held.length c)) 11 [.slice a9 (p.held ++ [h]).length c9]).toArray 47) := hB8
  rw [pc_held] at hB8
  have ho8 := own_kp ho7 hk8 (own_neb ho7 (by decide) hB7)
  repeat (first|apply cA|apply cB|apply cD|apply cE|apply cH|refine cV rfl rfl rfl rfl (by first|(apply qas<;>(exact rfl))|fail) ?_)
  refine ret1 (Or.inl rfl) Tryz.results65 (by first | exact ResV.tmp rfl | exact ResV.agg rfl rfl (by assumption) (by first | exact dc_length _ | exact nc_length _ | exact rc_length _ _ _ | exact ec_length _ | exact dl_length _ _ _ _ | rfl) | exact ResV.cell rfl rfl (by assumption)) ?_
  refine ⟨by rw [e], ((k5.any.trans (hk6.mono (fun z hz => by rw [List.mem_singleton] at hz; subst hz; simp))).trans (hk7.mono (fun z hz => List.mem_cons_of_mem _ hz))).trans (hk8.mono (fun z hz => by rw [List.mem_singleton] at hz; subst hz; simp)), holdQ p h, _, ?_, fun _ => ⟨rfl, ho8⟩⟩
  rw [show pc (holdQ p h) (.slice a9 (p.held ++ [h]).length c9) = pc (addP p (j : Int) (-h.amt)) (.slice a9 (p.held ++ [h]).length c9) from by unfold holdQ; rw [hj]; rfl]
  exact hB8
set_option maxHeartbeats 16000000 in
theorem hold_spec {w : World} {a : Option Addr} {c : Nat} (p : Pu) (h : Hd) (hS : Sl hc 11 w a p.held) (hl : p.held.length ≤ 1000) (hcap : p.held.length ≤ c) : Calls Tryz.prog 39 #[pv p (.slice a p.held.length c), hv h] w (fun e w' => ∃ v, e = .returned (.tuple #[v, .int .i64 (chgZ p (holdE p h))]) ∧ Kp [] w w' ∧ (chgZ p (holdE p h) = 0 → PuAt w.heap.size w' v (nextP (holdQ p h))) ∧ (chgZ p (holdE p h) ≠ 0 → v = pv zPu (.slice none 0 0))) := by
  refine enter2 Tryz.func39 rfl Tryz.ntmps39 rfl ?_
  repeat (first|apply cA|apply cB)
  refine SG.box rfl rfl rfl (by exact rho_of rfl) (fun b2 w1 hk1 hb2 hB2 => ?_)
  have hB2 : Blk w1 b2 (.cells (pc p (.slice a p.held.length c)).toArray 47) := hB2
  refine SG.box rfl rfl rfl (by exact rho_of rfl) (fun b3 w2 hk2 hb3 hB3 => ?_)
  have hB3 : Blk w2 b3 (.cells (hc h).toArray 86) := hB3
  refine SG.alloc rfl rfl rfl (fun b4 w3 hk3 hb4 hB4 => ?_)
  have hB3 := hB3.kp0 hk3
  have hB2 := (hB2.kp0 hk2).kp0 hk3
  have k3 := (hk1.trans hk2).trans hk3
  have s1 := hk1.size
  have s2 := hk2.size
  obtain ⟨-, -, -, -, -, r5⟩ := pc_rows hB2
  repeat (first|apply cA|apply cB|apply cD|apply cE|refine cV rfl rfl rfl rfl (by first|((first|apply qas|apply qla)<;>(first|exact rfl|assumption|exact List.not_mem_nil|apply pc_length))|fail) ?_)
  refine cV rfl rfl rfl rfl (qmf (vs := [.pointer (some ⟨b3, 0, none⟩)]) rfl) ?_
  refine SG.call rfl rfl rfl (vs := [pv p (.slice a p.held.length c), fnv 65 [.pointer (some ⟨b3, 0, none⟩)]]) (by repeat' (first | exact True.intro | exact rho_of rfl | refine And.intro ?_ ?_)) ((changed_spec p (holdQ p h) (holdE p h) (hS.kp0 k3) hl hcap (addP_num _ _ _) (fun hc0 W bq s hk hbq hB ho => hold1_spec hB (hB3.kp0 hk) ho hk.size (pu_ok hc0) (fun hm => by have h1 := own_geB ho b3 (ownB_mem hm); have h2 := hB3.lt; omega))).mono (fun e w4 hh => ?_))
  obtain ⟨v, he, hk4, h1, h2⟩ := hh
  refine ⟨_, he, ?_⟩
  have hB4 := hB4.kp0 hk4
  by_cases hz : chgZ p (holdE p h) = 0
  · obtain ⟨s, rfl, ho⟩ := h1 hz
    obtain ⟨a5, c5, rfl, _, _⟩ := Sl.own hc_length ho rfl
    repeat (first|refine cV rfl rfl rfl rfl (by first|(apply qxt<;>(exact rfl))|fail) ?_)
    refine SG.setAll (l := pc (nextP (holdQ p h)) (.slice a5 (nextP (holdQ p h)).held.length c5)) rfl rfl (by exact rho_of rfl) (by exact rho_of rfl) hB4 (pc_length _ _) rfl (pc_one _ _ _ _) (fun w5 hk5 hB5 => ?_)
    have hr : Row w5 b4 0 (pc (nextP (holdQ p h)) (.slice a5 (nextP (holdQ p h)).held.length c5)) := Row.all hB5 rfl
    have ho5 := own_kp (own_mono ho k3.size) hk5 (own_neb (own_mono ho k3.size) (by decide) hB4)
    repeat (first|apply cD|apply cE|apply cH|refine cV rfl rfl rfl rfl (by first|(apply qas<;>(exact rfl))|fail) ?_)
    refine ret2 (Or.inl rfl) Tryz.results39 (ResV.agg rfl rfl hr (pc_length _ _)) (by first | exact ResV.tmp rfl | exact ResV.agg rfl rfl (by assumption) (by first | exact dc_length _ | exact nc_length _ | exact rc_length _ _ _ | exact ec_length _ | exact dl_length _ _ _ _ | rfl) | exact ResV.cell rfl rfl (by assumption)) ?_
    exact ⟨_, rfl, (k3.trans hk4).trans_new hk5 (new1 (by omega)), fun _ => ⟨_, rfl, ho5⟩, fun h => absurd hz h⟩
  · have hv2 := h2 hz
    subst hv2
    repeat (first|refine cV rfl rfl rfl rfl (by first|(apply qxt<;>(exact rfl))|fail) ?_)
    refine SG.setAll (l := pc zPu (.slice none 0 0)) rfl rfl (by exact rho_of rfl) (by exact rho_of rfl) hB4 (pc_length _ _) rfl (pc_one _ _ _ _) (fun w5 hk5 hB5 => ?_)
    have hr : Row w5 b4 0 (pc zPu (.slice none 0 0)) := Row.all hB5 rfl
    repeat (first|apply cD|apply cE|apply cH|refine cV rfl rfl rfl rfl (by first|(apply qas<;>(exact rfl))|fail) ?_)
    refine ret2 (Or.inl rfl) Tryz.results39 (ResV.agg rfl rfl hr (pc_length _ _)) (by first | exact ResV.tmp rfl | exact ResV.agg rfl rfl (by assumption) (by first | exact dc_length _ | exact nc_length _ | exact rc_length _ _ _ | exact ec_length _ | exact dl_length _ _ _ _ | rfl) | exact ResV.cell rfl rfl (by assumption)) ?_
    exact ⟨_, rfl, (k3.trans hk4).trans_new hk5 (new1 (by omega)), fun h => absurd h hz, fun _ => rfl⟩
end Go.Proofs.YtajllbdeoopimaaGreat
namespace Go.Proofs.YtajllbdeoopimaaGreat
set_option linter.unusedVariables false
section
variable {P : Program} {S : List Nat} {w0 : World} {F : World → Prop} {L : Env} {d : Option Nat} {ty : TypeId} {pos : String} {af : Array Edge} {g : Option (Nat × Bool)}
/-- 's[j:m]', where j stands before the end of what there is room for. -/
theorem qfh {T E : TypeId} [u : Ut P T (.slice E)] {sz : Nat} [f : Sz P E sz] {x lo hi : Operand} {b off n c : Nat} {k k' : IntKind} {z z' : Int} {j m : Nat} (hx : ro L x = some (.slice (some ⟨b, off, none⟩) n c)) (hlo : ro L lo = some (.int k z)) (hhi : ro L hi = some (.int k' z')) (hz : z = (j : Int)) (hz' : z' = (m : Int)) (hj : Ar (j ≤ m ∧ m ≤ c ∧ j < c)) :
    Vals P S w0 F L ⟨d, .slice T x (some lo) (some hi) none, ty, pos, af, g⟩ (.slice (some ⟨b, off + j * sz, none⟩) (m - j) (c - j)) := fun w _ _ => by
  obtain ⟨i, h2, h3⟩ := f.eq
  obtain ⟨q1, q2, q3⟩ := hj.h
  subst h3
  subst hz
  subst hz'
  simp only [execOp, rho_of hx, Option.map_some, Option.map_none, rho_of hlo, rho_of hhi, Instr.sliceAt, Sem.run_bind, run_underlying u.eq, Result.andThen, Instr.slice, Instr.sliceBounds, Instr.sliceBound, asIntOf, Sem.run_pure]
  have h5 : (0 : Int) ≤ (m : Int) ∧ (m : Int) ≤ (c : Int) := ⟨by omega, by omega⟩
  simp only [h5, and_self, if_true, Sem.run_pure, Int.toNat_natCast]
  have h6 : (0 : Int) ≤ (j : Int) ∧ (j : Int) ≤ (m : Int) := ⟨by omega, by omega⟩
  simp only [h6, and_self, if_true, Sem.run_pure, sizeOf, typeInfo, Sem.run_bind, run_program, Result.andThen, h2]
  have hc : c ≠ j := by omega
  simp [hc, add_none]
end
section
variable {P : Program} {n : Nat} {Q : Exit → Act → World → Prop} {L : Env} {w : World} {ops : List Oper} {rest : List Oper} {ty : TypeId} {pos : String} {af : Array Edge} {g : Option (Nat × Bool)}
end
end Go.Proofs.YtajllbdeoopimaaGreat
