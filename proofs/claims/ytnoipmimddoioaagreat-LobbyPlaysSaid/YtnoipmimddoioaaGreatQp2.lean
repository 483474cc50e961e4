import Derived.Test.YtnoipmimddoioaaGreatQp1
namespace Go.Proofs.YtnoipmimddoioaaGreat
set_option linter.unusedVariables false
/-- What an effect promises: its answer by x, and what holds from then on. -/
structure GD where
  X : Type
  x0 : X
  val : X → Value
  phi : X → World → Prop
def GD.none : GD := ⟨Unit, (), fun _ => undef, fun _ _ => True⟩
def gdLook : List (Nat × GD) → Nat → Option GD
  | [], _ => Option.none
  | (j, d) :: G, i => bif Nat.beq j i then some d else gdLook G i
def gdOf (G : List (Nat × GD)) (i : Nat) : GD := (gdLook G i).getD GD.none
def isGh (G : List (Nat × GD)) (i : Nat) : Bool := (gdLook G i).isSome
abbrev Fact := Nat × (World → Prop)
def Facts (ops : List Oper) (i : Nat) (Γ : List Fact) (w : World) : Prop := ∀ p ∈ Γ, anc ops i p.1 = true → p.2 w
/-- How the world goes on by the effect i: it only makes new blocks; or it turns such as the region has made, and keeps what all others promise. -/
def Goes (w0 : World) (G : List (Nat × GD)) (i : Nat) (w w' : World) : Prop := Kp [] w w' ∨ (Kp [] w0 w' ∧ ∀ j x, j ≠ i → (gdOf G j).phi x w → (gdOf G j).phi x w')
section
variable (P : Program) (w0 : World) (ops : List Oper) (G : List (Nat × GD)) (K : Env → List Fact → Prop)
def Live (D : Nat → Bool) (V : Nat → Value) (ξ : (i : Nat) → (gdOf G i).X) : List Nat → Env → List Fact → Prop
  | [], L, Γ => K L Γ
  | i :: ord, L, Γ => ∃ o, ops[i]? = some o ∧
      ((isGh G i = false ∧ ((D i = true ∧ Live D V ξ ord (addD o.dst (V i) L) Γ) ∨
          (D i = false ∧ want ops L o = some false ∧ Live D V ξ ord (addD o.dst undef L) Γ) ∨
          (D i = false ∧ want ops L o = some true ∧ ∃ v, o.op.operands.toList.all (known L) = true ∧ (∀ w, Kp [] w0 w → Facts ops i Γ w → OpRun P (rho L) o w (fun v' w' => v' = v ∧ Kp [] w w')) ∧ Live D V ξ ord (addD o.dst v L) Γ))) ∨
       (isGh G i = true ∧ ((D i = true ∧ Live D V ξ ord (addD o.dst ((gdOf G i).val (ξ i)) L) ((i, (gdOf G i).phi (ξ i)) :: Γ)) ∨
          (D i = false ∧ want ops L o = some true ∧ o.op.operands.toList.all (known L) = true ∧
            (∀ w, Kp [] w0 w → Facts ops i Γ w → OpRun P (rho L) o w (fun v w' => ∃ x, v = (gdOf G i).val x ∧ (gdOf G i).phi x w' ∧ Goes w0 G i w w')) ∧
            ∀ x, Live D V ξ ord (addD o.dst ((gdOf G i).val x) L) ((i, (gdOf G i).phi x) :: Γ)) ∨
          (D i = false ∧ want ops L o = some true ∧ o.op.operands.toList.all (known L) = true ∧ (∀ p ∈ Γ, anc ops i p.1 = true) ∧ ∃ x,
            (∀ w, Kp [] w0 w → Facts ops i Γ w → OpRun P (rho L) o w (fun v w' => v = (gdOf G i).val x ∧ (gdOf G i).phi x w' ∧ Goes w0 G i w w')) ∧
            Live D V ξ ord (addD o.dst ((gdOf G i).val x) L) ((i, (gdOf G i).phi x) :: Γ)))))
/-- The derivation: nothing is done yet. -/
def DerX : List Nat → Env → List Fact → Prop := Live P w0 ops G K (fun _ => false) (fun _ => undef) (fun i => (gdOf G i).x0)
end
section
variable {P : Program} {n : Nat} {ops : List Oper} {Q : Exit → Act → World → Prop} {w0 : World} {L0 : Env} {G : List (Nat × GD)} {K : Env → List Fact → Prop}
/-- Only what is still to come counts. -/
theorem Live.congr {D D' : Nat → Bool} {V V' : Nat → Value} {ξ ξ' : (i : Nat) → (gdOf G i).X} : ∀ {ord : List Nat} {L : Env} {Γ : List Fact}, (∀ i ∈ ord, D i = D' i ∧ V i = V' i ∧ ξ i = ξ' i) → Live P w0 ops G K D V ξ ord L Γ → Live P w0 ops G K D' V' ξ' ord L Γ
  | [], _, _, _, h => h
  | i :: ord, L, Γ, he, ⟨o, ho, h⟩ => by
    obtain ⟨e1, e2, e3⟩ := he i (by simp)
    have he' : ∀ j ∈ ord, D j = D' j ∧ V j = V' j ∧ ξ j = ξ' j := fun j hj => he j (by simp [hj])
    refine ⟨o, ho, ?_⟩
    rcases h with ⟨hg, h⟩ | ⟨hg, h⟩
    · refine Or.inl ⟨hg, ?_⟩
      rcases h with ⟨hd, h⟩ | ⟨hd, hw, h⟩ | ⟨hd, hw, v, hk, hc, h⟩
      · exact Or.inl ⟨by rw [← e1]; exact hd, by rw [← e2]; exact Live.congr he' h⟩
      · exact Or.inr (Or.inl ⟨by rw [← e1]; exact hd, hw, Live.congr he' h⟩)
      · exact Or.inr (Or.inr ⟨by rw [← e1]; exact hd, hw, v, hk, hc, Live.congr he' h⟩)
    · refine Or.inr ⟨hg, ?_⟩
      rcases h with ⟨hd, h⟩ | ⟨hd, hw, hk, hc, h⟩ | ⟨hd, hw, hk, ha, x, hc, h⟩
      · exact Or.inl ⟨by rw [← e1]; exact hd, by rw [← e3]; exact Live.congr he' h⟩
      · exact Or.inr (Or.inl ⟨by rw [← e1]; exact hd, hw, hk, hc, fun x => Live.congr he' (h x)⟩)
      · exact Or.inr (Or.inr ⟨by rw [← e1]; exact hd, hw, hk, ha, x, hc, Live.congr he' h⟩)
/-- The value that a done operation gave. -/
def gave (G : List (Nat × GD)) (V : Nat → Value) (ξ : (i : Nat) → (gdOf G i).X) (i : Nat) : Value := bif isGh G i then (gdOf G i).val (ξ i) else V i
/-- How an environment on the way comes about. -/
def Way (ops : List Oper) (G : List (Nat × GD)) (L0 : Env) (D : Nat → Bool) (V : Nat → Value) (ξ : (i : Nat) → (gdOf G i).X) (pre : List Nat) (L : Env) : Prop :=
  ∀ t v, look L t = some v → (∃ j ∈ pre, dstOf ops j = some t ∧ (D j = true → v = gave G V ξ j)) ∨ ((∀ j ∈ pre, dstOf ops j ≠ some t) ∧ look L0 t = some v)
theorem Way.nil {D : Nat → Bool} {V : Nat → Value} {ξ : (i : Nat) → (gdOf G i).X} : Way ops G L0 D V ξ [] L0 := fun t v h => Or.inr ⟨by simp, h⟩
theorem Way.cons {D : Nat → Bool} {V : Nat → Value} {ξ : (i : Nat) → (gdOf G i).X} {pre : List Nat} {L : Env} {i : Nat} {o : Oper} {u : Value} (h : Way ops G L0 D V ξ pre L) (ho : ops[i]? = some o) (hu : D i = true → u = gave G V ξ i) : Way ops G L0 D V ξ (i :: pre) (addD o.dst u L) := by
  intro t v hv
  rw [look_addD] at hv
  have hdi : dstOf ops i = o.dst := by simp [dstOf, ho]
  by_cases e : o.dst = some t
  · rw [if_pos e] at hv
    cases hv
    exact Or.inl ⟨i, by simp, by rw [hdi, e], hu⟩
  · rw [if_neg e] at hv
    rcases h t v hv with ⟨j, hj, h1, h2⟩ | ⟨h1, h2⟩
    · exact Or.inl ⟨j, by simp [hj], h1, h2⟩
    · refine Or.inr ⟨fun j hj => ?_, h2⟩
      rcases List.mem_cons.1 hj with rfl | hj
      · rw [hdi]; exact e
      · exact h1 j hj
def updV (V : Nat → Value) (i : Nat) (v : Value) : Nat → Value := fun j => if j = i then v else V j
def updX (ξ : (i : Nat) → (gdOf G i).X) (i : Nat) (x : (gdOf G i).X) : (j : Nat) → (gdOf G j).X := fun j => if h : j = i then h ▸ x else ξ j
theorem updX_same {ξ : (i : Nat) → (gdOf G i).X} {i : Nat} {x : (gdOf G i).X} : updX ξ i x i = x := by simp [updX]
theorem updX_ne {ξ : (i : Nat) → (gdOf G i).X} {i j : Nat} {x : (gdOf G i).X} (h : j ≠ i) : updX ξ i x j = ξ j := by simp [updX, h]
/-- The way to an operation that has no effect: all effects ahead of it are done. -/
theorem Live.plain {D : Nat → Bool} {V : Nat → Value} {ξ : (i : Nat) → (gdOf G i).X} {r : Nat} (hgr : isGh G r = false) (hdr : D r = false) {w : World} : ∀ {ord pre : List Nat} {L : Env} {Γ : List Fact}, ord.Nodup → r ∈ ord →
    (∀ g A B, ord = A ++ g :: B → r ∈ B → isGh G g = true → D g = true) → Way ops G L0 D V ξ pre L → (∀ p ∈ Γ, D p.1 = true → p.2 w) → (∀ i, isGh G i = true → D i = true → (gdOf G i).phi (ξ i) w) → Live P w0 ops G K D V ξ ord L Γ →
    ∃ o L' Γ' A B, ord = A ++ r :: B ∧ ops[r]? = some o ∧ Way ops G L0 D V ξ (A.reverse ++ pre) L' ∧ (∀ p ∈ Γ', D p.1 = true → p.2 w) ∧
      ((want ops L' o = some false ∧ Live P w0 ops G K (setD D r) (updV V r undef) ξ ord L Γ) ∨
       (want ops L' o = some true ∧ ∃ v, o.op.operands.toList.all (known L') = true ∧ (∀ w, Kp [] w0 w → Facts ops r Γ' w → OpRun P (rho L') o w (fun v' w' => v' = v ∧ Kp [] w w')) ∧ Live P w0 ops G K (setD D r) (updV V r v) ξ ord L Γ))
  | [], _, _, _, _, hm, _, _, _, _, _ => by cases hm
  | i :: ord, pre, L, Γ, hn, hm, hgd, hway, hfa, hph, ⟨o, ho, h⟩ => by
    have hn' := List.nodup_cons.1 hn
    by_cases hir : i = r
    · subst hir
      have hsame : ∀ j ∈ ord, D j = setD D i j ∧ ∀ v, V j = updV V i v j := fun j hj => by
        have hne : j ≠ i := fun e => hn'.1 (e ▸ hj)
        exact ⟨(setD_ne hne).symm, fun v => by simp [updV, hne]⟩
      refine ⟨o, L, Γ, [], ord, rfl, ho, by simpa using hway, hfa, ?_⟩
      rcases h with ⟨hg, h⟩ | ⟨hg, h⟩
      · rcases h with ⟨hd, h⟩ | ⟨hd, hw, h⟩ | ⟨hd, hw, v, hk, hc, h⟩
        · rw [hdr] at hd; cases hd
        · refine Or.inl ⟨hw, o, ho, Or.inl ⟨hg, Or.inl ⟨setD_same, ?_⟩⟩⟩
          have e : updV V i undef i = undef := by simp [updV]
          rw [e]
          exact Live.congr (fun j hj => ⟨(hsame j hj).1, (hsame j hj).2 _, rfl⟩) h
        · refine Or.inr ⟨hw, v, hk, hc, o, ho, Or.inl ⟨hg, Or.inl ⟨setD_same, ?_⟩⟩⟩
          have e : updV V i v i = v := by simp [updV]
          rw [e]
          exact Live.congr (fun j hj => ⟨(hsame j hj).1, (hsame j hj).2 _, rfl⟩) h
      · rw [hgr] at hg; cases hg
    · have hm' : r ∈ ord := by
        rcases List.mem_cons.1 hm with h | h
        · exact absurd h.symm hir
        · exact h
      have hgd' : ∀ g A B, ord = A ++ g :: B → r ∈ B → isGh G g = true → D g = true := fun g A B e hb => hgd g (i :: A) B (by rw [e]; rfl) hb
      have key : ∀ {L1 : Env} {Γ1 : List Fact}, Way ops G L0 D V ξ (i :: pre) L1 → (∀ p ∈ Γ1, D p.1 = true → p.2 w) → Live P w0 ops G K D V ξ ord L1 Γ1 →
          ∃ o' L' Γ' A B, i :: ord = A ++ r :: B ∧ ops[r]? = some o' ∧ Way ops G L0 D V ξ (A.reverse ++ pre) L' ∧ (∀ p ∈ Γ', D p.1 = true → p.2 w) ∧
            ((want ops L' o' = some false ∧ Live P w0 ops G K (setD D r) (updV V r undef) ξ ord L1 Γ1) ∨
             (want ops L' o' = some true ∧ ∃ v, o'.op.operands.toList.all (known L') = true ∧ (∀ w, Kp [] w0 w → Facts ops r Γ' w → OpRun P (rho L') o' w (fun v' w' => v' = v ∧ Kp [] w w')) ∧ Live P w0 ops G K (setD D r) (updV V r v) ξ ord L1 Γ1)) := by
        intro L1 Γ1 hw1 hf1 h1
        obtain ⟨o', L', Γ', A, B, e1, e2, e3, e4, e5⟩ := Live.plain hgr hdr hn'.2 hm' hgd' hw1 hf1 hph h1
        exact ⟨o', L', Γ', i :: A, B, by rw [e1]; rfl, e2, by simpa using e3, e4, e5⟩
      have eD : setD D r i = D i := setD_ne hir
      have eV : ∀ v, updV V r v i = V i := fun v => by simp [updV, hir]
      rcases h with ⟨hg, h⟩ | ⟨hg, h⟩
      · rcases h with ⟨hd, h⟩ | ⟨hd, hw, h⟩ | ⟨hd, hw, v, hk, hc, h⟩
        · obtain ⟨o', L', Γ', A, B, e1, e2, e3, e4, e5⟩ := key (hway.cons ho (fun _ => by simp [gave, hg])) hfa h
          refine ⟨o', L', Γ', A, B, e1, e2, e3, e4, ?_⟩
          rcases e5 with ⟨f1, f2⟩ | ⟨f1, v, f2, f3, f4⟩
          · exact Or.inl ⟨f1, o, ho, Or.inl ⟨hg, Or.inl ⟨by rw [eD]; exact hd, by rw [eV]; exact f2⟩⟩⟩
          · exact Or.inr ⟨f1, v, f2, f3, o, ho, Or.inl ⟨hg, Or.inl ⟨by rw [eD]; exact hd, by rw [eV]; exact f4⟩⟩⟩
        · obtain ⟨o', L', Γ', A, B, e1, e2, e3, e4, e5⟩ := key (hway.cons ho (fun hd' => by rw [hd] at hd'; cases hd')) hfa h
          refine ⟨o', L', Γ', A, B, e1, e2, e3, e4, ?_⟩
          rcases e5 with ⟨f1, f2⟩ | ⟨f1, v, f2, f3, f4⟩
          · exact Or.inl ⟨f1, o, ho, Or.inl ⟨hg, Or.inr (Or.inl ⟨by rw [eD]; exact hd, hw, f2⟩)⟩⟩
          · exact Or.inr ⟨f1, v, f2, f3, o, ho, Or.inl ⟨hg, Or.inr (Or.inl ⟨by rw [eD]; exact hd, hw, f4⟩)⟩⟩
        · obtain ⟨o', L', Γ', A, B, e1, e2, e3, e4, e5⟩ := key (hway.cons ho (fun hd' => by rw [hd] at hd'; cases hd')) hfa h
          refine ⟨o', L', Γ', A, B, e1, e2, e3, e4, ?_⟩
          rcases e5 with ⟨f1, f2⟩ | ⟨f1, v', f2, f3, f4⟩
          · exact Or.inl ⟨f1, o, ho, Or.inl ⟨hg, Or.inr (Or.inr ⟨by rw [eD]; exact hd, hw, v, hk, hc, f2⟩)⟩⟩
          · exact Or.inr ⟨f1, v', f2, f3, o, ho, Or.inl ⟨hg, Or.inr (Or.inr ⟨by rw [eD]; exact hd, hw, v, hk, hc, f4⟩)⟩⟩
      · have hdi : D i = true := hgd i [] ord rfl hm' hg
        rcases h with ⟨hd, h⟩ | ⟨hd, _⟩ | ⟨hd, _⟩
        · obtain ⟨o', L', Γ', A, B, e1, e2, e3, e4, e5⟩ := key (hway.cons ho (fun _ => by simp [gave, hg])) (fun p hp hpd => by
            rcases List.mem_cons.1 hp with rfl | hp
            · exact hph i hg hd
            · exact hfa p hp hpd) h
          refine ⟨o', L', Γ', A, B, e1, e2, e3, e4, ?_⟩
          rcases e5 with ⟨f1, f2⟩ | ⟨f1, v, f2, f3, f4⟩
          · exact Or.inl ⟨f1, o, ho, Or.inr ⟨hg, Or.inl ⟨by rw [eD]; exact hd, f2⟩⟩⟩
          · exact Or.inr ⟨f1, v, f2, f3, o, ho, Or.inr ⟨hg, Or.inl ⟨by rw [eD]; exact hd, f4⟩⟩⟩
        · rw [hdi] at hd; cases hd
        · rw [hdi] at hd; cases hd
/-- What is so at an effect: it may be done, by whatever x; or by one x, where all effects ahead of it are done. -/
def EffAt (P : Program) (w0 : World) (ops : List Oper) (G : List (Nat × GD)) (K : Env → List Fact → Prop) (D : Nat → Bool) (V : Nat → Value) (ξ : (i : Nat) → (gdOf G i).X) (r : Nat) (o : Oper) (L' : Env) (Γ' : List Fact) (ord : List Nat) (L : Env) (Γ : List Fact) : Prop :=
  ((∀ w, Kp [] w0 w → Facts ops r Γ' w → OpRun P (rho L') o w (fun v w' => ∃ x, v = (gdOf G r).val x ∧ (gdOf G r).phi x w' ∧ Goes w0 G r w w')) ∧ ∀ x, Live P w0 ops G K (setD D r) V (updX ξ r x) ord L Γ) ∨
  ((∀ p ∈ Γ, D p.1 = true) ∧ ∃ x, (∀ w, Kp [] w0 w → Facts ops r Γ' w → OpRun P (rho L') o w (fun v w' => v = (gdOf G r).val x ∧ (gdOf G r).phi x w' ∧ Goes w0 G r w w')) ∧ Live P w0 ops G K (setD D r) V (updX ξ r x) ord L Γ)
/-- The way to an effect: others may stand beside it, undone. -/
theorem Live.effect {D : Nat → Bool} {V : Nat → Value} {ξ : (i : Nat) → (gdOf G i).X} {r : Nat} (hgr : isGh G r = true) (hdr : D r = false) (hanc : ∀ j, anc ops r j = true → D j = true) {w : World} (hph : ∀ i, isGh G i = true → D i = true → (gdOf G i).phi (ξ i) w) : ∀ {ord pre : List Nat} {L : Env} {Γ : List Fact}, ord.Nodup → r ∈ ord →
    Way ops G L0 D V ξ pre L → (∀ p ∈ Γ, D p.1 = true → p.2 w) → Live P w0 ops G K D V ξ ord L Γ →
    ∃ o L' Γ' A B, ord = A ++ r :: B ∧ ops[r]? = some o ∧ Way ops G L0 D V ξ (A.reverse ++ pre) L' ∧ (∀ p ∈ Γ', D p.1 = true → p.2 w) ∧ want ops L' o = some true ∧ o.op.operands.toList.all (known L') = true ∧ EffAt P w0 ops G K D V ξ r o L' Γ' ord L Γ
  | [], _, _, _, _, hm, _, _, _ => by cases hm
  | i :: ord, pre, L, Γ, hn, hm, hway, hfa, ⟨o, ho, h⟩ => by
    have hn' := List.nodup_cons.1 hn
    by_cases hir : i = r
    · subst hir
      have hcg : ∀ (x : (gdOf G i).X) {L1 : Env} {Γ1 : List Fact}, Live P w0 ops G K D V ξ ord L1 Γ1 → Live P w0 ops G K (setD D i) V (updX ξ i x) ord L1 Γ1 := fun x {L1 Γ1} h1 => Live.congr (fun j hj => by
        have hne : j ≠ i := fun e => hn'.1 (e ▸ hj)
        exact ⟨(setD_ne hne).symm, rfl, (updX_ne hne).symm⟩) h1
      rcases h with ⟨hg, h⟩ | ⟨hg, h⟩
      · rw [hgr] at hg; cases hg
      · rcases h with ⟨hd, h⟩ | ⟨hd, hw, hk, hc, h⟩ | ⟨hd, hw, hk, ha, x, hc, h⟩
        · rw [hdr] at hd; cases hd
        · refine ⟨o, L, Γ, [], ord, rfl, ho, by simpa using hway, hfa, hw, hk, Or.inl ⟨hc, fun x => ⟨o, ho, Or.inr ⟨hg, Or.inl ⟨setD_same, ?_⟩⟩⟩⟩⟩
          rw [updX_same]
          exact hcg x (h x)
        · refine ⟨o, L, Γ, [], ord, rfl, ho, by simpa using hway, hfa, hw, hk, Or.inr ⟨fun p hp => hanc p.1 (ha p hp), x, hc, ⟨o, ho, Or.inr ⟨hg, Or.inl ⟨setD_same, ?_⟩⟩⟩⟩⟩
          rw [updX_same]
          exact hcg x h
    · have hm' : r ∈ ord := by
        rcases List.mem_cons.1 hm with h | h
        · exact absurd h.symm hir
        · exact h
      have eD : setD D r i = D i := setD_ne hir
      have eX : ∀ x, updX ξ r x i = ξ i := fun x => updX_ne hir
      have key : ∀ {L1 : Env} {Γ1 : List Fact}, Way ops G L0 D V ξ (i :: pre) L1 → (∀ p ∈ Γ1, D p.1 = true → p.2 w) → Live P w0 ops G K D V ξ ord L1 Γ1 →
          ∃ o L' Γ' A B, i :: ord = A ++ r :: B ∧ ops[r]? = some o ∧ Way ops G L0 D V ξ (A.reverse ++ pre) L' ∧ (∀ p ∈ Γ', D p.1 = true → p.2 w) ∧ want ops L' o = some true ∧ o.op.operands.toList.all (known L') = true ∧ EffAt P w0 ops G K D V ξ r o L' Γ' ord L1 Γ1 := by
        intro L1 Γ1 hw1 hf1 h1
        obtain ⟨o', L', Γ', A, B, e1, e2, e3, e4, e5, e6, e7⟩ := Live.effect hgr hdr hanc hph hn'.2 hm' hw1 hf1 h1
        exact ⟨o', L', Γ', i :: A, B, by rw [e1]; rfl, e2, by simpa using e3, e4, e5, e6, e7⟩
      -- one step on, where the tail is known
      have up : ∀ {L1 : Env} {Γ1 : List Fact} {o' : Oper} {L' : Env} {Γ' : List Fact}, (∀ p ∈ Γ, p ∈ Γ1) → (∀ x, Live P w0 ops G K (setD D r) V (updX ξ r x) ord L1 Γ1 → Live P w0 ops G K (setD D r) V (updX ξ r x) (i :: ord) L Γ) → EffAt P w0 ops G K D V ξ r o' L' Γ' ord L1 Γ1 → EffAt P w0 ops G K D V ξ r o' L' Γ' (i :: ord) L Γ := by
        intro L1 Γ1 o' L' Γ' hs hl he
        rcases he with ⟨h1, h2⟩ | ⟨h1, x, h2, h3⟩
        · exact Or.inl ⟨h1, fun x => hl x (h2 x)⟩
        · exact Or.inr ⟨fun p hp => h1 p (hs p hp), x, h2, hl x h3⟩
      rcases h with ⟨hg, h⟩ | ⟨hg, h⟩
      · rcases h with ⟨hd, h⟩ | ⟨hd, hw, h⟩ | ⟨hd, hw, v, hk, hc, h⟩
        · obtain ⟨o', L', Γ', A, B, e1, e2, e3, e4, e5, e6, e7⟩ := key (hway.cons ho (fun _ => by simp [gave, hg])) hfa h
          exact ⟨o', L', Γ', A, B, e1, e2, e3, e4, e5, e6, up (fun p hp => hp) (fun x hx => ⟨o, ho, Or.inl ⟨hg, Or.inl ⟨by rw [eD]; exact hd, hx⟩⟩⟩) e7⟩
        · obtain ⟨o', L', Γ', A, B, e1, e2, e3, e4, e5, e6, e7⟩ := key (hway.cons ho (fun hd' => by rw [hd] at hd'; cases hd')) hfa h
          exact ⟨o', L', Γ', A, B, e1, e2, e3, e4, e5, e6, up (fun p hp => hp) (fun x hx => ⟨o, ho, Or.inl ⟨hg, Or.inr (Or.inl ⟨by rw [eD]; exact hd, hw, hx⟩)⟩⟩) e7⟩
        · obtain ⟨o', L', Γ', A, B, e1, e2, e3, e4, e5, e6, e7⟩ := key (hway.cons ho (fun hd' => by rw [hd] at hd'; cases hd')) hfa h
          exact ⟨o', L', Γ', A, B, e1, e2, e3, e4, e5, e6, up (fun p hp => hp) (fun x hx => ⟨o, ho, Or.inl ⟨hg, Or.inr (Or.inr ⟨by rw [eD]; exact hd, hw, v, hk, hc, hx⟩)⟩⟩) e7⟩
      · rcases h with ⟨hd, h⟩ | ⟨hd, hw, hk, hc, h⟩ | ⟨hd, hw, hk, ha, y, hc, h⟩
        · obtain ⟨o', L', Γ', A, B, e1, e2, e3, e4, e5, e6, e7⟩ := key (hway.cons ho (fun _ => by simp [gave, hg])) (fun p hp hpd => by
            rcases List.mem_cons.1 hp with rfl | hp
            · exact hph i hg hd
            · exact hfa p hp hpd) h
          exact ⟨o', L', Γ', A, B, e1, e2, e3, e4, e5, e6, up (fun p hp => List.mem_cons_of_mem _ hp) (fun x hx => ⟨o, ho, Or.inr ⟨hg, Or.inl ⟨by rw [eD]; exact hd, by rw [eX]; exact hx⟩⟩⟩) e7⟩
        · have hf : ∀ (y : (gdOf G i).X), ∀ p ∈ ((i, (gdOf G i).phi y) :: Γ : List Fact), D p.1 = true → p.2 w := fun y p hp hpd => by
            rcases List.mem_cons.1 hp with rfl | hp
            · simp only at hpd; rw [hd] at hpd; cases hpd
            · exact hfa p hp hpd
          have all : ∀ y, ∀ x, Live P w0 ops G K (setD D r) V (updX ξ r x) ord (addD o.dst ((gdOf G i).val y) L) ((i, (gdOf G i).phi y) :: Γ) := fun y => by
            obtain ⟨o', L', Γ', A, B, e1, e2, e3, e4, e5, e6, e7⟩ := key (hway.cons ho (fun hd' => by rw [hd] at hd'; cases hd')) (hf y) (h y)
            rcases e7 with ⟨_, h2⟩ | ⟨h1, _⟩
            · exact h2
            · have := h1 _ List.mem_cons_self
              simp only at this
              rw [hd] at this
              cases this
          obtain ⟨o', L', Γ', A, B, e1, e2, e3, e4, e5, e6, e7⟩ := key (hway.cons ho (fun hd' => by rw [hd] at hd'; cases hd')) (hf (gdOf G i).x0) (h (gdOf G i).x0)
          exact ⟨o', L', Γ', A, B, e1, e2, e3, e4, e5, e6, up (fun p hp => List.mem_cons_of_mem _ hp) (fun x _ => ⟨o, ho, Or.inr ⟨hg, Or.inr (Or.inl ⟨by rw [eD]; exact hd, hw, hk, hc, fun y => all y x⟩)⟩⟩) e7⟩
        · obtain ⟨o', L', Γ', A, B, e1, e2, e3, e4, e5, e6, e7⟩ := key (hway.cons ho (fun hd' => by rw [hd] at hd'; cases hd')) (fun p hp hpd => by
            rcases List.mem_cons.1 hp with rfl | hp
            · simp only at hpd; rw [hd] at hpd; cases hpd
            · exact hfa p hp hpd) h
          exact ⟨o', L', Γ', A, B, e1, e2, e3, e4, e5, e6, up (fun p hp => List.mem_cons_of_mem _ hp) (fun x hx => ⟨o, ho, Or.inr ⟨hg, Or.inr (Or.inr ⟨by rw [eD]; exact hd, hw, hk, ha, y, hc, hx⟩)⟩⟩) e7⟩
/-- All is done. -/
theorem Live.done {D : Nat → Bool} {V : Nat → Value} {ξ : (i : Nat) → (gdOf G i).X} {w : World} (hph : ∀ i, isGh G i = true → D i = true → (gdOf G i).phi (ξ i) w) : ∀ {ord pre : List Nat} {L : Env} {Γ : List Fact}, (∀ i ∈ ord, D i = true) → Way ops G L0 D V ξ pre L → (∀ p ∈ Γ, p.2 w) → Live P w0 ops G K D V ξ ord L Γ →
    ∃ L' Γ', Way ops G L0 D V ξ (ord.reverse ++ pre) L' ∧ (∀ p ∈ Γ', p.2 w) ∧ K L' Γ'
  | [], pre, L, Γ, _, hway, hfa, h => ⟨L, Γ, by simpa using hway, hfa, h⟩
  | i :: ord, pre, L, Γ, hall, hway, hfa, ⟨o, ho, h⟩ => by
    have hdi := hall i (by simp)
    have hall' : ∀ j ∈ ord, D j = true := fun j hj => hall j (by simp [hj])
    rcases h with ⟨hg, h⟩ | ⟨hg, h⟩
    · rcases h with ⟨hd, h⟩ | ⟨hd, _⟩ | ⟨hd, _⟩
      · obtain ⟨L', Γ', e1, e2, e3⟩ := Live.done hph hall' (hway.cons ho (fun _ => by simp [gave, hg])) hfa h
        exact ⟨L', Γ', by simpa using e1, e2, e3⟩
      · rw [hdi] at hd; cases hd
      · rw [hdi] at hd; cases hd
    · rcases h with ⟨hd, h⟩ | ⟨hd, _⟩ | ⟨hd, _⟩
      · obtain ⟨L', Γ', e1, e2, e3⟩ := Live.done hph hall' (hway.cons ho (fun _ => by simp [gave, hg])) (fun p hp => by
          rcases List.mem_cons.1 hp with rfl | hp
          · exact hph i hg hd
          · exact hfa p hp) h
        exact ⟨L', Γ', by simpa using e1, e2, e3⟩
      · rw [hdi] at hd; cases hd
      · rw [hdi] at hd; cases hd
end
end Go.Proofs.YtnoipmimddoioaaGreat
namespace Go.Proofs.YtnoipmimddoioaaGreat
set_option linter.unusedVariables false
def ordX (ops : List Oper) (gi : List Nat) : List Nat → List Nat → Bool
  | _, [] => true
  | pre, i :: rest =>
    ((ops[i]?).map fun o => (lks ops o).all fun t => pre.all (fun j => !(dstOf ops j == some t) || anc ops i j) && rest.all (fun j => !(dstOf ops j == some t) || anc ops j i)).getD false &&
    (!gi.elem i || rest.all (fun j => gi.elem j || anc ops j i)) && ordX ops gi (i :: pre) rest
def chkX (n : Nat) (ops : List Oper) (ord gi : List Nat) (k : Nat) : Bool :=
  ops.all (fun o => !isSelect o.op) && ops.all (fun o => o.dst.all (fun d => Nat.blt d n)) && nodupB (ops.filterMap (·.dst)) &&
  (List.range k).all (fun i => ord.elem i) && nodupB ord && ordX ops gi [] ord && ord.all (fun i => Nat.blt i k) && Nat.ble k ops.length &&
  ((List.range ops.length).all fun i => ((ops[i]?).map fun o => (edges o).all (fun e => Nat.blt e i)).getD false) &&
  ((List.range ops.length).all fun i => Nat.blt i k || (List.range i).all (fun j => anc ops i j)) && gi.all (fun i => ord.elem i)
section
variable {P : Program} {n : Nat} {ops : List Oper} {Q : Exit → Act → World → Prop} {w0 : World} {L0 : Env} {G : List (Nat × GD)} {ord gi : List Nat} {k : Nat}
theorem ordX_spec : ∀ (rest pre : List Nat), ordX ops gi pre rest = true → ∀ A r B, rest = A ++ r :: B → ∀ o, ops[r]? = some o →
    (∀ t ∈ lks ops o, (∀ j, j ∈ A ∨ j ∈ pre → dstOf ops j = some t → anc ops r j = true) ∧ (∀ j ∈ B, dstOf ops j = some t → anc ops j r = true)) ∧ (gi.elem r = true → ∀ j ∈ B, gi.elem j = true ∨ anc ops j r = true)
  | [], _, _, A, r, B, h, _, _ => by cases A <;> simp at h
  | i :: rest, pre, h, A, r, B, he, o, ho => by
    simp only [ordX, Bool.and_eq_true] at h
    obtain ⟨⟨h1, h2⟩, h3⟩ := h
    cases A with
    | nil =>
      simp only [List.nil_append, List.cons.injEq] at he
      obtain ⟨rfl, rfl⟩ := he
      rw [ho] at h1
      simp only [Option.map_some, Option.getD_some] at h1
      refine ⟨fun t ht => ?_, fun hg j hj => ?_⟩
      · have := List.all_eq_true.1 h1 t ht
        simp only [Bool.and_eq_true] at this
        refine ⟨fun j hj hd => ?_, fun j hj hd => ?_⟩
        · rcases hj with hj | hj
          · cases hj
          · have := List.all_eq_true.1 this.1 j hj
            simpa [hd] using this
        · have := List.all_eq_true.1 this.2 j hj
          simpa [hd] using this
      · rw [hg] at h2
        simp only [Bool.not_true, Bool.false_or] at h2
        have := List.all_eq_true.1 h2 j hj
        simpa using this
    | cons a A =>
      simp only [List.cons_append, List.cons.injEq] at he
      obtain ⟨rfl, rfl⟩ := he
      obtain ⟨g1, g2⟩ := ordX_spec _ (i :: pre) h3 A r B rfl o ho
      refine ⟨fun t ht => ⟨fun j hj hd => (g1 t ht).1 j ?_ hd, (g1 t ht).2⟩, g2⟩
      rcases hj with hj | hj
      · rcases List.mem_cons.1 hj with rfl | hj
        · exact Or.inr (by simp)
        · exact Or.inl hj
      · exact Or.inr (by simp [hj])
structure ChkX (n : Nat) (ops : List Oper) (ord gi : List Nat) (k : Nat) : Prop where
  sel : ∀ o ∈ ops, isSelect o.op = false
  dlt : ∀ o ∈ ops, ∀ d, o.dst = some d → d < n
  one : ∀ (i j : Nat) (oi oj : Oper) (t : Nat), ops[i]? = some oi → ops[j]? = some oj → oi.dst = some t → oj.dst = some t → i = j
  cover : ∀ i, i < k → i ∈ ord
  nodup : ord.Nodup
  ok : ordX ops gi [] ord = true
  lt : ∀ i ∈ ord, i < k
  le : k ≤ ops.length
  ed : ∀ (i : Nat) (o : Oper), ops[i]? = some o → ∀ e ∈ edges o, e < i
  tl : ∀ i, i < ops.length → k ≤ i → ∀ j, j < i → anc ops i j = true
  gi : ∀ i ∈ gi, i ∈ ord
theorem ChkX.of (h : chkX n ops ord gi k = true) : ChkX n ops ord gi k := by
  simp only [chkX, Bool.and_eq_true] at h
  obtain ⟨⟨⟨⟨⟨⟨⟨⟨⟨⟨h1, h2⟩, h3⟩, h4⟩, h5⟩, h6⟩, h7⟩, h8⟩, h9⟩, h10⟩, h11⟩ := h
  refine ⟨fun o ho => ?_, fun o ho d hd => ?_, nodup_filterMap_inj ops (nodup_of_B _ h3), fun i hi => ?_, nodup_of_B _ h5, h6, fun i hi => ?_, by simpa [Nat.ble_eq] using h8, fun i o ho e he => ?_, fun i hi hk j hj => ?_, fun i hi => ?_⟩
  · simpa using List.all_eq_true.1 h1 o ho
  · have := List.all_eq_true.1 h2 o ho
    rw [hd] at this
    simpa [Nat.blt_eq] using this
  · have := List.all_eq_true.1 h4 i (by simpa using hi)
    rw [List.elem_eq_mem] at this
    exact of_decide_eq_true this
  · simpa [Nat.blt_eq] using List.all_eq_true.1 h7 i hi
  · have := List.all_eq_true.1 h9 i (by simpa using (List.getElem?_eq_some_iff.1 ho).1)
    rw [ho] at this
    simp only [Option.map_some, Option.getD_some] at this
    simpa [Nat.blt_eq] using List.all_eq_true.1 this e he
  · have := List.all_eq_true.1 h10 i (by simpa using hi)
    simp only [Bool.or_eq_true, Nat.blt_eq] at this
    rcases this with h | h
    · omega
    · exact List.all_eq_true.1 h j (by simpa using hj)
  · have := List.all_eq_true.1 h11 i hi
    rw [List.elem_eq_mem] at this
    exact of_decide_eq_true this
theorem isGh_iff : ∀ {G : List (Nat × GD)} {i : Nat}, isGh G i = (G.map (·.1)).elem i
  | [], i => rfl
  | (j, d) :: G, i => by
    have ih := isGh_iff (G := G) (i := i)
    unfold isGh at *
    simp only [gdLook, List.map_cons, List.elem_cons]
    by_cases e : j = i
    · subst e; simp
    · have h1 : Nat.beq j i = false := by rw [← Bool.not_eq_true, Nat.beq_eq]; exact e
      have h2 : (i == j) = false := by simp; exact fun h => e h.symm
      rw [h1, h2]
      simpa using ih
/-- What is so on the way. -/
structure StX (P : Program) (n : Nat) (ops : List Oper) (w0 : World) (L0 : Env) (G : List (Nat × GD)) (K : Env → List Fact → Prop) (ord : List Nat) (D : Nat → Bool) (V : Nat → Value) (ξ : (i : Nat) → (gdOf G i).X) (a : Act) (w : World) : Prop where
  closed : ∀ (i : Nat) (o : Oper), ops[i]? = some o → D i = true → ∀ e ∈ edges o, D e = true
  size : a.tmps.size = n
  defers : a.defers = []
  slot : ∀ (i : Nat) (o : Oper) (d : Nat), ops[i]? = some o → D i = true → o.dst = some d → a.tmps[d]? = some (gave G V ξ i)
  old : ∀ t v, look L0 t = some v → (∀ (i : Nat) (o : Oper), ops[i]? = some o → D i = true → o.dst ≠ some t) → a.tmps[t]? = some v
  kp : Kp [] w0 w
  ph : ∀ i, isGh G i = true → D i = true → (gdOf G i).phi (ξ i) w
  live : Live P w0 ops G K D V ξ ord L0 []
theorem StX.looks {K : Env → List Fact → Prop} {D : Nat → Bool} {V : Nat → Value} {ξ : (i : Nat) → (gdOf G i).X} {a : Act} {w : World} (c : ChkX n ops ord gi k) (hst : StX P n ops w0 L0 G K ord D V ξ a w) (htl : ∀ i, i < ops.length → k ≤ i → D i = false)
    {r : Nat} {o : Oper} {A B : List Nat} {L' : Env} (he : ord = A ++ r :: B) (ho : ops[r]? = some o) (hdr : D r = false) (hanc : ∀ j, anc ops r j = true → D j = true) (hway : Way ops G L0 D V ξ (A.reverse ++ []) L') :
    ∀ t ∈ lks ops o, ∀ v, look L' t = some v → a.tmps[t]? = some v := by
  intro t ht v hv
  obtain ⟨g1, _⟩ := ordX_spec ord [] c.ok A r B he o ho
  rcases hway t v hv with ⟨j, hj, h1, h2⟩ | ⟨h1, h2⟩
  · have hjA : j ∈ A := by simpa using hj
    have hdj := hanc j ((g1 t ht).1 j (Or.inl hjA) h1)
    unfold dstOf at h1
    cases hoj : ops[j]? with
    | none => rw [hoj] at h1; simp at h1
    | some oj =>
      rw [hoj] at h1
      simp only [Option.bind_some] at h1
      rw [hst.slot j oj t hoj hdj h1, h2 hdj]
  · refine hst.old t v h2 (fun i oi hoi hdi e => ?_)
    have hil := (List.getElem?_eq_some_iff.1 hoi).1
    have hik : i < k := by
      by_cases h : i < k
      · exact h
      · rw [htl i hil (by omega)] at hdi; cases hdi
    have hio := c.cover i hik
    have hdi' : dstOf ops i = some t := by simp [dstOf, hoi, e]
    rw [he] at hio
    rcases List.mem_append.1 hio with hA | hB
    · exact h1 i (by simpa using hA) hdi'
    · rcases List.mem_cons.1 hB with rfl | hB
      · rw [hdr] at hdi; cases hdi
      · have h3 := (g1 t ht).2 i hB hdi'
        have := anc_closed hst.closed i oi hoi (hst.closed i oi hoi hdi) r h3
        rw [hdr] at this
        cases this
theorem gave_updV {V : Nat → Value} {ξ : (i : Nat) → (gdOf G i).X} {r i : Nat} {v : Value} (h : i ≠ r) : gave G (updV V r v) ξ i = gave G V ξ i := by simp [gave, updV, h]
theorem gave_updX {V : Nat → Value} {ξ : (i : Nat) → (gdOf G i).X} {r i : Nat} {x : (gdOf G r).X} (h : i ≠ r) : gave G V (updX ξ r x) i = gave G V ξ i := by simp [gave, updX_ne h]
theorem put_slot {a : Act} {n : Nat} {dst : Option Nat} {v : Value} (hs : a.tmps.size = n) (t : Nat) (u : Value) (h : a.tmps[t]? = some u) (hne : dst ≠ some t) : (a.put dst v).tmps[t]? = some u := by
  cases dst with
  | none => exact h
  | some d =>
    have : d ≠ t := fun e => hne (by rw [e])
    simp only [Act.put]
    rw [Array.getElem?_setIfInBounds_ne this]
    exact h
theorem put_here {a : Act} {n d : Nat} {v : Value} (hs : a.tmps.size = n) (hd : d < n) : (a.put (some d) v).tmps[d]? = some v := by simp [Act.put, hs, hd]
/-- One is done. -/
theorem StX.did {K : Env → List Fact → Prop} {D : Nat → Bool} {V V' : Nat → Value} {ξ ξ' : (i : Nat) → (gdOf G i).X} {a : Act} {w w' : World} (c : ChkX n ops ord gi k) (hst : StX P n ops w0 L0 G K ord D V ξ a w) {r : Nat} {o : Oper} {v : Value} (ho : ops[r]? = some o) (hed : ∀ e ∈ edges o, D e = true)
    (hk : Goes w0 G r w w') (hstab : ∀ i x, Stab [] ((gdOf G i).phi x)) (hv : gave G V' ξ' r = v) (hoth : ∀ i, i ≠ r → gave G V' ξ' i = gave G V ξ i) (hx : ∀ i, i ≠ r → ξ' i = ξ i) (hr : isGh G r = true → (gdOf G r).phi (ξ' r) w') (hlive : Live P w0 ops G K (setD D r) V' ξ' ord L0 []) :
    StX P n ops w0 L0 G K ord (setD D r) V' ξ' (a.put o.dst v) w' := by
  refine ⟨fun i oi hoi hdi e he => ?_, ?_, ?_, fun i oi d hoi hdi hd => ?_, fun t u hu hno => ?_, (hk.elim (fun h => hst.kp.trans h) (fun h => h.1)), fun i hg hdi => ?_, hlive⟩
  · by_cases hir : i = r
    · subst hir
      rw [ho] at hoi
      cases hoi
      exact setD_of (hed e he)
    · rw [setD_ne hir] at hdi
      exact setD_of (hst.closed i oi hoi hdi e he)
  · cases hdd : o.dst with
    | none => exact hst.size
    | some d => simp [Act.put, hst.size]
  · cases hdd : o.dst <;> exact hst.defers
  · by_cases hir : i = r
    · subst hir
      rw [ho] at hoi
      cases hoi
      rw [hd, hv]
      exact put_here hst.size (c.dlt o (List.mem_of_getElem? ho) d hd)
    · rw [setD_ne hir] at hdi
      rw [hoth i hir]
      exact put_slot hst.size d _ (hst.slot i oi d hoi hdi hd) (fun e => hir (c.one i r oi o d hoi ho hd e))
  · refine put_slot hst.size t u (hst.old t u hu (fun i oi hoi hdi => hno i oi hoi (setD_of hdi))) (hno r o ho setD_same)
  · by_cases hir : i = r
    · subst hir
      exact hr hg
    · rw [setD_ne hir] at hdi
      rw [hx i hir]
      exact hk.elim (fun h => hstab i _ w w' h (hst.ph i hg hdi)) (fun h => h.2 i _ hir (hst.ph i hg hdi))
def KX (n : Nat) (w0 : World) (P : Program) (ops : List Oper) (Q : Exit → Act → World → Prop) (k : Nat) (L : Env) (Γ : List Fact) : Prop :=
  ∀ w', Kp [] w0 w' → (∀ p ∈ Γ, p.2 w') → ∀ a, Fits n a L → wpList P ops.toArray Q (ops.drop k) a w'
theorem StX.wpAny (c : ChkX n ops ord (G.map (·.1)) k) (hstab : ∀ i x, Stab [] ((gdOf G i).phi x)) : ∀ (fuel : Nat) (listed : Array Bool) (V : Nat → Value) (ξ : (i : Nat) → (gdOf G i).X) (a : Act) (w : World),
    listed.size = ops.length → StX P n ops w0 L0 G (KX n w0 P ops Q k) ord (fun j => listed.getD j true) V ξ a w → (∀ i, i < ops.length → k ≤ i → listed.getD i true = false) →
    (List.range ops.length).countP (fun i => !listed.getD i true) = fuel → Go.wpAny P .any ops.toArray Q fuel listed a w := by
  have hfin : ∀ (listed : Array Bool) (V : Nat → Value) (ξ : (i : Nat) → (gdOf G i).X) (a : Act) (w : World), StX P n ops w0 L0 G (KX n w0 P ops Q k) ord (fun j => listed.getD j true) V ξ a w → (∀ i, i < ops.length → k ≤ i → listed.getD i true = false) → (∀ i, i < k → listed.getD i true = true) → wpList P ops.toArray Q (ops.drop k) a w := by
    intro listed V ξ a w hst htl hpre
    obtain ⟨L', Γ', h1, h2, h3⟩ := Live.done (L0 := L0) (pre := []) hst.ph (fun i hi => hpre i (c.lt i hi)) Way.nil (by simp) hst.live
    refine h3 w hst.kp h2 a ⟨fun t v hv => ?_, hst.size, hst.defers⟩
    rcases h1 t v hv with ⟨j, hj, g1, g2⟩ | ⟨g1, g2⟩
    · have hjo : j ∈ ord := by simpa using hj
      have hdj := hpre j (c.lt j hjo)
      unfold dstOf at g1
      cases hoj : ops[j]? with
      | none => rw [hoj] at g1; simp at g1
      | some oj =>
        rw [hoj] at g1
        simp only [Option.bind_some] at g1
        rw [hst.slot j oj t hoj hdj g1, g2 hdj]
    · refine hst.old t v g2 (fun i oi hoi hdi e => ?_)
      have hil := (List.getElem?_eq_some_iff.1 hoi).1
      have hik : i < k := by
        by_cases h : i < k
        · exact h
        · simp only [htl i hil (by omega)] at hdi; cases hdi
      exact g1 i (by simpa using c.cover i hik) (by simp [dstOf, hoi, e])
  intro fuel
  induction fuel with
  | zero =>
    intro listed V ξ a w hsz hst htl hcnt
    rw [List.countP_eq_zero] at hcnt
    have hall : ∀ i, i < ops.length → listed.getD i true = true := fun i hi => by simpa using hcnt i (by simpa using hi)
    have hle := c.le
    have hk : k = ops.length := by
      by_cases h : k < ops.length
      · have := htl k h (Nat.le_refl _)
        rw [hall k h] at this
        cases this
      · omega
    exact wpAny_tail c.ed 0 k listed a w (by omega) hsz c.tl hst.closed (fun i hi => by rw [hall i hi]; simp; omega) (hfin listed V ξ a w hst htl (fun i hi => hall i (by omega)))
  | succ fuel ih =>
    intro listed V ξ a w hsz hst htl hcnt
    have hle := c.le
    by_cases hpre : ∀ i, i < k → listed.getD i true = true
    · have hdec : ∀ i, i < ops.length → listed.getD i true = decide (i < k) := by
        intro i hi
        by_cases hik : i < k
        · rw [hpre i hik]; simp [hik]
        · rw [htl i hi (by omega)]; simp [hik]
      have hm : k + (fuel + 1) = ops.length := by
        have : (List.range ops.length).countP (fun i => !listed.getD i true) = ops.length - k := by
          have e1 : (List.range ops.length).countP (fun i => !listed.getD i true) = (List.range ops.length).countP (fun i => !decide (i < k)) := by
            apply List.countP_congr
            intro i hi
            rw [hdec i (by simpa using hi)]
          rw [e1]
          have : ops.length = k + (ops.length - k) := by omega
          rw [this, List.range_add, List.countP_append, List.countP_map]
          have h1 : (List.range k).countP (fun i => !decide (i < k)) = 0 := by
            rw [List.countP_eq_zero]; intro i hi; simp at hi; simp [hi]
          have h2 : (List.range (ops.length - k)).countP ((fun i => !decide (i < k)) ∘ fun x => k + x) = (List.range (ops.length - k)).length := by
            rw [List.countP_eq_length]; intro i hi; simp
          rw [h1, h2]
          simp
        omega
      exact wpAny_tail c.ed (fuel + 1) k listed a w hm hsz c.tl hst.closed hdec (hfin listed V ξ a w hst htl hpre)
    · constructor
      · intro hr
        exfalso
        apply hpre
        intro i
        induction i using Nat.strongRecOn with
        | _ i ihi =>
          intro hik
          cases hd : listed.getD i true with
          | true => rfl
          | false =>
            exfalso
            have : i ∈ Region.ready .any ops.toArray listed := by
              refine (ready_iff hsz).2 ⟨ops[i], by simp, hd, fun e he => ?_⟩
              have hei := c.ed i ops[i] (by simp) e he
              have := ihi e hei (by omega)
              simp only [Array.getD_eq_getD_getElem?] at this ⊢
              rw [Array.getElem?_eq_getElem (by omega)] at this ⊢
              exact this
            rw [hr] at this
            cases this
      · intro i hi
        obtain ⟨o, ho, hnd, hed'⟩ := (ready_iff hsz).1 hi
        have hil : i < ops.length := (List.getElem?_eq_some_iff.1 ho).1
        have hed : ∀ e ∈ edges o, listed.getD e true = true := by
          intro e he
          have := hed' e he
          simp only [Array.getD_eq_getD_getElem?] at this ⊢
          cases h : listed[e]? with
          | none => rfl
          | some b => rw [h] at this; exact this
        have hanc : ∀ j, anc ops i j = true → listed.getD j true = true := anc_closed hst.closed i o ho hed
        have hsz' : (listed.setIfInBounds i true).size = ops.length := by simp [hsz]
        have hset : (fun j => (listed.setIfInBounds i true).getD j true) = setD (fun j => listed.getD j true) i := funext fun j => getD_set (by omega)
        by_cases hik : i < k
        · have htl' : ∀ j, j < ops.length → k ≤ j → (listed.setIfInBounds i true).getD j true = false := by
            intro j hj hkj
            rw [getD_set (by omega), setD_ne (by omega)]
            exact htl j hj hkj
          have hcnt' : (List.range ops.length).countP (fun j => !(listed.setIfInBounds i true).getD j true) = fuel := by
            have key : ∀ (l : List Nat), l.Nodup → i ∈ l → l.countP (fun j => !listed.getD j true) = l.countP (fun j => !(listed.setIfInBounds i true).getD j true) + 1 := by
              intro l
              induction l with
              | nil => intro _ h; cases h
              | cons y l ihl =>
                intro hnl hm
                rw [List.nodup_cons] at hnl
                rw [List.countP_cons, List.countP_cons]
                by_cases e : y = i
                · subst e
                  have hsame : l.countP (fun j => !listed.getD j true) = l.countP (fun j => !(listed.setIfInBounds y true).getD j true) := by
                    apply List.countP_congr
                    intro j hj
                    rw [getD_set (by omega), setD_ne (show j ≠ y from fun e1 => hnl.1 (e1 ▸ hj))]
                  rw [hsame, getD_set (by omega), setD_same, hnd]
                  simp
                · have hm' : i ∈ l := by
                    rcases List.mem_cons.1 hm with h | h
                    · exact absurd h.symm e
                    · exact h
                  rw [ihl hnl.2 hm', getD_set (by omega), setD_ne e]
                  omega
            have := key (List.range ops.length) List.nodup_range (by simpa using hil)
            omega
          have hio := c.cover i hik
          cases hg : isGh G i with
          | false =>
            have hgd : ∀ g A B, ord = A ++ g :: B → i ∈ B → isGh G g = true → listed.getD g true = true := by
              intro g A B he hb hgg
              have hgo : g ∈ ord := by rw [he]; simp
              have hgl : g < ops.length := Nat.lt_of_lt_of_le (c.lt g hgo) hle
              obtain ⟨_, g2⟩ := ordX_spec ord [] c.ok A g B he ops[g] (by simp [hgl])
              rcases g2 (by rw [← isGh_iff]; exact hgg) i hb with h | h
              · rw [← isGh_iff, hg] at h; cases h
              · exact hanc g h
            obtain ⟨o', L', Γ', A, B, e1, e2, e3, e4, e5⟩ := Live.plain (D := fun j => listed.getD j true) hg hnd c.nodup hio hgd Way.nil (by simp) hst.ph hst.live
            have heo : o = o' := Option.some.inj (ho.symm.trans e2)
            subst heo
            have hlk := hst.looks c htl e1 ho hnd hanc e3
            rcases e5 with ⟨hw, hl⟩ | ⟨hw, v, hkn, hrun, hl⟩
            · refine wpOp_of ho (wanted_of hlk hw) (fun h => by cases h) (fun _ => ?_)
              refine ih _ (updV V i undef) ξ _ w hsz' ?_ htl' hcnt'
              rw [hset]
              exact hst.did c ho hed (Or.inl (Kp.refl _ _)) hstab (by simp [gave, hg, updV]) (fun j hj => gave_updV hj) (fun j hj => rfl) (fun h => by rw [hg] at h; cases h) hl
            · refine wpOp_of ho (wanted_of hlk hw) (fun _ => ?_) (fun h => by cases h)
              have hr := hrun w hst.kp (fun p hp ha => e4 p hp (hanc p.1 ha))
              have hr' := OpRun.congr (c.sel o (List.mem_of_getElem? ho)) (eval_of hlk hkn) hr
              refine hr'.wp (fun v' w' ⟨h1, h2⟩ => ?_)
              subst h1
              refine ih _ (updV V i v') ξ _ w' hsz' ?_ htl' hcnt'
              rw [hset]
              exact hst.did c ho hed (Or.inl h2) hstab (by simp [gave, hg, updV]) (fun j hj => gave_updV hj) (fun j hj => rfl) (fun h => by rw [hg] at h; cases h) hl
          | true =>
            obtain ⟨o', L', Γ', A, B, e1, e2, e3, e4, hw, hkn, hea⟩ := Live.effect (D := fun j => listed.getD j true) hg hnd hanc hst.ph c.nodup hio Way.nil (by simp) hst.live
            have heo : o = o' := Option.some.inj (ho.symm.trans e2)
            subst heo
            have hlk := hst.looks c htl e1 ho hnd hanc e3
            refine wpOp_of ho (wanted_of hlk hw) (fun _ => ?_) (fun h => by cases h)
            rcases hea with ⟨hrun, hl⟩ | ⟨_, x, hrun, hl⟩
            · have hr := hrun w hst.kp (fun p hp ha => e4 p hp (hanc p.1 ha))
              have hr' := OpRun.congr (c.sel o (List.mem_of_getElem? ho)) (eval_of hlk hkn) hr
              refine hr'.wp (fun v' w' ⟨x, h1, h2, h3⟩ => ?_)
              subst h1
              refine ih _ V (updX ξ i x) _ w' hsz' ?_ htl' hcnt'
              rw [hset]
              exact hst.did c ho hed h3 hstab (by simp [gave, hg, updX_same]) (fun j hj => gave_updX hj) (fun j hj => updX_ne hj) (fun _ => by rw [updX_same]; exact h2) (hl x)
            · have hr := hrun w hst.kp (fun p hp ha => e4 p hp (hanc p.1 ha))
              have hr' := OpRun.congr (c.sel o (List.mem_of_getElem? ho)) (eval_of hlk hkn) hr
              refine hr'.wp (fun v' w' ⟨h1, h2, h3⟩ => ?_)
              subst h1
              refine ih _ V (updX ξ i x) _ w' hsz' ?_ htl' hcnt'
              rw [hset]
              exact hst.did c ho hed h3 hstab (by simp [gave, hg, updX_same]) (fun j hj => gave_updX hj) (fun j hj => updX_ne hj) (fun _ => by rw [updX_same]; exact h2) hl
        · exfalso
          apply hpre
          intro j hj
          exact hanc j (c.tl i hil (by omega) j (by omega))
theorem CG.free {id : Nat} (hm : P.follows .mixedOrders = true) (k : Nat) (ord : List Nat) (G : List (Nat × GD)) (hc : chkX n ops ord (G.map (·.1)) k = true) (hstab : ∀ p ∈ G, ∀ x, Stab [] (p.2.phi x))
    (h : DerX P w0 ops G (KX n w0 P ops Q k) ord L0 []) : CG P n (.region id ops.toArray true) Q L0 w0 := by
  intro a ha
  have c := ChkX.of hc
  refine wp_region_any hm ?_
  have hget : ∀ j, (Array.replicate ops.toArray.size false).getD j true = !decide (j < ops.length) := by
    intro j
    simp [Array.getD_eq_getD_getElem?, Array.getElem?_replicate]
    split <;> simp_all
  have hstab' : ∀ i x, Stab [] ((gdOf G i).phi x) := by
    have : ∀ (G : List (Nat × GD)), (∀ p ∈ G, ∀ x, Stab [] (p.2.phi x)) → ∀ i, ∀ x, Stab [] ((gdOf G i).phi x) := by
      intro G
      induction G with
      | nil => intro _ i x w w' _ _; exact trivial
      | cons p G ih =>
        intro h i
        obtain ⟨j, d⟩ := p
        have e : gdOf ((j, d) :: G) i = (if Nat.beq j i = true then d else gdOf G i) := by
          unfold gdOf
          simp only [gdLook]
          cases Nat.beq j i <;> rfl
        by_cases hb : Nat.beq j i = true
        · rw [e, if_pos hb]
          exact h (j, d) (by simp)
        · rw [e, if_neg hb]
          exact ih (fun q hq => h q (by simp [hq])) i
    exact this G hstab
  refine StX.wpAny (w0 := w0) (L0 := L0) (G := G) c hstab' _ _ (fun _ => undef) (fun i => (gdOf G i).x0) a _ (by simp) ?_ ?_ ?_
  · have hD : (fun j => (Array.replicate ops.toArray.size false).getD j true) = fun j => !decide (j < ops.length) := funext hget
    rw [hD]
    refine ⟨fun i o ho hd => ?_, ha.size, ha.defers, fun i o d ho hd => ?_, fun t v hv _ => ha.slot t v hv, (Kp.refl [] w0).drew, fun i hg hd => ?_, ?_⟩
    · simp [(List.getElem?_eq_some_iff.1 ho).1] at hd
    · simp [(List.getElem?_eq_some_iff.1 ho).1] at hd
    · rw [isGh_iff, List.elem_eq_mem] at hg
      have := c.lt i (c.gi i (of_decide_eq_true hg))
      have hle := c.le
      have hil : i < ops.length := by omega
      simp [hil] at hd
    · refine Live.congr (fun i hi => ⟨?_, rfl, rfl⟩) h
      have h1 := c.lt i hi
      have hle := c.le
      have hil : i < ops.length := by omega
      simp [hil]
  · intro i hi _
    rw [hget]; simp [hi]
  · have : (List.range ops.length).countP (fun i => !(Array.replicate ops.toArray.size false).getD i true) = (List.range ops.length).length := by
      rw [List.countP_eq_length]
      intro i hi
      rw [hget]
      simp at hi
      simp [hi]
    rw [this]
    simp
end
end Go.Proofs.YtnoipmimddoioaaGreat
namespace Go.Proofs.YtnoipmimddoioaaGreat
set_option linter.unusedVariables false
section
variable {P : Program} {n : Nat} {ops : List Oper} {Q : Exit → Act → World → Prop} {w0 : World} {L : Env} {G : List (Nat × GD)} {K : Env → List Fact → Prop} {Γ : List Fact} {i : Nat} {ord : List Nat} {ty : TypeId} {pos : String} {af : Array Edge} {g : Option (Nat × Bool)}
theorem DerX.val {d : Nat} {op : Op} {v : Value} (hg : isGh G i = false) (ho : ops[i]? = some ⟨some d, op, ty, pos, af, g⟩) (hw : want ops L ⟨some d, op, ty, pos, af, g⟩ = some true) (hk : op.operands.toList.all (known L) = true)
    (hv : Vals P [] w0 (Facts ops i Γ) L ⟨some d, op, ty, pos, af, g⟩ v) (h : DerX P w0 ops G K ord ((d, v) :: L) Γ) : DerX P w0 ops G K (i :: ord) L Γ :=
  ⟨_, ho, Or.inl ⟨hg, Or.inr (Or.inr ⟨rfl, hw, v, hk, fun w hkp hF => by unfold OpRun; rw [hv w hkp hF]; exact ⟨rfl, Kp.refl _ _⟩, h⟩)⟩⟩
/-- An effect. -/
theorem DerX.eff {o : Oper} (D : GD) (hg : gdLook G i = some D) (ho : ops[i]? = some o) (hw : want ops L o = some true) (hk : o.op.operands.toList.all (known L) = true)
    (hc : ∀ w, Kp [] w0 w → Facts ops i Γ w → OpRun P (rho L) o w (fun v w' => ∃ x, v = D.val x ∧ D.phi x w' ∧ Kp [] w w'))
    (h : ∀ x, DerX P w0 ops G K ord (addD o.dst (D.val x) L) ((i, D.phi x) :: Γ)) : DerX P w0 ops G K (i :: ord) L Γ := by
  have e : gdOf G i = D := by simp [gdOf, hg]
  refine ⟨o, ho, Or.inr ⟨by simp [isGh, hg], Or.inr (Or.inl ⟨rfl, hw, hk, ?_, ?_⟩)⟩⟩
  · rw [e]; exact fun w h1 h2 => (hc w h1 h2).mono (fun v w' ⟨x, g1, g2, g3⟩ => ⟨x, g1, g2, Or.inl g3⟩)
  · rw [e]; exact h
/-- What is promised of a slice of l. -/
def gS {α : Type} (m : Nat) (enc : α → List Value) (sz : Nat) (l : List α) : GD := ⟨Option Addr × Nat, (none, 0), fun q => .slice q.1 l.length q.2, fun q w => SlF m enc sz w q.1 q.2 l⟩
theorem gS_stab {α : Type} {m : Nat} {enc : α → List Value} {sz : Nat} {l : List α} (x : (gS m enc sz l).X) : Stab [] ((gS m enc sz l).phi x) := fun w w' hk h => SlF.kp0 h hk
/-- A slice written out. -/
theorem DerX.buildSlice {α : Type} {enc : α → List Value} {sz m d : Nat} {T E : TypeId} {parts : List (Nat × Operand)} {vs : List (Nat × Value)} {b : Nat} (l : List α) (hel : ∀ x, (enc x).length = sz) (hg : gdLook G i = some (gS m enc sz l)) (hb : Nat.beq l.length b = true)
    (ho : ops[i]? = some ⟨some d, .buildSlice T b parts.toArray, ty, pos, af, g⟩) (hw : want ops L ⟨some d, .buildSlice T b parts.toArray, ty, pos, af, g⟩ = some true) (hk : (Op.buildSlice T b parts.toArray).operands.toList.all (known L) = true)
    (he : (parts.map fun p => (p.1, rho L p.2)) = vs) (hm : m ≤ w0.heap.size) (hrun : ∀ w : World, (Instr.buildSlice T b vs.toArray).run P w = .ok (.slice (some ⟨w.heap.size, 0, none⟩) b b) { w with heap := w.heap.push (.cells (flt enc l).toArray E) })
    (h : ∀ (a : Option Addr) (c : Nat), DerX P w0 ops G K ord ((d, .slice a l.length c) :: L) ((i, fun w => SlF m enc sz w a c l) :: Γ)) : DerX P w0 ops G K (i :: ord) L Γ := by
  have hb' := Nat.eq_of_beq_eq_true hb
  subst hb'
  refine DerX.eff (gS m enc sz l) hg ho hw hk (fun w h1 h2 => ?_) (fun x => h x.1 x.2)
  unfold OpRun
  have e : (parts.toArray.map fun (p : Nat × Operand) => (p.1, rho L p.2)) = vs.toArray := by simp [he]
  have : (execOp (rho L) ⟨some d, .buildSlice T l.length parts.toArray, ty, pos, af, g⟩).run P w = .ok (.value (.slice (some ⟨w.heap.size, 0, none⟩) l.length l.length)) { w with heap := w.heap.push (.cells (flt enc l).toArray E) } := by
    simp only [execOp, e, Sem.run_bind, hrun w, Result.andThen, Sem.run_pure]
  rw [this]
  refine ⟨(some ⟨w.heap.size, 0, none⟩, l.length), rfl, ⟨Nat.le_refl _, fun b off e => ?_, ?_⟩, Kp.push w _ rfl⟩
  · simp only [Option.some.injEq, Addr.mk.injEq] at e
    have := h1.size
    omega
  · refine Sl.of_blk hel (pre := []) (post := []) (T := E) ?_
    have := Blk.push w (.cells (flt enc l).toArray E)
    simpa using this
theorem DerX.tl {k : Nat} (h : ∀ w', Kp [] w0 w' → (∀ p ∈ Γ, p.2 w') → SG P n ops Q (ops.drop k) L w') : DerX P w0 ops G (KX n w0 P ops Q k) [] L Γ := h
end
end Go.Proofs.YtnoipmimddoioaaGreat
namespace Go.Proofs.YtnoipmimddoioaaGreat
set_option linter.unusedVariables false
theorem Row.append {w : World} {b off : Nat} {A B : List Value} (h : Row w b off A) (h' : Row w b (off + A.length) B) : Row w b off (A ++ B) := by
  obtain ⟨cs, T, f, h1, h2⟩ := h
  obtain ⟨cs', T', f', h3, h4⟩ := h'
  rw [h1] at h3
  cases h3
  refine ⟨cs, T, f, h1, fun i v hv => ?_⟩
  by_cases hi : i < A.length
  · rw [List.getElem?_append_left hi] at hv
    exact h2 i v hv
  · rw [List.getElem?_append_right (by omega)] at hv
    have := h4 _ v hv
    rw [show off + A.length + (i - A.length) = off + i by omega] at this
    exact this
section
variable {α : Type} {enc : α → List Value} {sz : Nat}
theorem Sl.tail {w : World} {b off : Nat} {x : α} {l : List α} (h : Sl enc sz w (some ⟨b, off, none⟩) (x :: l)) : Sl enc sz w (some ⟨b, off + sz, none⟩) l := fun i y hy => by
  have := h.row (i := i + 1) (x := y) (by simpa using hy)
  refine ⟨b, off + sz, rfl, ?_⟩
  rw [show off + sz + i * sz = off + (i + 1) * sz by rw [Nat.add_mul]; omega]
  exact this
theorem Sl.flat (hel : ∀ x, (enc x).length = sz) {w : World} {b : Nat} : ∀ {l : List α} {off : Nat}, l ≠ [] → Sl enc sz w (some ⟨b, off, none⟩) l → Row w b off (flt enc l)
  | [], _, h, _ => absurd rfl h
  | [x], off, _, h => by
    have := h.row (i := 0) (x := x) rfl
    simpa [flt] using this
  | x :: y :: l, off, _, h => by
    have h1 := h.row (i := 0) (x := x) rfl
    have h2 := Sl.flat hel (by simp) h.tail
    have : flt enc (x :: y :: l) = enc x ++ flt enc (y :: l) := by simp [flt]
    rw [this]
    refine Row.append (by simpa using h1) ?_
    rw [hel]
    exact h2
variable {P : Program} {w : World}
theorem run_cloneO {t ty e : TypeId} [u : Ut P t (.slice e)] {i : TypeInfo} [f : Inf P e i] {z : Value} (hz : i.zero = some z) (hzs : z.cells.size = i.size) (hsz : 0 < i.size) (hel : ∀ x, (enc x).length = i.size) (hone : ∀ x, allOne (enc x) = true)
    {a : Option Addr} {c : Nat} {l : List α} (hs : Sl enc i.size w a l) {b0 m : Nat} (hb0 : Blk w b0 (.cells #[] e)) (hm : m ≤ b0) (h63 : l.length ≤ maxLen) (hbytes : l.length * i.bytes ≤ 140737488355328) :
    ∃ v' w', (Builtin.append_ #[t, t] ty #[.slice (some ⟨b0, 0, none⟩) 0 0, .slice a l.length c]).run P w = .ok v' w' ∧ w'.ownsRow m e i.size v' l.length (flt enc l) ∧ Kp [] w w' := by
  have hown : w.ownsRow m e i.size (.slice (some ⟨b0, 0, none⟩) 0 0) 0 [] := by
    refine ⟨by simp, Or.inr ⟨b0, 0, #[], rfl, hm, hb0, Nat.le_refl _, by simp [maxLen], by simp, by simp⟩⟩
  by_cases hl : l = []
  · subst hl
    refine ⟨.slice (some ⟨b0, 0, none⟩) 0 0, w, ?_, hown, Kp.refl _ _⟩
    cases a <;> simp [Builtin.append_, run_underlying u.eq, sizeOf, typeInfo, f.eq, Builtin.lenOf, Builtin.firstCells, loadCells, loadCellsFrom, storeCells]
  · have hpos : 0 < l.length := List.length_pos_iff.2 hl
    obtain ⟨b, off, rfl, _⟩ := hs.at hpos
    have hr := hs.flat hel hl
    have hlen : (flt enc l).length = l.length * i.size := flt_length hel l
    obtain ⟨v', w', h1, h2, h3⟩ := run_append (P := P) (ty := ty) (d := .bool) (c := c) (u := u) (f := f) hz hzs hsz hown hlen hr (flt_all hone l) (by omega) (by simpa using hbytes) (by have := hb0.lt; omega)
    have hnews : ∀ j u', (flt enc l)[j]? = some u' → w.cell? ((⟨b, off, none⟩ : Addr).add j) = some u' := fun j u' hu => by rw [add_none]; exact hr.cell hu
    have hm' : l.length ≤ 9223372036854775807 := by simp only [maxLen] at h63; omega
    have hr2 := run_append_grow (P := P) w t ty e i z u.eq f.eq hz ⟨b0, 0, none⟩ 0 0 [] (by simp) (by simp) ⟨b, off, none⟩ l.length c (flt enc l) hlen hnews (by omega) (by omega) (growslice_fits (by omega) (by simpa using hbytes))
    have h1' := h1
    rw [hr2] at h1
    simp only [Result.ok.injEq] at h1
    obtain ⟨hv, hw⟩ := h1
    have hk : Kp [] w w' := by rw [← hw]; exact Kp.alloc_drew w _ rfl
    simp only [Nat.zero_add, List.nil_append] at h2
    exact ⟨v', w', h1', h2, hk⟩
/-- '[]T{}': a new slice of none. -/
def gE (m : Nat) (E : TypeId) : GD := ⟨Nat, 0, fun b => .slice (some ⟨b, 0, none⟩) 0 0, fun b w => m ≤ b ∧ Blk w b (.cells #[] E)⟩
theorem run_empty {T E : TypeId} {i : TypeInfo} [u : Ut P T (.slice E)] [f : Inf P E i] : (Instr.buildSlice T 0 #[]).run P w = .ok (.slice (some ⟨w.heap.size, 0, none⟩) 0 0) { w with heap := w.heap.push (.cells #[] E) } := by
  simp [Instr.buildSlice, run_underlying u.eq, sizeOf, typeInfo, f.eq, Instr.fill, newRow, newObj, Sem.run, Result.andThen]
  congr 2
  exact Array.eq_empty_of_size_eq_zero (by simp)
variable {n : Nat} {ops : List Oper} {Q : Exit → Act → World → Prop} {w0 : World} {L : Env} {G : List (Nat × GD)} {K : Env → List Fact → Prop} {Γ : List Fact} {j : Nat} {ord : List Nat} {ty : TypeId} {pos : String} {af : Array Edge} {g : Option (Nat × Bool)}
end
end Go.Proofs.YtnoipmimddoioaaGreat
namespace Go.Proofs.YtnoipmimddoioaaGreat
set_option linter.unusedVariables false
section
variable {α : Type} {enc : α → List Value} {sz : Nat} {P : Program}
def RetO (P : Program) (E : TypeId) (enc : α → List Value) (sz : Nat) (f : FuncId) (args : Array Value) (w : World) (l : List α) : Prop := Calls P f args w (fun e w' => ∃ v, e = .returned v ∧ w'.ownsRow w.heap.size E sz v l.length (flt enc l) ∧ Kp [] w w')
theorem own_mono {w : World} {base base' : Nat} {E : TypeId} {v : Value} {n : Nat} {xs : List Value} (h : w.ownsRow base E sz v n xs) (hb : base' ≤ base) : w.ownsRow base' E sz v n xs := by
  obtain ⟨h1, h2⟩ := h
  refine ⟨h1, ?_⟩
  rcases h2 with h2 | ⟨g, cap, cur, h3, h4, h5⟩
  · exact Or.inl h2
  · exact Or.inr ⟨g, cap, cur, h3, Nat.le_trans hb h4, h5⟩
/-- What is promised of a slice that is owned. -/
def gO (m : Nat) (E : TypeId) (enc : α → List Value) (sz : Nat) (l : List α) : GD := ⟨Value, undef, fun v => v, fun v w => w.ownsRow m E sz v l.length (flt enc l)⟩
variable {n : Nat} {ops : List Oper} {Q : Exit → Act → World → Prop} {w0 : World} {L : Env} {G : List (Nat × GD)} {K : Env → List Fact → Prop} {Γ : List Fact} {i : Nat} {ord : List Nat} {ty : TypeId} {pos : String} {af : Array Edge} {g : Option (Nat × Bool)}
end
end Go.Proofs.YtnoipmimddoioaaGreat
namespace Go.Proofs.YtnoipmimddoioaaGreat
set_option linter.unusedVariables false
section
variable {P : Program} {L : Env} {ty : TypeId} {pos : String} {af : Array Edge} {g : Option (Nat × Bool)} {S : List Nat} {w0 : World} {ops : List Oper} {gh : List Nat} {K : Env → (World → Prop) → (World → Prop) → Prop} {i : Nat} {ord : List Nat} {F R : World → Prop}
/-- a call whose answer is told by facts that stay, beside the resource -/
theorem Der.callGR {X : Type} {d : Nat} {f : FuncId} [Fnc P f] {args : List Operand} {vs : List Value} {tys : Array TypeId} (val : X → Value) (F' R' : X → World → Prop)
    (ho : ops[i]? = some ⟨some d, .call ⟨.value (.func f), args.toArray, tys⟩, ty, pos, af, g⟩) (hw : want ops L ⟨some d, .call ⟨.value (.func f), args.toArray, tys⟩, ty, pos, af, g⟩ = some true) (hg : gh.elem i = true) (hk : (Op.call ⟨.value (.func f), args.toArray, tys⟩).operands.toList.all (known L) = true)
    (he : Evs L args vs) (hF : ∀ x, Stab S (F' x)) (hR : ∀ x, Stab [] (R' x)) (hFs : Stab S F) (hc : ∀ w, Kp S w0 w → F w → R w → Calls P f vs.toArray w (fun e w' => ∃ x, e = .returned (val x) ∧ F' x w' ∧ R' x w' ∧ Kp S w w'))
    (hd : ∀ x, Der P S w0 ops gh K ord ((d, val x) :: L) (fun w => F w ∧ F' x w) (R' x)) : Der P S w0 ops gh K (i :: ord) L F R :=
  Der.ghost val F' R' ho hw hg hk hF hR hFs (fun w h1 h2 h3 => orun_call (by rw [he.arr]; exact (hc w h1 h2 h3).mono (fun e w' ⟨x, g1, g2, g3, g4⟩ => ⟨val x, g1, x, rfl, g2, g3, g4⟩))) hd
/-- the whole block written over -/
theorem Der.storeAll {T T' : TypeId} {inf : TypeInfo} [f : Inf P T inf] {a x : Operand} {b : Nat} {old : List Value} {v : Value}
    (ho : ops[i]? = some ⟨none, .store T a x, ty, pos, af, g⟩) (hw : want ops L ⟨none, .store T a x, ty, pos, af, g⟩ = some true) (hg : gh.elem i = true) (hk : (known L a && known L x) = true) (ha : rho L a = .pointer (some ⟨b, 0, none⟩)) (hx : rho L x = v)
    (hn : v.cells.toList.length = inf.size) (hold : old.length = inf.size) (hone : allOne v.cells.toList = true) (hb : b ∈ S) (hFs : Stab S F)
    (hd : Der P S w0 ops gh K ord L (fun w => F w ∧ True) (fun w => Blk w b (.cells v.cells.toList.toArray T'))) : Der P S w0 ops gh K (i :: ord) L F (fun w => Blk w b (.cells old.toArray T')) := by
  refine Der.storeR (fun w => Blk w b (.cells v.cells.toList.toArray T')) ho hw hg hk ha hx hFs (fun w w' hk h => h.kp0 hk) (fun w h => ?_) hd
  have hlen : old.length = v.cells.toList.length := hold.trans hn.symm
  have hrun := run_storeAt (P := P) (f := f) (off := 0) (v := v) h hn (by simp only [List.size_toArray]; omega) hone
  refine ⟨_, hrun, ?_, (Kp.set w h rfl rfl).mono (by intro z hz; simp at hz; subst hz; exact hb)⟩
  have := h.set (.cells (spl old 0 v.cells.toList).toArray T')
  rw [spl_all hlen] at this
  simpa [spl_all hlen] using this
end
end Go.Proofs.YtnoipmimddoioaaGreat
namespace Go.Proofs.YtnoipmimddoioaaGreat
set_option linter.unusedVariables false
/-- An int that Go can have. -/
abbrev I64 := { z : Int // -9223372036854775808 ≤ z ∧ z ≤ 9223372036854775807 }
@[reducible] def iv (z : I64) : Value := .int .i64 z.1
theorem iv_inj {a b : I64} (h : iv a = iv b) : a = b := by
  apply Subtype.ext
  simpa using h
theorem wf_i64 (z : I64) : (Lit.int .i64 z.1).wf = true := by
  have := z.2
  simp [Lit.wf, IntKind.min, IntKind.max, IntKind.signed, IntKind.bits]
  omega
theorem i64_key {P : Program} {k : TypeId} (hu : P.underlying k = some (.int .i64)) : KeyEnc P k iv :=
  ⟨Maps.int_keyed hu, fun z => ⟨.int .i64 z.1, by simp [keyOf, hu, mapKey, wf_i64]⟩, fun a b h => iv_inj h⟩
instance {P : Program} {k : TypeId} [u : Ut P k (.int .i64)] : Kenc P k iv := ⟨i64_key u.eq⟩
section
variable {κ ν : Type} {enc : κ → Value} {V : ν → Value} {m : List (κ × ν)} {w w' : World} {b : Nat} {P : Program} {k T E : TypeId}
end
section
variable {P : Program} {n : Nat} {Q : Exit → Act → World → Prop} {L : Env} {w : World} {ops : List Oper} {rest : List Oper} {ty : TypeId} {pos : String} {af : Array Edge} {g : Option (Nat × Bool)}
theorem equal_slnil {T E : TypeId} [u : Ut P T (.slice E)] {a : Option Addr} {m c : Nat} : (Op.equal T (.slice a m c) (.slice none 0 0)).run P w = .ok a.isNone w := equal_of (fun d => by
  cases a <;> simp only [Op.equalIn, Sem.run_bind, run_underlying u.eq, Result.andThen, Sem.run_pure, Option.isNone])
theorem qsn {S : List Nat} {w0 : World} {F : World → Prop} {d : Option Nat} {T T' E : TypeId} [u : Ut P T (.slice E)] {x : Operand} {a : Option Addr} {m c : Nat} (hx : ro L x = some (.slice a m c)) : Vals P S w0 F L ⟨d, .binOp .eql T x (.const (.slice none 0 0)) T', ty, pos, af, g⟩ (.bool a.isNone) := fun w _ _ => by
  have hc : rho L (.const (.slice none 0 0)) = .slice none 0 0 := rfl
  simp [execOp, rho_of hx, hc, eqGuard, binOp, equal_slnil (u := u)]
/-- 'append([]T{}, s...)', in text order: the slice is owned. -/
theorem SG.cloneO {α : Type} {enc : α → List Value} {m d : Nat} {t e : TypeId} {inf : TypeInfo} [u : Ut P t (.slice e)] [f : Inf P e inf] {z : Value} {s x : Operand} {b0 : Nat} {a : Option Addr} {c : Nat} {l : List α} (hd : Nat.blt d n = true)
    (hw : want ops L ⟨some d, .call { callee := .builtin .append, args := #[s, x], argTypes := #[t, t] }, ty, pos, af, g⟩ = some true) (hk : (known L s && known L x) = true) (hel : ∀ x, (enc x).length = inf.size) (hone : ∀ x, allOne (enc x) = true)
    (hs : rho L s = .slice (some ⟨b0, 0, none⟩) 0 0) (hx : rho L x = .slice a l.length c) (hz : inf.zero = some z) (hzs : Nat.beq z.cells.size inf.size = true) (hsz : Nat.blt 0 inf.size = true) (h63 : l.length ≤ maxLen) (hbytes : l.length * inf.bytes ≤ 140737488355328) (hm : m ≤ b0)
    (hc : Sl enc inf.size w a l) (hb0 : Blk w b0 (.cells #[] e))
    (h : ∀ v w', Kp [] w w' → w'.ownsRow m e inf.size v l.length (flt enc l) → SG P n ops Q rest ((d, v) :: L) w') : SG P n ops Q (⟨some d, .call { callee := .builtin .append, args := #[s, x], argTypes := #[t, t] }, ty, pos, af, g⟩ :: rest) L w := by
  refine SG.op (by simpa using hd) rfl hw (by simpa [Op.operands, Call.operands] using hk) ?_
  obtain ⟨v', w', e1, e2, e3⟩ := run_cloneO (P := P) (ty := ty) (c := c) (u := u) (f := f) hz (Nat.eq_of_beq_eq_true hzs) (by simpa [Nat.blt_eq] using hsz) hel hone hc hb0 hm h63 hbytes
  unfold OpRun
  have : (execOp (rho L) ⟨some d, .call { callee := .builtin .append, args := #[s, x], argTypes := #[t, t] }, ty, pos, af, g⟩).run P w = .ok (.value v') w' := by
    simp only [execOp, resolve, invoke, builtin, Sem.run_bind, Sem.run_pure, Result.andThen_ok, List.map_toArray, List.map_cons, List.map_nil, hs, hx, e1]
  rw [this]
  exact h v' w' e3 e2
theorem SG.empty {d : Nat} {T E : TypeId} {i : TypeInfo} [u : Ut P T (.slice E)] [f : Inf P E i] (hd : Nat.blt d n = true) (hw : want ops L ⟨some d, .buildSlice T 0 #[], ty, pos, af, g⟩ = some true)
    (h : ∀ b w', Kp [] w w' → w.heap.size ≤ b → Blk w' b (.cells #[] E) → SG P n ops Q rest ((d, .slice (some ⟨b, 0, none⟩) 0 0) :: L) w') : SG P n ops Q (⟨some d, .buildSlice T 0 #[], ty, pos, af, g⟩ :: rest) L w := by
  refine SG.op (by simpa using hd) rfl hw (by simp [Op.operands]) ?_
  unfold OpRun
  have : (execOp (rho L) ⟨some d, .buildSlice T 0 #[], ty, pos, af, g⟩).run P w = .ok (.value (.slice (some ⟨w.heap.size, 0, none⟩) 0 0)) { w with heap := w.heap.push (.cells #[] E) } := by
    simp only [execOp, List.map_toArray, List.map_nil, Sem.run_bind, run_empty (u := u) (f := f), Result.andThen, Sem.run_pure]
  rw [this]
  exact h _ _ (Kp.push w _ rfl) (Nat.le_refl _) (Blk.push w _)
end
end Go.Proofs.YtnoipmimddoioaaGreat
namespace Go.Proofs.YtnoipmimddoioaaGreat
set_option linter.unusedVariables false
section
variable {P : Program} {w w' : World}
/-- The row lies where it lay, or in a new block. -/
theorem append_where {base : Nat} {t ty e : TypeId} {i : TypeInfo} [u : Ut P t (.slice e)] [f : Inf P e i] {z : Value} (hz : i.zero = some z)
    {v v' : Value} {n : Nat} {xs : List Value} (hown : w.ownsRow base e i.size v n xs) {b off m c : Nat} {news : List Value} (hl : news.length = m * i.size) (hr : Row w b off news) (h1 : allOne news = true)
    (h63 : n + m ≤ maxLen) (hbytes : (n + m) * i.bytes ≤ 140737488355328) (hrun : (Builtin.append_ #[t, t] ty #[v, .slice (some ⟨b, off, none⟩) m c]).run P w = .ok v' w') :
    ∀ g, v'.ownBlock = some g → v.ownBlock = some g ∨ g = w.heap.size := by
  have hnews : ∀ j u, news[j]? = some u → w.cell? ((⟨b, off, none⟩ : Addr).add j) = some u := fun j u hu => by rw [add_none]; exact hr.cell hu
  have h1' : ∀ u ∈ news, u.oneCell' = true := fun u hu => by rw [one_iff]; exact List.all_eq_true.1 h1 u hu
  have hsmall : n + m ≤ 9223372036854775807 := by simp only [maxLen] at h63; omega
  rcases hown.2 with ⟨rfl, rfl⟩ | ⟨g, cap, cur, rfl, hbg, hg, hnc, hcm, hcs, htake⟩
  · by_cases hm : m = 0
    · subst hm
      have hn : news = [] := List.eq_nil_of_length_eq_zero (by simpa using hl)
      subst hn
      have : (Builtin.append_ #[t, t] ty #[.slice none 0 0, .slice (some ⟨b, off, none⟩) 0 c]).run P w = .ok (.slice none 0 0) w := by
        simp [Builtin.append_, run_underlying u.eq, sizeOf, typeInfo, f.eq, Builtin.lenOf, Builtin.firstCells, loadCells, loadCellsFrom]
      rw [this] at hrun
      cases hrun
      intro g hg
      exact Or.inl hg
    · have hr2 := run_append_nil (P := P) w t ty e i z u.eq f.eq hz ⟨b, off, none⟩ m c news hl hnews (by omega) (by omega) (by have hb := hbytes; simp only [Nat.zero_add] at hb; omega)
      rw [hr2] at hrun
      cases hrun
      intro g hg
      simp only [Value.ownBlock, Option.some.injEq] at hg
      exact Or.inr hg.symm
  · by_cases hroom : n + m ≤ cap
    · have hfit : n * i.size + news.length ≤ cur.size := by rw [hl, hcs, ← Nat.add_mul]; exact Nat.mul_le_mul_right _ hroom
      have hr2 := run_append_room (P := P) w t ty e i u.eq f.eq g n cap cur hg ⟨b, off, none⟩ m c news hl hnews h1' hroom hfit
      rw [hr2] at hrun
      cases hrun
      intro g' hg'
      exact Or.inl hg'
    · have holds : ∀ j u, xs[j]? = some u → w.cell? ((⟨g, 0, none⟩ : Addr).add j) = some u := hown.cells (g := g) rfl
      have hr2 := run_append_grow (P := P) w t ty e i z u.eq f.eq hz ⟨g, 0, none⟩ n cap xs hown.1 holds ⟨b, off, none⟩ m c news hl hnews (by omega) (by omega) (growslice_fits (by omega) hbytes)
      rw [hr2] at hrun
      cases hrun
      intro g' hg'
      simp only [Value.ownBlock, Option.some.injEq] at hg'
      exact Or.inr hg'.symm
variable {L : Env} {ty : TypeId} {pos : String} {af : Array Edge} {g : Option (Nat × Bool)} {S : List Nat} {w0 : World} {ops : List Oper} {gh : List Nat} {K : Env → (World → Prop) → (World → Prop) → Prop} {j : Nat} {ord : List Nat} {F : World → Prop}
end
end Go.Proofs.YtnoipmimddoioaaGreat
namespace Go.Proofs.YtnoipmimddoioaaGreat
set_option linter.unusedVariables false
section
variable {P : Program} {S : List Nat} {w0 : World} {F : World → Prop} {L : Env} {d : Option Nat} {ty : TypeId} {pos : String} {af : Array Edge} {g : Option (Nat × Bool)}
theorem vals_ia {T E : TypeId} {n : Nat} [u : Ut P T (.array n E)] {sz : Nat} [f : Sz P E sz] {x y : Operand} {b off : Nat} {k : IntKind} {j : Nat} (hx : rho L x = .pointer (some ⟨b, off, none⟩)) (hy : rho L y = .int k (j : Int)) (h1 : j < n) :
    Vals P S w0 F L ⟨d, .indexAddr T x y, ty, pos, af, g⟩ (.pointer (some ⟨b, off + j * sz, none⟩)) := fun w _ _ => by
  obtain ⟨i, h2, h3⟩ := f.eq
  have h4 : (j : Int) < n := by omega
  subst h3
  simp [execOp, hx, hy, Instr.indexAt, asIntOf, run_underlying u.eq, sizeOf, typeInfo, Instr.sureAddr, h2, h1, add_none]
theorem qia {T E : TypeId} {n : Nat} [u : Ut P T (.array n E)] {sz : Nat} [f : Sz P E sz] {x y : Operand} {b off : Nat} {k : IntKind} {z : Int} {j : Nat} (hx : ro L x = some (.pointer (some ⟨b, off, none⟩))) (hy : ro L y = some (.int k z)) (hz : z = (j : Int)) (h1 : Ar (j < n)) :
    Vals P S w0 F L ⟨d, .indexAddr T x y, ty, pos, af, g⟩ (.pointer (some ⟨b, off + j * sz, none⟩)) := vals_ia (u := u) (f := f) (rho_of hx) (by rw [rho_of hy, hz]) h1.h
end
end Go.Proofs.YtnoipmimddoioaaGreat
namespace Go.Proofs.YtnoipmimddoioaaGreat
open Go.Proofs
set_option linter.unusedVariables false
theorem qia0 {P : Program} {S : List Nat} {w0 : World} {F : World → Prop} {L : Env} {d : Option Nat} {ty : TypeId} {pos : String} {af : Array Edge} {g : Option (Nat × Bool)} {T E : TypeId} {n : Nat} [u : Ut P T (.array n E)] {sz : Nat} [f : Sz P E sz] {x : Operand} {b off : Nat} {k : IntKind} {z : Int} (hx : ro L x = some (.pointer (some ⟨b, off, none⟩))) (h1 : Ar (0 ≤ z ∧ z < n)) :
    Vals P S w0 F L ⟨d, .indexAddr T x (.const (.int k z)), ty, pos, af, g⟩ (.pointer (some ⟨b, off + z.toNat * sz, none⟩)) := qia (u := u) (f := f) (k := k) (z := z) hx rfl (Int.toNat_of_nonneg h1.h.1).symm ⟨by have := h1.h; omega⟩
def hsl (s : Hs) : List Value := [.int .u64 s.a, .int .u64 s.b, .int .u64 s.c, .int .u64 s.d]
theorem hs_rows {w : World} {b : Nat} {T : TypeId} {s : Hs} (h : Blk w b (.cells (hsl s).toArray T)) : Row w b 0 [.int .u64 s.a] ∧ Row w b 1 [.int .u64 s.b] ∧ Row w b 2 [.int .u64 s.c] ∧ Row w b 3 [.int .u64 s.d] ∧ Row w b 0 (hsl s) :=
  ⟨Row.of h [] [.int .u64 s.b, .int .u64 s.c, .int .u64 s.d] rfl rfl, Row.of h [.int .u64 s.a] [.int .u64 s.c, .int .u64 s.d] rfl rfl, Row.of h [.int .u64 s.a, .int .u64 s.b] [.int .u64 s.d] rfl rfl, Row.of h [.int .u64 s.a, .int .u64 s.b, .int .u64 s.c] [] rfl rfl, Row.all h rfl⟩
theorem bst (w : World) (a b c e : Int) : (Instr.build 108 #[(0, .int .u64 a), (1, .int .u64 b), (2, .int .u64 c), (3, .int .u64 e)]).run Tryz.prog w = .ok (.agg (hsl ⟨a, b, c, e⟩).toArray) w := by kernel_rfl
attribute [local irreducible] CG NG SG Vals Der Row Blk MapIs IterAt addI xorI orI andI shlI shrI
set_option maxHeartbeats 8000000 in
theorem rot_spec (w : World) (x k : Int) (h : andI (IntKind.wrap .u64 k) 63 = k) (h0 : 0 ≤ k ∧ k ≤ 64) : Ret Tryz.prog 99 #[.int .u64 x, .int .i64 k] w (.int .u64 (rotI x k)) := by
  refine enter2 Tryz.func99 rfl Tryz.ntmps99 rfl ?_
  repeat (first|apply cA|apply cB|apply cD|apply cE|apply cF|apply cG|apply cH|apply cJ|apply cU|refine cV rfl ?_|apply cY|refine cZ rfl rfl rfl rfl (by first|((first|apply quad|apply quxo|apply quor|apply quan|apply qush|apply qusr|apply qusb|apply qia0|apply qia|apply qmv|apply qas|apply qlc|apply qnc|apply qls|apply qcv)<;>(first|exact rfl|assumption|exact Ar.mk (by omega)|exact dct (by first|assumption|omega)|exact dcf (by first|assumption|omega)|exact List.not_mem_nil|exact (Int.toNat_of_nonneg (by omega)).symm|fail))|fail) ?_)
  rw [h]
  repeat (first|apply cA|apply cB|apply cD|apply cE|apply cF|apply cG|apply cH|apply cJ|apply cU|refine cV rfl ?_|apply cY|refine cZ rfl rfl rfl rfl (by first|((first|apply quad|apply quxo|apply quor|apply quan|apply qush|apply qusr|apply qusb|apply qia0|apply qia|apply qmv|apply qas|apply qlc|apply qnc|apply qls|apply qcv)<;>(first|exact rfl|assumption|exact Ar.mk (by omega)|exact dct (by first|assumption|omega)|exact dcf (by first|assumption|omega)|exact List.not_mem_nil|exact (Int.toNat_of_nonneg (by omega)).symm|fail))|fail) ?_)
  refine ret1 (Or.inl rfl) Tryz.results99 (by first | exact ResV.tmp rfl | exact ResV.agg rfl rfl (by assumption) (by first | exact dc_length _ | exact nc_length _ | exact rc_length _ _ _ | exact ec_length _ | exact dl_length _ _ _ _ | rfl) | exact ResV.cell rfl rfl (by assumption)) ?_
  exact ⟨rfl, Kp.refl _ _⟩
theorem rot32 (w : World) (x : Int) : Ret Tryz.prog 99 #[.int .u64 x, .int .i64 32] w (.int .u64 (rotI x 32)) := rot_spec w x 32 (by decide +kernel) (by omega)
theorem rot24 (w : World) (x : Int) : Ret Tryz.prog 99 #[.int .u64 x, .int .i64 24] w (.int .u64 (rotI x 24)) := rot_spec w x 24 (by decide +kernel) (by omega)
theorem rot16 (w : World) (x : Int) : Ret Tryz.prog 99 #[.int .u64 x, .int .i64 16] w (.int .u64 (rotI x 16)) := rot_spec w x 16 (by decide +kernel) (by omega)
theorem rot63 (w : World) (x : Int) : Ret Tryz.prog 99 #[.int .u64 x, .int .i64 63] w (.int .u64 (rotI x 63)) := rot_spec w x 63 (by decide +kernel) (by omega)
theorem addI_small {k : Nat} (h : k < 1000) : addI (k : Int) 1 = ((k + 1 : Nat) : Int) := by
  unfold addI
  have e : (k : Int) + 1 = ((k + 1 : Nat) : Int) := by omega
  rw [e]
  exact wrap64_nat (by omega)
set_option maxHeartbeats 16000000 in
theorem stir_spec {w : World} {b : Nat} {s : Hs} (hB : Blk w b (.cells (hsl s).toArray 108)) : Calls Tryz.prog 85 #[.pointer (some ⟨b, 0, none⟩)] w (fun e w' => e = .returned (.tuple #[]) ∧ Kp [b] w w' ∧ Blk w' b (.cells (hsl (stirI s)).toArray 108)) := by
  refine enter1 Tryz.func85 rfl Tryz.ntmps85 rfl ?_
  obtain ⟨r0, r1, r2, r3, _⟩ := hs_rows hB
  apply cA
  refine CG.draw0 mixed [0, 1, 2, 3, 4, 5, 6, 7, 8, 9, 10, 11, 12, 13, 14, 15, 16, 17, 18, 19] [] (by kernel_rfl) ?_
  repeat (refine dB rfl rfl rfl (by first|((first|apply quad|apply quxo|apply quor|apply quan|apply qush|apply qusr|apply qusb|apply qia0|apply qia|apply qmv|apply qas|apply qlc|apply qnc|apply qls|apply qcv)<;>(first|exact rfl|assumption|exact Ar.mk (by omega)|exact dct (by first|assumption|omega)|exact dcf (by first|assumption|omega)|exact List.not_mem_nil|exact (Int.toNat_of_nonneg (by omega)).symm|fail))|fail) ?_)
  refine Der.fin (fun w1 hk1 _ _ => ?_)
  repeat (first|apply cA|apply cB|apply cD|apply cE|apply cF|apply cG|apply cH|apply cJ|apply cU|refine cV rfl ?_|apply cY|refine cZ rfl rfl rfl rfl (by first|((first|apply quad|apply quxo|apply quor|apply quan|apply qush|apply qusr|apply qusb|apply qia0|apply qia|apply qmv|apply qas|apply qlc|apply qnc|apply qls|apply qcv)<;>(first|exact rfl|assumption|exact Ar.mk (by omega)|exact dct (by first|assumption|omega)|exact dcf (by first|assumption|omega)|exact List.not_mem_nil|exact (Int.toNat_of_nonneg (by omega)).symm|fail))|fail) ?_)
  refine CG.loop (X := Nat) (fun i => [(0, .pointer (some ⟨b, 0, none⟩)), (2, .int .u64 (roundsI s i).a), (3, .int .u64 (roundsI s i).b), (4, .int .u64 (roundsI s i).c), (5, .int .u64 (roundsI s i).d), (23, .int .u64 (i : Int))])
    (fun i w' => i ≤ 6 ∧ Kp [] w1 w') (fun i => 6 - i) 0 ⟨by omega, Kp.refl _ _⟩ (by (repeat' (first | exact True.intro | exact rfl | refine And.intro ?_ ?_))) ?_
  rintro i w2 ⟨hi, hk2⟩
  by_cases hlt : i < 6
  · have g1 : (i : Int) < 6 := by omega
    have e1 := addI_small (k := i) (by omega)
    repeat (first|apply cA|apply cB|apply cD|apply cE|apply cF|apply cG|apply cH|apply cJ|apply cU|refine cV rfl ?_|apply cY|refine cZ rfl rfl rfl rfl (by first|((first|apply quad|apply quxo|apply quor|apply quan|apply qush|apply qusr|apply qusb|apply qia0|apply qia|apply qmv|apply qas|apply qlc|apply qnc|apply qls|apply qcv)<;>(first|exact rfl|assumption|exact Ar.mk (by omega)|exact dct (by first|assumption|omega)|exact dcf (by first|assumption|omega)|exact List.not_mem_nil|exact (Int.toNat_of_nonneg (by omega)).symm|fail))|fail) ?_)
    refine dD rfl (by exact rho_of rfl) rfl ?_
    repeat (first|apply cA|apply cB|apply cD|apply cE|apply cF|apply cG|apply cH|apply cJ|apply cU|refine cV rfl ?_|apply cY|refine cZ rfl rfl rfl rfl (by first|((first|apply quad|apply quxo|apply quor|apply quan|apply qush|apply qusr|apply qusb|apply qia0|apply qia|apply qmv|apply qas|apply qlc|apply qnc|apply qls|apply qcv)<;>(first|exact rfl|assumption|exact Ar.mk (by omega)|exact dct (by first|assumption|omega)|exact dcf (by first|assumption|omega)|exact List.not_mem_nil|exact (Int.toNat_of_nonneg (by omega)).symm|fail))|fail) ?_)
    refine SG.ret rfl rfl rfl (by repeat' (first | exact True.intro | exact rho_of rfl | refine And.intro ?_ ?_)) (rot32 w2 _) (fun w3 hk3 => ?_)
    repeat (first|apply cA|apply cB|apply cD|apply cE|apply cF|apply cG|apply cH|apply cJ|apply cU|refine cV rfl ?_|apply cY|refine cZ rfl rfl rfl rfl (by first|((first|apply quad|apply quxo|apply quor|apply quan|apply qush|apply qusr|apply qusb|apply qia0|apply qia|apply qmv|apply qas|apply qlc|apply qnc|apply qls|apply qcv)<;>(first|exact rfl|assumption|exact Ar.mk (by omega)|exact dct (by first|assumption|omega)|exact dcf (by first|assumption|omega)|exact List.not_mem_nil|exact (Int.toNat_of_nonneg (by omega)).symm|fail))|fail) ?_)
    refine SG.ret rfl rfl rfl (by repeat' (first | exact True.intro | exact rho_of rfl | refine And.intro ?_ ?_)) (rot24 w3 _) (fun w4 hk4 => ?_)
    repeat (first|apply cA|apply cB|apply cD|apply cE|apply cF|apply cG|apply cH|apply cJ|apply cU|refine cV rfl ?_|apply cY|refine cZ rfl rfl rfl rfl (by first|((first|apply quad|apply quxo|apply quor|apply quan|apply qush|apply qusr|apply qusb|apply qia0|apply qia|apply qmv|apply qas|apply qlc|apply qnc|apply qls|apply qcv)<;>(first|exact rfl|assumption|exact Ar.mk (by omega)|exact dct (by first|assumption|omega)|exact dcf (by first|assumption|omega)|exact List.not_mem_nil|exact (Int.toNat_of_nonneg (by omega)).symm|fail))|fail) ?_)
    refine SG.ret rfl rfl rfl (by repeat' (first | exact True.intro | exact rho_of rfl | refine And.intro ?_ ?_)) (rot16 w4 _) (fun w5 hk5 => ?_)
    repeat (first|apply cA|apply cB|apply cD|apply cE|apply cF|apply cG|apply cH|apply cJ|apply cU|refine cV rfl ?_|apply cY|refine cZ rfl rfl rfl rfl (by first|((first|apply quad|apply quxo|apply quor|apply quan|apply qush|apply qusr|apply qusb|apply qia0|apply qia|apply qmv|apply qas|apply qlc|apply qnc|apply qls|apply qcv)<;>(first|exact rfl|assumption|exact Ar.mk (by omega)|exact dct (by first|assumption|omega)|exact dcf (by first|assumption|omega)|exact List.not_mem_nil|exact (Int.toNat_of_nonneg (by omega)).symm|fail))|fail) ?_)
    refine SG.ret rfl rfl rfl (by repeat' (first | exact True.intro | exact rho_of rfl | refine And.intro ?_ ?_)) (rot63 w5 _) (fun w6 hk6 => ?_)
    repeat (first|apply cA|apply cB|apply cD|apply cE|apply cF|apply cG|apply cH|apply cJ|apply cU|refine cV rfl ?_|apply cY|refine cZ rfl rfl rfl rfl (by first|((first|apply quad|apply quxo|apply quor|apply quan|apply qush|apply qusr|apply qusb|apply qia0|apply qia|apply qmv|apply qas|apply qlc|apply qnc|apply qls|apply qcv)<;>(first|exact rfl|assumption|exact Ar.mk (by omega)|exact dct (by first|assumption|omega)|exact dcf (by first|assumption|omega)|exact List.not_mem_nil|exact (Int.toNat_of_nonneg (by omega)).symm|fail))|fail) ?_)
    rw [e1]
    refine NG.round (i + 1) (by (repeat' (first | exact True.intro | exact rfl | refine And.intro ?_ ?_))) ⟨by omega, hk2.trans (hk3.trans (hk4.trans (hk5.trans hk6)))⟩ (by omega)
  · have g1 : ¬ (i : Int) < 6 := by omega
    have e6 : i = 6 := by omega
    subst e6
    repeat (first|apply cA|apply cB|apply cD|apply cE|apply cF|apply cG|apply cH|apply cJ|apply cU|refine cV rfl ?_|apply cY|refine cZ rfl rfl rfl rfl (by first|((first|apply quad|apply quxo|apply quor|apply quan|apply qush|apply qusr|apply qusb|apply qia0|apply qia|apply qmv|apply qas|apply qlc|apply qnc|apply qls|apply qcv)<;>(first|exact rfl|assumption|exact Ar.mk (by omega)|exact dct (by first|assumption|omega)|exact dcf (by first|assumption|omega)|exact List.not_mem_nil|exact (Int.toNat_of_nonneg (by omega)).symm|fail))|fail) ?_)
    refine dE rfl (by exact rho_of rfl) rfl ?_
    repeat (first|apply cA|apply cB|apply cD|apply cE|apply cF|apply cG|apply cH|apply cJ|apply cU|refine cV rfl ?_|apply cY|refine cZ rfl rfl rfl rfl (by first|((first|apply quad|apply quxo|apply quor|apply quan|apply qush|apply qusr|apply qusb|apply qia0|apply qia|apply qmv|apply qas|apply qlc|apply qnc|apply qls|apply qcv)<;>(first|exact rfl|assumption|exact Ar.mk (by omega)|exact dct (by first|assumption|omega)|exact dcf (by first|assumption|omega)|exact List.not_mem_nil|exact (Int.toNat_of_nonneg (by omega)).symm|fail))|fail) ?_)
    refine cZ rfl rfl rfl rfl (vals_build rfl (fun w => bst w _ _ _ _)) ?_
    repeat (first|apply cA|apply cB|apply cD|apply cE|apply cF|apply cG|apply cH|apply cJ|apply cU|refine cV rfl ?_|apply cY|refine cZ rfl rfl rfl rfl (by first|((first|apply quad|apply quxo|apply quor|apply quan|apply qush|apply qusr|apply qusb|apply qia0|apply qia|apply qmv|apply qas|apply qlc|apply qnc|apply qls|apply qcv)<;>(first|exact rfl|assumption|exact Ar.mk (by omega)|exact dct (by first|assumption|omega)|exact dcf (by first|assumption|omega)|exact List.not_mem_nil|exact (Int.toNat_of_nonneg (by omega)).symm|fail))|fail) ?_)
    have hB2 := hB.kp0 (hk1.trans hk2)
    refine SG.setAll (old := hsl s) (l := hsl (roundsI s 6)) rfl rfl (by exact rho_of rfl) (by exact rho_of rfl) hB2 rfl rfl rfl (fun w3 hk3 hB3 => ?_)
    repeat (first|apply cA|apply cB|apply cD|apply cE|apply cF|apply cG|apply cH|apply cJ|apply cU|refine cV rfl ?_|apply cY|refine cZ rfl rfl rfl rfl (by first|((first|apply quad|apply quxo|apply quor|apply quan|apply qush|apply qusr|apply qusb|apply qia0|apply qia|apply qmv|apply qas|apply qlc|apply qnc|apply qls|apply qcv)<;>(first|exact rfl|assumption|exact Ar.mk (by omega)|exact dct (by first|assumption|omega)|exact dcf (by first|assumption|omega)|exact List.not_mem_nil|exact (Int.toNat_of_nonneg (by omega)).symm|fail))|fail) ?_)
    refine ret0 (Or.inr rfl) Tryz.results85 ?_
    exact ⟨rfl, (hk1.trans hk2).any.trans hk3, hB3⟩
end Go.Proofs.YtnoipmimddoioaaGreat
namespace Go.Proofs.YtnoipmimddoioaaGreat
open Go.Proofs
set_option linter.unusedVariables false
theorem dc_at {n : Nat} (d : BA n) {i : Nat} (h : i < n) : (dc d)[i]? = some (bv (d.1[i]'(by rw [d.2]; exact h))) := by
  simp only [dc, List.getElem?_map]
  rw [List.getElem?_eq_getElem (by rw [d.2]; exact h)]
  rfl
theorem num_step {d : Dg} {i : Nat} (h : i < 8) : orI (val (d.1.take i) : Int) (shlI (((d.1[i]'(by rw [d.2]; exact h)).toNat : Nat) : Int) (8 * (i : Int))) = (val (d.1.take (i + 1)) : Int) := by
  have hl : i < d.1.length := by rw [d.2]; exact h
  have h8 : (8 * (i : Int)) = ((8 * i : Nat) : Int) := by omega
  have h1 := val_snoc hl
  have h2 : val (d.1.take (i + 1)) < 256 ^ (i + 1) := by
    have := val_lt (d.1.take (i + 1))
    have e : (d.1.take (i + 1)).length = i + 1 := by simp; omega
    rwa [e] at this
  have h3 : (256 : Nat) ^ (i + 1) ≤ 256 ^ 8 := Nat.pow_le_pow_right (by omega) (by omega)
  have h4 : val (d.1.take (i + 1)) < 18446744073709551616 := Nat.lt_of_lt_of_le h2 h3
  have h5 : val (d.1.take i) < 2 ^ (8 * i) := by
    have := val_lt (d.1.take i)
    have e : (d.1.take i).length = i := by simp; omega
    rw [e] at this
    rwa [Nat.pow_mul]
  rw [h1] at h4
  rw [h8, shlI_nat (Nat.lt_of_le_of_lt (Nat.le_add_left _ _) h4) (by omega), orI_nat h5 h4, h1]
def zd : Dg := ⟨[0, 0, 0, 0, 0, 0, 0, 0], rfl⟩
/-- The first i bytes of a number, then nothing. -/
def part (n i : Nat) : List Value := (byL n i).map bv ++ List.replicate (8 - i) (bv 0)
theorem part_all (n : Nat) : part n 8 = dc (frm n) := by simp [part, dc, frm]
theorem part_length {n i : Nat} (h : i ≤ 8) : (part n i).length = 8 := by simp [part, byL_length]; omega
theorem byL_snoc (k : Nat) : ∀ n, byL n (k + 1) = byL n k ++ [UInt8.ofNat (n / 2 ^ (8 * k))] := by
  induction k with
  | zero => intro n; simp [byL]
  | succ k ih =>
    intro n
    rw [byL, ih (n / 256)]
    simp only [byL, List.cons_append]
    congr 3
    have : (2 : Nat) ^ (8 * (k + 1)) = 256 * 2 ^ (8 * k) := by
      rw [show 8 * (k + 1) = 8 + 8 * k from by omega, Nat.pow_add]
    rw [this, Nat.div_div_eq_div_mul]
theorem part_step {n i : Nat} (h : i < 8) : spl (part n i) i [bv (UInt8.ofNat (n / 2 ^ (8 * i)))] = part n (i + 1) := by
  have hr : List.replicate (8 - i) (bv 0) = [bv 0] ++ List.replicate (8 - (i + 1)) (bv 0) := by
    rw [show 8 - i = (8 - (i + 1)) + 1 from by omega, List.replicate_succ]
    rfl
  have := spl_mid (pre := (byL n i).map bv) (old := [bv 0]) (post := List.replicate (8 - (i + 1)) (bv 0)) (l := [bv (UInt8.ofNat (n / 2 ^ (8 * i)))]) rfl
  rw [← hr] at this
  simp only [List.length_map, byL_length] at this
  unfold part
  rw [this, byL_snoc]
  simp
attribute [local irreducible] CG NG SG Vals Der Row Blk MapIs IterAt addI xorI orI andI shlI shrI
set_option maxHeartbeats 8000000 in
theorem num_spec (d : Dg) (w : World) : Ret Tryz.prog 59 #[dv d] w (.int .u64 (num d : Int)) := by
  refine enter1 Tryz.func59 rfl Tryz.ntmps59 rfl ?_
  repeat (first|apply cA|apply cB|apply cD|apply cE|apply cF|apply cG|apply cH|apply cJ|apply cU|refine cV rfl ?_|apply cY|refine cZ rfl rfl rfl rfl (by first|(apply qb64<;>(first|exact rfl|assumption|exact Ar.mk (by omega)|exact dct (by first|assumption|omega)|exact dcf (by first|assumption|omega)|exact List.not_mem_nil|apply dc_length|exact nm1 (by omega)|fail))|(apply q64b<;>(first|exact rfl|assumption|exact Ar.mk (by omega)|exact dct (by first|assumption|omega)|exact dcf (by first|assumption|omega)|exact List.not_mem_nil|apply dc_length|exact nm1 (by omega)|fail))|((first|apply quxo|apply quor|apply qush|apply qusr|apply qmi|apply qid|apply qia0|apply qia|apply qmv|apply qas|apply qlc|apply qla|apply qnc|apply qls|apply qad)<;>(first|exact rfl|assumption|exact Ar.mk (by omega)|exact dct (by first|assumption|omega)|exact dcf (by first|assumption|omega)|exact List.not_mem_nil|apply dc_length|exact nm1 (by omega)|fail))|fail) ?_)
  refine SG.box rfl rfl rfl (by exact rho_of rfl) (fun b w1 hk1 hb hB => ?_)
  have hB : Blk w1 b (.cells (dc d).toArray 39) := hB
  have hr : Row w1 b 0 (dc d) := Row.all hB rfl
  repeat (first|apply cA|apply cB|apply cD|apply cE|apply cF|apply cG|apply cH|apply cJ|apply cU|refine cV rfl ?_|apply cY|refine cZ rfl rfl rfl rfl (by first|(apply qb64<;>(first|exact rfl|assumption|exact Ar.mk (by omega)|exact dct (by first|assumption|omega)|exact dcf (by first|assumption|omega)|exact List.not_mem_nil|apply dc_length|exact nm1 (by omega)|fail))|(apply q64b<;>(first|exact rfl|assumption|exact Ar.mk (by omega)|exact dct (by first|assumption|omega)|exact dcf (by first|assumption|omega)|exact List.not_mem_nil|apply dc_length|exact nm1 (by omega)|fail))|((first|apply quxo|apply quor|apply qush|apply qusr|apply qmi|apply qid|apply qia0|apply qia|apply qmv|apply qas|apply qlc|apply qla|apply qnc|apply qls|apply qad)<;>(first|exact rfl|assumption|exact Ar.mk (by omega)|exact dct (by first|assumption|omega)|exact dcf (by first|assumption|omega)|exact List.not_mem_nil|apply dc_length|exact nm1 (by omega)|fail))|fail) ?_)
  refine CG.loop (X := Nat) (fun i => [(3, .int .u64 (val (d.1.take i) : Int)), (6, dv d), (7, .int .i64 (i : Int))])
    (fun i w' => i ≤ 8 ∧ w' = w1) (fun i => 8 - i) 0 ⟨by omega, rfl⟩ (by (repeat' (first | exact True.intro | exact rfl | refine And.intro ?_ ?_))) ?_
  rintro i w2 ⟨hi, rfl⟩
  by_cases hlt : i < 8
  · have g1 : (i : Int) < 8 := by omega
    have hv := dc_at d hlt
    have e1 := num_step (d := d) hlt
    repeat (first|apply cA|apply cB|apply cD|apply cE|apply cF|apply cG|apply cH|apply cJ|apply cU|refine cV rfl ?_|apply cY|refine cZ rfl rfl rfl rfl (by first|(apply qb64<;>(first|exact rfl|assumption|exact Ar.mk (by omega)|exact dct (by first|assumption|omega)|exact dcf (by first|assumption|omega)|exact List.not_mem_nil|apply dc_length|exact nm1 (by omega)|fail))|(apply q64b<;>(first|exact rfl|assumption|exact Ar.mk (by omega)|exact dct (by first|assumption|omega)|exact dcf (by first|assumption|omega)|exact List.not_mem_nil|apply dc_length|exact nm1 (by omega)|fail))|((first|apply quxo|apply quor|apply qush|apply qusr|apply qmi|apply qid|apply qia0|apply qia|apply qmv|apply qas|apply qlc|apply qla|apply qnc|apply qls|apply qad)<;>(first|exact rfl|assumption|exact Ar.mk (by omega)|exact dct (by first|assumption|omega)|exact dcf (by first|assumption|omega)|exact List.not_mem_nil|apply dc_length|exact nm1 (by omega)|fail))|fail) ?_)
    refine dD rfl (by exact rho_of rfl) rfl ?_
    repeat (first|apply cA|apply cB|apply cD|apply cE|apply cF|apply cG|apply cH|apply cJ|apply cU|refine cV rfl ?_|apply cY|refine cZ rfl rfl rfl rfl (by first|(apply qb64<;>(first|exact rfl|assumption|exact Ar.mk (by omega)|exact dct (by first|assumption|omega)|exact dcf (by first|assumption|omega)|exact List.not_mem_nil|apply dc_length|exact nm1 (by omega)|fail))|(apply q64b<;>(first|exact rfl|assumption|exact Ar.mk (by omega)|exact dct (by first|assumption|omega)|exact dcf (by first|assumption|omega)|exact List.not_mem_nil|apply dc_length|exact nm1 (by omega)|fail))|((first|apply quxo|apply quor|apply qush|apply qusr|apply qmi|apply qid|apply qia0|apply qia|apply qmv|apply qas|apply qlc|apply qla|apply qnc|apply qls|apply qad)<;>(first|exact rfl|assumption|exact Ar.mk (by omega)|exact dct (by first|assumption|omega)|exact dcf (by first|assumption|omega)|exact List.not_mem_nil|apply dc_length|exact nm1 (by omega)|fail))|fail) ?_)
    rw [e1]
    refine NG.round (i + 1) (by (repeat' (first | exact True.intro | exact rfl | refine And.intro ?_ ?_))) ⟨by omega, rfl⟩ (by omega)
  · have g1 : ¬ (i : Int) < 8 := by omega
    have e8 : i = 8 := by omega
    subst e8
    have hnum : (val (d.1.take 8) : Int) = (num d : Int) := by
      unfold num
      rw [List.take_of_length_le (by rw [d.2]; omega)]
    rw [hnum]
    repeat (first|apply cA|apply cB|apply cD|apply cE|apply cF|apply cG|apply cH|apply cJ|apply cU|refine cV rfl ?_|apply cY|refine cZ rfl rfl rfl rfl (by first|(apply qb64<;>(first|exact rfl|assumption|exact Ar.mk (by omega)|exact dct (by first|assumption|omega)|exact dcf (by first|assumption|omega)|exact List.not_mem_nil|apply dc_length|exact nm1 (by omega)|fail))|(apply q64b<;>(first|exact rfl|assumption|exact Ar.mk (by omega)|exact dct (by first|assumption|omega)|exact dcf (by first|assumption|omega)|exact List.not_mem_nil|apply dc_length|exact nm1 (by omega)|fail))|((first|apply quxo|apply quor|apply qush|apply qusr|apply qmi|apply qid|apply qia0|apply qia|apply qmv|apply qas|apply qlc|apply qla|apply qnc|apply qls|apply qad)<;>(first|exact rfl|assumption|exact Ar.mk (by omega)|exact dct (by first|assumption|omega)|exact dcf (by first|assumption|omega)|exact List.not_mem_nil|apply dc_length|exact nm1 (by omega)|fail))|fail) ?_)
    refine dE rfl (by exact rho_of rfl) rfl ?_
    repeat (first|apply cA|apply cB|apply cD|apply cE|apply cF|apply cG|apply cH|apply cJ|apply cU|refine cV rfl ?_|apply cY|refine cZ rfl rfl rfl rfl (by first|(apply qb64<;>(first|exact rfl|assumption|exact Ar.mk (by omega)|exact dct (by first|assumption|omega)|exact dcf (by first|assumption|omega)|exact List.not_mem_nil|apply dc_length|exact nm1 (by omega)|fail))|(apply q64b<;>(first|exact rfl|assumption|exact Ar.mk (by omega)|exact dct (by first|assumption|omega)|exact dcf (by first|assumption|omega)|exact List.not_mem_nil|apply dc_length|exact nm1 (by omega)|fail))|((first|apply quxo|apply quor|apply qush|apply qusr|apply qmi|apply qid|apply qia0|apply qia|apply qmv|apply qas|apply qlc|apply qla|apply qnc|apply qls|apply qad)<;>(first|exact rfl|assumption|exact Ar.mk (by omega)|exact dct (by first|assumption|omega)|exact dcf (by first|assumption|omega)|exact List.not_mem_nil|apply dc_length|exact nm1 (by omega)|fail))|fail) ?_)
    refine ret1 (Or.inl rfl) Tryz.results59 (by first | exact ResV.tmp rfl | exact ResV.agg rfl rfl (by assumption) (by first | exact dc_length _ | exact nc_length _ | exact rc_length _ _ _ | exact ec_length _ | exact dl_length _ _ _ _ | rfl) | exact ResV.cell rfl rfl (by assumption)) ?_
    exact ⟨rfl, hk1⟩
set_option maxHeartbeats 8000000 in
theorem from_spec (n : Nat) (w : World) : Ret Tryz.prog 86 #[.int .u64 (n : Int)] w (dv (frm n)) := by
  refine enter1 Tryz.func86 rfl Tryz.ntmps86 rfl ?_
  repeat (first|apply cA|apply cB|apply cD|apply cE|apply cF|apply cG|apply cH|apply cJ|apply cU|refine cV rfl ?_|apply cY|refine cZ rfl rfl rfl rfl (by first|(apply qb64<;>(first|exact rfl|assumption|exact Ar.mk (by omega)|exact dct (by first|assumption|omega)|exact dcf (by first|assumption|omega)|exact List.not_mem_nil|apply dc_length|exact nm1 (by omega)|fail))|(apply q64b<;>(first|exact rfl|assumption|exact Ar.mk (by omega)|exact dct (by first|assumption|omega)|exact dcf (by first|assumption|omega)|exact List.not_mem_nil|apply dc_length|exact nm1 (by omega)|fail))|((first|apply quxo|apply quor|apply qush|apply qusr|apply qmi|apply qid|apply qia0|apply qia|apply qmv|apply qas|apply qlc|apply qla|apply qnc|apply qls|apply qad)<;>(first|exact rfl|assumption|exact Ar.mk (by omega)|exact dct (by first|assumption|omega)|exact dcf (by first|assumption|omega)|exact List.not_mem_nil|apply dc_length|exact nm1 (by omega)|fail))|fail) ?_)
  refine SG.alloc rfl rfl rfl (fun b2 w1 hk1 hb2 hB2 => ?_)
  repeat (first|apply cA|apply cB|apply cD|apply cE|apply cF|apply cG|apply cH|apply cJ|apply cU|refine cV rfl ?_|apply cY|refine cZ rfl rfl rfl rfl (by first|(apply qb64<;>(first|exact rfl|assumption|exact Ar.mk (by omega)|exact dct (by first|assumption|omega)|exact dcf (by first|assumption|omega)|exact List.not_mem_nil|apply dc_length|exact nm1 (by omega)|fail))|(apply q64b<;>(first|exact rfl|assumption|exact Ar.mk (by omega)|exact dct (by first|assumption|omega)|exact dcf (by first|assumption|omega)|exact List.not_mem_nil|apply dc_length|exact nm1 (by omega)|fail))|((first|apply quxo|apply quor|apply qush|apply qusr|apply qmi|apply qid|apply qia0|apply qia|apply qmv|apply qas|apply qlc|apply qla|apply qnc|apply qls|apply qad)<;>(first|exact rfl|assumption|exact Ar.mk (by omega)|exact dct (by first|assumption|omega)|exact dcf (by first|assumption|omega)|exact List.not_mem_nil|apply dc_length|exact nm1 (by omega)|fail))|fail) ?_)
  refine SG.alloc rfl rfl rfl (fun b3 w2 hk2 hb3 hB3 => ?_)
  have hB2 : Blk w1 b2 (.cells (dc zd).toArray 39) := hB2
  have hB3 : Blk w2 b3 (.cells (dc zd).toArray 39) := hB3
  have hl2 := hB2.lt
  repeat (first|apply cA|apply cB|apply cD|apply cE|apply cF|apply cG|apply cH|apply cJ|apply cU|refine cV rfl ?_|apply cY|refine cZ rfl rfl rfl rfl (by first|(apply qb64<;>(first|exact rfl|assumption|exact Ar.mk (by omega)|exact dct (by first|assumption|omega)|exact dcf (by first|assumption|omega)|exact List.not_mem_nil|apply dc_length|exact nm1 (by omega)|fail))|(apply q64b<;>(first|exact rfl|assumption|exact Ar.mk (by omega)|exact dct (by first|assumption|omega)|exact dcf (by first|assumption|omega)|exact List.not_mem_nil|apply dc_length|exact nm1 (by omega)|fail))|((first|apply quxo|apply quor|apply qush|apply qusr|apply qmi|apply qid|apply qia0|apply qia|apply qmv|apply qas|apply qlc|apply qla|apply qnc|apply qls|apply qad)<;>(first|exact rfl|assumption|exact Ar.mk (by omega)|exact dct (by first|assumption|omega)|exact dcf (by first|assumption|omega)|exact List.not_mem_nil|apply dc_length|exact nm1 (by omega)|fail))|fail) ?_)
  refine CG.loop (X := Nat) (fun i => [(0, .int .u64 (n : Int)), (2, .pointer (some ⟨b2, 0, none⟩)), (3, .pointer (some ⟨b3, 0, none⟩)), (5, .int .i64 (i : Int))])
    (fun i w' => i ≤ 8 ∧ Kp [b3] w2 w' ∧ Blk w' b3 (.cells (part n i).toArray 39)) (fun i => 8 - i) 0 ⟨by omega, Kp.refl _ _, hB3⟩ (by (repeat' (first | exact True.intro | exact rfl | refine And.intro ?_ ?_))) ?_
  rintro i w3 ⟨hi, hk3, hB⟩
  by_cases hlt : i < 8
  · have g1 : (i : Int) < 8 := by omega
    have e1 : shrI (n : Int) (8 * (i : Int)) = ((n / 2 ^ (8 * i) : Nat) : Int) := by
      have h8 : (8 * (i : Int)) = ((8 * i : Nat) : Int) := by omega
      rw [h8, shrI_nat (by omega)]
    repeat (first|apply cA|apply cB|apply cD|apply cE|apply cF|apply cG|apply cH|apply cJ|apply cU|refine cV rfl ?_|apply cY|refine cZ rfl rfl rfl rfl (by first|(apply qb64<;>(first|exact rfl|assumption|exact Ar.mk (by omega)|exact dct (by first|assumption|omega)|exact dcf (by first|assumption|omega)|exact List.not_mem_nil|apply dc_length|exact nm1 (by omega)|fail))|(apply q64b<;>(first|exact rfl|assumption|exact Ar.mk (by omega)|exact dct (by first|assumption|omega)|exact dcf (by first|assumption|omega)|exact List.not_mem_nil|apply dc_length|exact nm1 (by omega)|fail))|((first|apply quxo|apply quor|apply qush|apply qusr|apply qmi|apply qid|apply qia0|apply qia|apply qmv|apply qas|apply qlc|apply qla|apply qnc|apply qls|apply qad)<;>(first|exact rfl|assumption|exact Ar.mk (by omega)|exact dct (by first|assumption|omega)|exact dcf (by first|assumption|omega)|exact List.not_mem_nil|apply dc_length|exact nm1 (by omega)|fail))|fail) ?_)
    refine dD rfl (by exact rho_of rfl) rfl ?_
    repeat (first|apply cA|apply cB|apply cD|apply cE|apply cF|apply cG|apply cH|apply cJ|apply cU|refine cV rfl ?_|apply cY|refine cZ rfl rfl rfl rfl (by first|(apply qb64<;>(first|exact rfl|assumption|exact Ar.mk (by omega)|exact dct (by first|assumption|omega)|exact dcf (by first|assumption|omega)|exact List.not_mem_nil|apply dc_length|exact nm1 (by omega)|fail))|(apply q64b<;>(first|exact rfl|assumption|exact Ar.mk (by omega)|exact dct (by first|assumption|omega)|exact dcf (by first|assumption|omega)|exact List.not_mem_nil|apply dc_length|exact nm1 (by omega)|fail))|((first|apply quxo|apply quor|apply qush|apply qusr|apply qmi|apply qid|apply qia0|apply qia|apply qmv|apply qas|apply qlc|apply qla|apply qnc|apply qls|apply qad)<;>(first|exact rfl|assumption|exact Ar.mk (by omega)|exact dct (by first|assumption|omega)|exact dcf (by first|assumption|omega)|exact List.not_mem_nil|apply dc_length|exact nm1 (by omega)|fail))|fail) ?_)
    rw [e1]
    repeat (first|apply cA|apply cB|apply cD|apply cE|apply cF|apply cG|apply cH|apply cJ|apply cU|refine cV rfl ?_|apply cY|refine cZ rfl rfl rfl rfl (by first|(apply qb64<;>(first|exact rfl|assumption|exact Ar.mk (by omega)|exact dct (by first|assumption|omega)|exact dcf (by first|assumption|omega)|exact List.not_mem_nil|apply dc_length|exact nm1 (by omega)|fail))|(apply q64b<;>(first|exact rfl|assumption|exact Ar.mk (by omega)|exact dct (by first|assumption|omega)|exact dcf (by first|assumption|omega)|exact List.not_mem_nil|apply dc_length|exact nm1 (by omega)|fail))|((first|apply quxo|apply quor|apply qush|apply qusr|apply qmi|apply qid|apply qia0|apply qia|apply qmv|apply qas|apply qlc|apply qla|apply qnc|apply qls|apply qad)<;>(first|exact rfl|assumption|exact Ar.mk (by omega)|exact dct (by first|assumption|omega)|exact dcf (by first|assumption|omega)|exact List.not_mem_nil|apply dc_length|exact nm1 (by omega)|fail))|fail) ?_)
    rw [toB_nat]
    refine SG.store rfl rfl (by exact rho_of rfl) (by exact rho_of rfl) hB rfl (by show 0 + i * 1 + 1 ≤ (part n i).toArray.size; simp [part_length hi]; omega) rfl (fun w4 hk4 hB4 => ?_)
    have hB4 : Blk w4 b3 (.cells (spl (part n i) (0 + i * 1) [bv (UInt8.ofNat (n / 2 ^ (8 * i)))]).toArray 39) := hB4
    rw [show 0 + i * 1 = i from by omega, part_step hlt] at hB4
    repeat (first|apply cA|apply cB|apply cD|apply cE|apply cF|apply cG|apply cH|apply cJ|apply cU|refine cV rfl ?_|apply cY|refine cZ rfl rfl rfl rfl (by first|(apply qb64<;>(first|exact rfl|assumption|exact Ar.mk (by omega)|exact dct (by first|assumption|omega)|exact dcf (by first|assumption|omega)|exact List.not_mem_nil|apply dc_length|exact nm1 (by omega)|fail))|(apply q64b<;>(first|exact rfl|assumption|exact Ar.mk (by omega)|exact dct (by first|assumption|omega)|exact dcf (by first|assumption|omega)|exact List.not_mem_nil|apply dc_length|exact nm1 (by omega)|fail))|((first|apply quxo|apply quor|apply qush|apply qusr|apply qmi|apply qid|apply qia0|apply qia|apply qmv|apply qas|apply qlc|apply qla|apply qnc|apply qls|apply qad)<;>(first|exact rfl|assumption|exact Ar.mk (by omega)|exact dct (by first|assumption|omega)|exact dcf (by first|assumption|omega)|exact List.not_mem_nil|apply dc_length|exact nm1 (by omega)|fail))|fail) ?_)
    refine NG.round (i + 1) (by (repeat' (first | exact True.intro | exact rfl | refine And.intro ?_ ?_))) ⟨by omega, hk3.trans hk4, hB4⟩ (by omega)
  · have g1 : ¬ (i : Int) < 8 := by omega
    have e8 : i = 8 := by omega
    subst e8
    rw [part_all] at hB
    have hr : Row w3 b3 0 (dc (frm n)) := Row.all hB rfl
    repeat (first|apply cA|apply cB|apply cD|apply cE|apply cF|apply cG|apply cH|apply cJ|apply cU|refine cV rfl ?_|apply cY|refine cZ rfl rfl rfl rfl (by first|(apply qb64<;>(first|exact rfl|assumption|exact Ar.mk (by omega)|exact dct (by first|assumption|omega)|exact dcf (by first|assumption|omega)|exact List.not_mem_nil|apply dc_length|exact nm1 (by omega)|fail))|(apply q64b<;>(first|exact rfl|assumption|exact Ar.mk (by omega)|exact dct (by first|assumption|omega)|exact dcf (by first|assumption|omega)|exact List.not_mem_nil|apply dc_length|exact nm1 (by omega)|fail))|((first|apply quxo|apply quor|apply qush|apply qusr|apply qmi|apply qid|apply qia0|apply qia|apply qmv|apply qas|apply qlc|apply qla|apply qnc|apply qls|apply qad)<;>(first|exact rfl|assumption|exact Ar.mk (by omega)|exact dct (by first|assumption|omega)|exact dcf (by first|assumption|omega)|exact List.not_mem_nil|apply dc_length|exact nm1 (by omega)|fail))|fail) ?_)
    refine dE rfl (by exact rho_of rfl) rfl ?_
    repeat (first|apply cA|apply cB|apply cD|apply cE|apply cF|apply cG|apply cH|apply cJ|apply cU|refine cV rfl ?_|apply cY|refine cZ rfl rfl rfl rfl (by first|(apply qb64<;>(first|exact rfl|assumption|exact Ar.mk (by omega)|exact dct (by first|assumption|omega)|exact dcf (by first|assumption|omega)|exact List.not_mem_nil|apply dc_length|exact nm1 (by omega)|fail))|(apply q64b<;>(first|exact rfl|assumption|exact Ar.mk (by omega)|exact dct (by first|assumption|omega)|exact dcf (by first|assumption|omega)|exact List.not_mem_nil|apply dc_length|exact nm1 (by omega)|fail))|((first|apply quxo|apply quor|apply qush|apply qusr|apply qmi|apply qid|apply qia0|apply qia|apply qmv|apply qas|apply qlc|apply qla|apply qnc|apply qls|apply qad)<;>(first|exact rfl|assumption|exact Ar.mk (by omega)|exact dct (by first|assumption|omega)|exact dcf (by first|assumption|omega)|exact List.not_mem_nil|apply dc_length|exact nm1 (by omega)|fail))|fail) ?_)
    refine SG.setAll (old := dc zd) (l := dc (frm n)) rfl rfl (by exact rho_of rfl) (by exact rho_of rfl) ((hB2.kp0 hk2).kp hk3 (nm1 (by omega))) (dc_length _) (dc_length _) (dc_one _) (fun w4 hk4 hB4 => ?_)
    have hr4 : Row w4 b2 0 (dc (frm n)) := Row.all hB4 rfl
    repeat (first|apply cA|apply cB|apply cD|apply cE|apply cF|apply cG|apply cH|apply cJ|apply cU|refine cV rfl ?_|apply cY|refine cZ rfl rfl rfl rfl (by first|(apply qb64<;>(first|exact rfl|assumption|exact Ar.mk (by omega)|exact dct (by first|assumption|omega)|exact dcf (by first|assumption|omega)|exact List.not_mem_nil|apply dc_length|exact nm1 (by omega)|fail))|(apply q64b<;>(first|exact rfl|assumption|exact Ar.mk (by omega)|exact dct (by first|assumption|omega)|exact dcf (by first|assumption|omega)|exact List.not_mem_nil|apply dc_length|exact nm1 (by omega)|fail))|((first|apply quxo|apply quor|apply qush|apply qusr|apply qmi|apply qid|apply qia0|apply qia|apply qmv|apply qas|apply qlc|apply qla|apply qnc|apply qls|apply qad)<;>(first|exact rfl|assumption|exact Ar.mk (by omega)|exact dct (by first|assumption|omega)|exact dcf (by first|assumption|omega)|exact List.not_mem_nil|apply dc_length|exact nm1 (by omega)|fail))|fail) ?_)
    refine ret1 (Or.inl rfl) Tryz.results86 (by first | exact ResV.tmp rfl | exact ResV.agg rfl rfl (by assumption) (by first | exact dc_length _ | exact nc_length _ | exact rc_length _ _ _ | exact ec_length _ | exact dl_length _ _ _ _ | rfl) | exact ResV.cell rfl rfl (by assumption)) ?_
    have s1 := hk1.size
    have s2 := hk2.size
    exact ⟨rfl, ((hk1.trans hk2).trans_new hk3 (new1 (by omega))).trans_new hk4 (new1 hb2)⟩
set_option maxHeartbeats 8000000 in
theorem take_spec {w : World} {b : Nat} {s : Hs} (hB : Blk w b (.cells (hsl s).toArray 108)) (z : Int) : Calls Tryz.prog 61 #[.pointer (some ⟨b, 0, none⟩), .int .u64 z] w (fun e w' => e = .returned (.tuple #[]) ∧ Kp [b] w w' ∧ Blk w' b (.cells (hsl (takeI s z)).toArray 108)) := by
  refine enter2 Tryz.func61 rfl Tryz.ntmps61 rfl ?_
  obtain ⟨r0, r1, r2, r3, _⟩ := hs_rows hB
  apply cA
  refine CG.tail mixed 8 [0, 1, 2, 3, 4, 5, 6, 7] (by kernel_rfl) ?_
  repeat (refine dB rfl rfl rfl (by first|(apply qb64<;>(first|exact rfl|assumption|exact Ar.mk (by omega)|exact dct (by first|assumption|omega)|exact dcf (by first|assumption|omega)|exact List.not_mem_nil|apply dc_length|exact nm1 (by omega)|fail))|(apply q64b<;>(first|exact rfl|assumption|exact Ar.mk (by omega)|exact dct (by first|assumption|omega)|exact dcf (by first|assumption|omega)|exact List.not_mem_nil|apply dc_length|exact nm1 (by omega)|fail))|((first|apply quxo|apply quor|apply qush|apply qusr|apply qmi|apply qid|apply qia0|apply qia|apply qmv|apply qas|apply qlc|apply qla|apply qnc|apply qls|apply qad)<;>(first|exact rfl|assumption|exact Ar.mk (by omega)|exact dct (by first|assumption|omega)|exact dcf (by first|assumption|omega)|exact List.not_mem_nil|apply dc_length|exact nm1 (by omega)|fail))|fail) ?_)
  refine Der.tl (fun w1 hk1 _ _ => ?_)
  refine SG.store rfl rfl (by exact rho_of rfl) (by exact rho_of rfl) (hB.kp0 hk1) rfl (by show 0 + 0 * 1 + 1 ≤ 4; omega) rfl (fun w2 hk2 hB2 => ?_)
  have hB2 : Blk w2 b (.cells (hsl ⟨xorI s.a z, s.b, s.c, s.d⟩).toArray 108) := hB2
  repeat (first|apply cA|apply cB|apply cD|apply cE|apply cF|apply cG|apply cH|apply cJ|apply cU|refine cV rfl ?_|apply cY|refine cZ rfl rfl rfl rfl (by first|(apply qb64<;>(first|exact rfl|assumption|exact Ar.mk (by omega)|exact dct (by first|assumption|omega)|exact dcf (by first|assumption|omega)|exact List.not_mem_nil|apply dc_length|exact nm1 (by omega)|fail))|(apply q64b<;>(first|exact rfl|assumption|exact Ar.mk (by omega)|exact dct (by first|assumption|omega)|exact dcf (by first|assumption|omega)|exact List.not_mem_nil|apply dc_length|exact nm1 (by omega)|fail))|((first|apply quxo|apply quor|apply qush|apply qusr|apply qmi|apply qid|apply qia0|apply qia|apply qmv|apply qas|apply qlc|apply qla|apply qnc|apply qls|apply qad)<;>(first|exact rfl|assumption|exact Ar.mk (by omega)|exact dct (by first|assumption|omega)|exact dcf (by first|assumption|omega)|exact List.not_mem_nil|apply dc_length|exact nm1 (by omega)|fail))|fail) ?_)
  refine SG.call rfl rfl rfl (by repeat' (first | exact True.intro | exact rho_of rfl | refine And.intro ?_ ?_)) ((stir_spec hB2).mono (fun e w3 hh => ?_))
  obtain ⟨he, hk3, hB3⟩ := hh
  refine ⟨_, he, ?_⟩
  repeat (first|apply cA|apply cB|apply cD|apply cE|apply cF|apply cG|apply cH|apply cJ|apply cU|refine cV rfl ?_|apply cY|refine cZ rfl rfl rfl rfl (by first|(apply qb64<;>(first|exact rfl|assumption|exact Ar.mk (by omega)|exact dct (by first|assumption|omega)|exact dcf (by first|assumption|omega)|exact List.not_mem_nil|apply dc_length|exact nm1 (by omega)|fail))|(apply q64b<;>(first|exact rfl|assumption|exact Ar.mk (by omega)|exact dct (by first|assumption|omega)|exact dcf (by first|assumption|omega)|exact List.not_mem_nil|apply dc_length|exact nm1 (by omega)|fail))|((first|apply quxo|apply quor|apply qush|apply qusr|apply qmi|apply qid|apply qia0|apply qia|apply qmv|apply qas|apply qlc|apply qla|apply qnc|apply qls|apply qad)<;>(first|exact rfl|assumption|exact Ar.mk (by omega)|exact dct (by first|assumption|omega)|exact dcf (by first|assumption|omega)|exact List.not_mem_nil|apply dc_length|exact nm1 (by omega)|fail))|fail) ?_)
  refine ret0 (Or.inr rfl) Tryz.results61 ?_
  exact ⟨rfl, (hk1.any.trans hk2).trans hk3, hB3⟩
set_option maxHeartbeats 8000000 in
theorem gives_spec {w : World} {b : Nat} {s : Hs} (hB : Blk w b (.cells (hsl s).toArray 108)) : Ret Tryz.prog 62 #[.pointer (some ⟨b, 0, none⟩)] w (dv (givesI s)) := by
  refine enter1 Tryz.func62 rfl Tryz.ntmps62 rfl ?_
  obtain ⟨n, hn, _⟩ := xorI_nat s.a s.c
  have hg : givesI s = frm n := by unfold givesI; rw [hn]; rfl
  rw [hg]
  repeat (first|apply cA|apply cB|apply cD|apply cE|apply cF|apply cG|apply cH|apply cJ|apply cU|refine cV rfl ?_|apply cY|refine cZ rfl rfl rfl rfl (by first|(apply qb64<;>(first|exact rfl|assumption|exact Ar.mk (by omega)|exact dct (by first|assumption|omega)|exact dcf (by first|assumption|omega)|exact List.not_mem_nil|apply dc_length|exact nm1 (by omega)|fail))|(apply q64b<;>(first|exact rfl|assumption|exact Ar.mk (by omega)|exact dct (by first|assumption|omega)|exact dcf (by first|assumption|omega)|exact List.not_mem_nil|apply dc_length|exact nm1 (by omega)|fail))|((first|apply quxo|apply quor|apply qush|apply qusr|apply qmi|apply qid|apply qia0|apply qia|apply qmv|apply qas|apply qlc|apply qla|apply qnc|apply qls|apply qad)<;>(first|exact rfl|assumption|exact Ar.mk (by omega)|exact dct (by first|assumption|omega)|exact dcf (by first|assumption|omega)|exact List.not_mem_nil|apply dc_length|exact nm1 (by omega)|fail))|fail) ?_)
  refine SG.alloc rfl rfl rfl (fun b2 w1 hk1 hb2 hB2 => ?_)
  have hB2 : Blk w1 b2 (.cells (dc zd).toArray 39) := hB2
  obtain ⟨r0, r1, r2, r3, _⟩ := hs_rows (hB.kp0 hk1)
  repeat (first|apply cA|apply cB|apply cD|apply cE|apply cF|apply cG|apply cH|apply cJ|apply cU|refine cV rfl ?_|apply cY|refine cZ rfl rfl rfl rfl (by first|(apply qb64<;>(first|exact rfl|assumption|exact Ar.mk (by omega)|exact dct (by first|assumption|omega)|exact dcf (by first|assumption|omega)|exact List.not_mem_nil|apply dc_length|exact nm1 (by omega)|fail))|(apply q64b<;>(first|exact rfl|assumption|exact Ar.mk (by omega)|exact dct (by first|assumption|omega)|exact dcf (by first|assumption|omega)|exact List.not_mem_nil|apply dc_length|exact nm1 (by omega)|fail))|((first|apply quxo|apply quor|apply qush|apply qusr|apply qmi|apply qid|apply qia0|apply qia|apply qmv|apply qas|apply qlc|apply qla|apply qnc|apply qls|apply qad)<;>(first|exact rfl|assumption|exact Ar.mk (by omega)|exact dct (by first|assumption|omega)|exact dcf (by first|assumption|omega)|exact List.not_mem_nil|apply dc_length|exact nm1 (by omega)|fail))|fail) ?_)
  refine CG.tail mixed 9 [0, 1, 2, 3, 4, 5, 6, 7, 8] (by kernel_rfl) ?_
  repeat (refine dB rfl rfl rfl (by first|(apply qb64<;>(first|exact rfl|assumption|exact Ar.mk (by omega)|exact dct (by first|assumption|omega)|exact dcf (by first|assumption|omega)|exact List.not_mem_nil|apply dc_length|exact nm1 (by omega)|fail))|(apply q64b<;>(first|exact rfl|assumption|exact Ar.mk (by omega)|exact dct (by first|assumption|omega)|exact dcf (by first|assumption|omega)|exact List.not_mem_nil|apply dc_length|exact nm1 (by omega)|fail))|((first|apply quxo|apply quor|apply qush|apply qusr|apply qmi|apply qid|apply qia0|apply qia|apply qmv|apply qas|apply qlc|apply qla|apply qnc|apply qls|apply qad)<;>(first|exact rfl|assumption|exact Ar.mk (by omega)|exact dct (by first|assumption|omega)|exact dcf (by first|assumption|omega)|exact List.not_mem_nil|apply dc_length|exact nm1 (by omega)|fail))|fail) ?_)
  rw [hn]
  refine Der.tl (fun w2 hk2 _ _ => ?_)
  refine SG.ret rfl rfl rfl (by repeat' (first | exact True.intro | exact rho_of rfl | refine And.intro ?_ ?_)) (from_spec n w2) (fun w3 hk3 => ?_)
  refine SG.setAll (old := dc zd) (l := dc (frm n)) rfl rfl (by exact rho_of rfl) (by exact rho_of rfl) ((hB2.kp0 hk2).kp0 hk3) (dc_length _) (dc_length _) (dc_one _) (fun w4 hk4 hB4 => ?_)
  have hr4 : Row w4 b2 0 (dc (frm n)) := Row.all hB4 rfl
  repeat (first|apply cA|apply cB|apply cD|apply cE|apply cF|apply cG|apply cH|apply cJ|apply cU|refine cV rfl ?_|apply cY|refine cZ rfl rfl rfl rfl (by first|(apply qb64<;>(first|exact rfl|assumption|exact Ar.mk (by omega)|exact dct (by first|assumption|omega)|exact dcf (by first|assumption|omega)|exact List.not_mem_nil|apply dc_length|exact nm1 (by omega)|fail))|(apply q64b<;>(first|exact rfl|assumption|exact Ar.mk (by omega)|exact dct (by first|assumption|omega)|exact dcf (by first|assumption|omega)|exact List.not_mem_nil|apply dc_length|exact nm1 (by omega)|fail))|((first|apply quxo|apply quor|apply qush|apply qusr|apply qmi|apply qid|apply qia0|apply qia|apply qmv|apply qas|apply qlc|apply qla|apply qnc|apply qls|apply qad)<;>(first|exact rfl|assumption|exact Ar.mk (by omega)|exact dct (by first|assumption|omega)|exact dcf (by first|assumption|omega)|exact List.not_mem_nil|apply dc_length|exact nm1 (by omega)|fail))|fail) ?_)
  refine ret1 (Or.inl rfl) Tryz.results62 (by first | exact ResV.tmp rfl | exact ResV.agg rfl rfl (by assumption) (by first | exact dc_length _ | exact nc_length _ | exact rc_length _ _ _ | exact ec_length _ | exact dl_length _ _ _ _ | rfl) | exact ResV.cell rfl rfl (by assumption)) ?_
  exact ⟨rfl, ((hk1.trans hk2).trans hk3).trans_new hk4 (new1 hb2)⟩
set_option maxHeartbeats 8000000 in
theorem begin_spec (z : Int) (w : World) : Ret Tryz.prog 60 #[.int .u64 z] w (.agg (hsl (beginI z)).toArray) := by
  refine enter1 Tryz.func60 rfl Tryz.ntmps60 rfl ?_
  repeat (first|apply cA|apply cB|apply cD|apply cE|apply cF|apply cG|apply cH|apply cJ|apply cU|refine cV rfl ?_|apply cY|refine cZ rfl rfl rfl rfl (by first|(apply qb64<;>(first|exact rfl|assumption|exact Ar.mk (by omega)|exact dct (by first|assumption|omega)|exact dcf (by first|assumption|omega)|exact List.not_mem_nil|apply dc_length|exact nm1 (by omega)|fail))|(apply q64b<;>(first|exact rfl|assumption|exact Ar.mk (by omega)|exact dct (by first|assumption|omega)|exact dcf (by first|assumption|omega)|exact List.not_mem_nil|apply dc_length|exact nm1 (by omega)|fail))|((first|apply quxo|apply quor|apply qush|apply qusr|apply qmi|apply qid|apply qia0|apply qia|apply qmv|apply qas|apply qlc|apply qla|apply qnc|apply qls|apply qad)<;>(first|exact rfl|assumption|exact Ar.mk (by omega)|exact dct (by first|assumption|omega)|exact dcf (by first|assumption|omega)|exact List.not_mem_nil|apply dc_length|exact nm1 (by omega)|fail))|fail) ?_)
  refine SG.alloc rfl rfl rfl (fun b2 w1 hk1 hb2 hB2 => ?_)
  have hB2 : Blk w1 b2 (.cells (hsl ⟨0, 0, 0, 0⟩).toArray 108) := hB2
  repeat (first|apply cA|apply cB|apply cD|apply cE|apply cF|apply cG|apply cH|apply cJ|apply cU|refine cV rfl ?_|apply cY|refine cZ rfl rfl rfl rfl (by first|(apply qb64<;>(first|exact rfl|assumption|exact Ar.mk (by omega)|exact dct (by first|assumption|omega)|exact dcf (by first|assumption|omega)|exact List.not_mem_nil|apply dc_length|exact nm1 (by omega)|fail))|(apply q64b<;>(first|exact rfl|assumption|exact Ar.mk (by omega)|exact dct (by first|assumption|omega)|exact dcf (by first|assumption|omega)|exact List.not_mem_nil|apply dc_length|exact nm1 (by omega)|fail))|((first|apply quxo|apply quor|apply qush|apply qusr|apply qmi|apply qid|apply qia0|apply qia|apply qmv|apply qas|apply qlc|apply qla|apply qnc|apply qls|apply qad)<;>(first|exact rfl|assumption|exact Ar.mk (by omega)|exact dct (by first|assumption|omega)|exact dcf (by first|assumption|omega)|exact List.not_mem_nil|apply dc_length|exact nm1 (by omega)|fail))|fail) ?_)
  refine cZ rfl rfl rfl rfl (vals_build rfl (fun w => bst w _ _ _ _)) ?_
  refine SG.setAll (old := hsl ⟨0, 0, 0, 0⟩) (l := hsl (beginI z)) rfl rfl (by exact rho_of rfl) (by exact rho_of rfl) hB2 rfl rfl rfl (fun w2 hk2 hB3 => ?_)
  have hr : Row w2 b2 0 (hsl (beginI z)) := Row.all hB3 rfl
  repeat (first|apply cA|apply cB|apply cD|apply cE|apply cF|apply cG|apply cH|apply cJ|apply cU|refine cV rfl ?_|apply cY|refine cZ rfl rfl rfl rfl (by first|(apply qb64<;>(first|exact rfl|assumption|exact Ar.mk (by omega)|exact dct (by first|assumption|omega)|exact dcf (by first|assumption|omega)|exact List.not_mem_nil|apply dc_length|exact nm1 (by omega)|fail))|(apply q64b<;>(first|exact rfl|assumption|exact Ar.mk (by omega)|exact dct (by first|assumption|omega)|exact dcf (by first|assumption|omega)|exact List.not_mem_nil|apply dc_length|exact nm1 (by omega)|fail))|((first|apply quxo|apply quor|apply qush|apply qusr|apply qmi|apply qid|apply qia0|apply qia|apply qmv|apply qas|apply qlc|apply qla|apply qnc|apply qls|apply qad)<;>(first|exact rfl|assumption|exact Ar.mk (by omega)|exact dct (by first|assumption|omega)|exact dcf (by first|assumption|omega)|exact List.not_mem_nil|apply dc_length|exact nm1 (by omega)|fail))|fail) ?_)
  refine ret1 (Or.inl rfl) Tryz.results60 (by first | exact ResV.tmp rfl | exact ResV.agg rfl rfl (by assumption) (by first | exact dc_length _ | exact nc_length _ | exact rc_length _ _ _ | exact ec_length _ | exact dl_length _ _ _ _ | rfl) | exact ResV.cell rfl rfl (by assumption)) ?_
  exact ⟨rfl, hk1.trans_new hk2 (new1 hb2)⟩
end Go.Proofs.YtnoipmimddoioaaGreat
namespace Go.Proofs.YtnoipmimddoioaaGreat
set_option linter.unusedVariables false
section
variable {P : Program} {S : List Nat} {w0 : World} {F : World → Prop} {L : Env} {d : Option Nat} {ty : TypeId} {pos : String} {af : Array Edge} {g : Option (Nat × Bool)}
/-- 's[j:m]', where j stands before the end of what there is room for. -/
theorem qfh {T E : TypeId} [u : Ut P T (.slice E)] {sz : Nat} [f : Sz P E sz] {x lo hi : Operand} {b off n c : Nat} {k k' : IntKind} {z z' : Int} {j m : Nat} (hx : ro L x = some (.slice (some ⟨b, off, none⟩) n c)) (hlo : ro L lo = some (.int k z)) (hhi : ro L hi = some (.int k' z')) (hz : z = (j : Int)) (hz' : z' = (m : Int)) (hj : Ar (j ≤ m ∧ m ≤ c ∧ j < c)) :
    Vals P S w0 F L ⟨d, .slice T x (some lo) (some hi) none, ty, pos, af, g⟩ (.slice (some ⟨b, off + j * sz, none⟩) (m - j) (c - j)) := fun w _ _ => by
  obtain ⟨i, h2, h3⟩ := f.eq
  obtain ⟨q1, q2, q3⟩ := hj.h
  subst h3
  subst hz
  subst hz'
  simp only [execOp, rho_of hx, Option.map_some, Option.map_none, rho_of hlo, rho_of hhi, Instr.sliceAt, Sem.run_bind, run_underlying u.eq, Result.andThen, Instr.slice, Instr.sliceBounds, Instr.sliceBound, asIntOf, Sem.run_pure]
  have h5 : (0 : Int) ≤ (m : Int) ∧ (m : Int) ≤ (c : Int) := ⟨by omega, by omega⟩
  simp only [h5, and_self, if_true, Sem.run_pure, Int.toNat_natCast]
  have h6 : (0 : Int) ≤ (j : Int) ∧ (j : Int) ≤ (m : Int) := ⟨by omega, by omega⟩
  simp only [h6, and_self, if_true, Sem.run_pure, sizeOf, typeInfo, Sem.run_bind, run_program, Result.andThen, h2]
  have hc : c ≠ j := by omega
  simp [hc, add_none]
/-- 's[j:]' of nothing. -/
theorem vals_fromN {T E : TypeId} [u : Ut P T (.slice E)] {sz : Nat} [f : Sz P E sz] {x lo : Operand} {n c : Nat} {k : IntKind} {j : Nat} (hx : ro L x = some (.slice none n c)) (hlo : ro L lo = some (.int k (j : Int))) (hj : j ≤ n) :
    Vals P S w0 F L ⟨d, .slice T x (some lo) none none, ty, pos, af, g⟩ (.slice none (n - j) (c - j)) := fun w _ _ => by
  obtain ⟨i, h2, h3⟩ := f.eq
  have h4 : (j : Int) ≤ n := by omega
  subst h3
  simp only [execOp, rho_of hx, Option.map_some, Option.map_none, rho_of hlo, Instr.sliceAt, Sem.run_bind, run_underlying u.eq, Result.andThen, Instr.slice, Instr.sliceBounds, Instr.sliceBound, asIntOf, Sem.run_pure]
  have h5 : (0 : Int) ≤ (j : Int) ∧ (j : Int) ≤ (n : Int) := ⟨by omega, h4⟩
  simp only [h5, and_self, if_true, Sem.run_pure, sizeOf, typeInfo, Sem.run_bind, run_program, Result.andThen, h2]
  simp
/-- An array where a slice begins. -/
theorem qsa {T E : TypeId} {n : Nat} [u : Ut P T (.array n E)] {x : Operand} {a : Addr} {m c : Nat} (hx : ro L x = some (.slice (some a) m c)) (h : Ar (n ≤ m)) :
    Vals P S w0 F L ⟨d, .sliceToArrayPointer T x, ty, pos, af, g⟩ (.pointer (some a)) := fun w _ _ => by
  have h1 := h.h
  simp [execOp, rho_of hx, Instr.arrayAt, run_underlying u.eq]
  intro h2
  omega
/-- All of an array. -/
theorem qaa {T E : TypeId} {n sz : Nat} [u : Ut P T (.array n E)] [f : Sz P E sz] {x : Operand} {b off : Nat} (hx : ro L x = some (.pointer (some ⟨b, off, none⟩))) :
    Vals P S w0 F L ⟨d, .slice T x none none none, ty, pos, af, g⟩ (.slice (some ⟨b, off, none⟩) n n) := fun w _ _ => by
  obtain ⟨i, h2, h3⟩ := f.eq
  subst h3
  simp only [execOp, rho_of hx, Option.map_none, Instr.sliceAt, Sem.run_bind, run_underlying u.eq, Result.andThen, Instr.sureAddr, Instr.sliceBounds, Sem.run_pure, sizeOf, typeInfo, run_program, h2]
  simp [Addr.add]
end
section
variable {P : Program} {n : Nat} {Q : Exit → Act → World → Prop} {L : Env} {w : World} {ops : List Oper} {rest : List Oper} {ty : TypeId} {pos : String} {af : Array Edge} {g : Option (Nat × Bool)}
/-- 'copy(a, s)' of cells into the front of a block; s is short enough. -/
theorem SG.copy {d : Nat} {t t2 e T' : TypeId} [u : Ut P t (.slice e)] [z : Sz P e 1] {s x : Operand} {b m c2 c0 : Nat} {a2 : Option Addr} {cs : Array Value} {news : List Value}
    (hd : Nat.blt d n = true) (hw : want ops L ⟨some d, .call { callee := .builtin .copy, args := #[s, x], argTypes := #[t, t2] }, ty, pos, af, g⟩ = some true) (hk : (known L s && known L x) = true)
    (hs : rho L s = .slice (some ⟨b, 0, none⟩) m c0) (hx : rho L x = .slice a2 news.length c2) (hB : Blk w b (.cells cs T')) (hm : news.length ≤ m) (hc : m ≤ cs.size) (hone : allOne news = true) (hS : ∀ b2 off, a2 = some ⟨b2, off, none⟩ → news ≠ [] → Row w b2 off news) (ha2 : news ≠ [] → ∃ b2 off, a2 = some ⟨b2, off, none⟩)
    (hno : a2 = none ∨ ∃ b2 off, a2 = some ⟨b2, off, none⟩)
    (h : ∀ w', Kp [b] w w' → Blk w' b (.cells (spl cs.toList 0 news).toArray T') → SG P n ops Q rest ((d, .int .i64 (news.length : Int)) :: L) w') : SG P n ops Q (⟨some d, .call { callee := .builtin .copy, args := #[s, x], argTypes := #[t, t2] }, ty, pos, af, g⟩ :: rest) L w := by
  refine SG.op (by simpa using hd) rfl hw (by simpa [Op.operands, Call.operands] using hk) ?_
  unfold OpRun
  obtain ⟨i, h2, h3⟩ := z.eq
  have hmin : Nat.min news.length m = news.length := Nat.min_eq_left hm
  have hload : (Builtin.firstCells i.size (Nat.min news.length m) (.slice a2 news.length c2)).run P w = .ok news.toArray w := by
    rw [hmin, h3]
    rcases hno with rfl | ⟨b2, off, rfl⟩
    · have : news = [] := by
        cases news with
        | nil => rfl
        | cons y l => obtain ⟨b2, off, e⟩ := ha2 (by simp); cases e
      subst this
      simp [Builtin.firstCells]
    · simp only [Builtin.firstCells, loadCells, Nat.mul_one]
      by_cases he : news = []
      · subst he
        simp [loadCellsFrom]
      · rw [run_loadCellsFrom (hS b2 off rfl he) news.length 0 _ (by omega)]
        simp
  have hst := run_storeCells (P := P) (b := b) (off := 0) (T := T') news 0 w cs hB (by simp; omega) hone
  have : (execOp (rho L) ⟨some d, .call { callee := .builtin .copy, args := #[s, x], argTypes := #[t, t2] }, ty, pos, af, g⟩).run P w = .ok (.value (.int .i64 (news.length : Int))) { w with heap := w.heap.setIfInBounds b (.cells (spl cs.toList 0 news).toArray T') } := by
    have hcopy : (Builtin.copy_ #[t, t2] ty #[.slice (some ⟨b, 0, none⟩) m c0, .slice a2 news.length c2]).run P w = .ok (.int .i64 (news.length : Int)) { w with heap := w.heap.setIfInBounds b (.cells (spl cs.toList 0 news).toArray T') } := by
      rw [hmin] at hload
      simp only [Nat.add_zero] at hst
      simp only [Builtin.copy_, List.getElem?_toArray, List.getElem?_cons_zero, List.getElem?_cons_succ, Sem.run_bind, run_underlying u.eq, Result.andThen_ok, sizeOf, typeInfo, run_program, h2, Builtin.lenOf, Sem.run_pure, hmin, hload, hst, goInt]
    simp only [execOp, resolve, invoke, builtin, Sem.run_bind, Sem.run_pure, Result.andThen_ok, List.map_toArray, List.map_cons, List.map_nil, hs, hx, hcopy]
  rw [this]
  exact h _ (Kp.set w hB rfl rfl) (hB.set _)
end
end Go.Proofs.YtnoipmimddoioaaGreat
namespace Go.Proofs.YtnoipmimddoioaaGreat
open Go.Proofs
set_option linter.unusedVariables false
/-- Bytes in memory. -/
abbrev by1 : UInt8 → List Value := fun u => [bv u]
theorem flt_by1 (l : List UInt8) : flt by1 l = l.map bv := by
  induction l with
  | nil => rfl
  | cons x l ih => simp [flt, by1] at ih ⊢; exact ih
theorem sl_row {w : World} {b off : Nat} {l : List UInt8} (h : Sl by1 1 w (some ⟨b, off, none⟩) l) (i m : Nat) (him : i + m ≤ l.length) (hm : 0 < m) : Row w b (off + i * 1) (((l.drop i).take m).map bv) := by
  have hS : Sl by1 1 w (some ⟨b, off + i * 1, none⟩) ((l.drop i).take m) := fun k x hx => by
    have hk : k < ((l.drop i).take m).length := (List.getElem?_eq_some_iff.1 hx).1
    have hk2 : k < m := by simp at hk; omega
    rw [List.getElem?_take_of_lt hk2, List.getElem?_drop] at hx
    refine ⟨b, off + i * 1, rfl, ?_⟩
    have := h.row hx
    rwa [show off + (i + k) * 1 = off + i * 1 + k * 1 from by omega] at this
  have hne : (l.drop i).take m ≠ [] := by
    intro e
    have : ((l.drop i).take m).length = 0 := by rw [e]; rfl
    simp at this
    omega
  have := Sl.flat (enc := by1) (fun _ => rfl) hne hS
  rwa [flt_by1] at this
theorem eights_step (s : Hs) : ∀ (i : Nat) (l : List UInt8), eightsI s l (i + 1) = takeI (eightsI s l i) (val ((l.drop (i * 8)).take 8) : Int) := by
  intro i
  induction i generalizing s with
  | zero => intro l; simp [eightsI]
  | succ i ih =>
    intro l
    rw [eightsI, ih, eightsI, List.drop_drop, show 8 + i * 8 = (i + 1) * 8 from by omega]
def d8 (l : List UInt8) (h : l.length = 8) : Dg := ⟨l, h⟩
attribute [local irreducible] CG NG SG Vals Der Row Blk MapIs IterAt addI xorI orI andI shlI shrI
set_option maxHeartbeats 8000000 in
theorem whole_spec {w : World} {b : Nat} {s : Hs} {a : Option Addr} {c : Nat} {l : List UInt8} (hB : Blk w b (.cells (hsl s).toArray 108)) (hS : Sl by1 1 w a l) (hab : ∀ b2 off, a = some ⟨b2, off, none⟩ → b2 ≠ b) (hl : l.length ≤ 1000000000) (hc : l.length ≤ c) :
    Calls Tryz.prog 101 #[.pointer (some ⟨b, 0, none⟩), .slice a l.length c] w (fun e w' => e = .returned (.tuple #[]) ∧ Kp [b] w w' ∧ Blk w' b (.cells (hsl (eightsI s l (l.length / 8))).toArray 108)) := by
  refine enter2 Tryz.func101 rfl Tryz.ntmps101 rfl ?_
  have ediv : (l.length : Int) / 8 = ((l.length / 8 : Nat) : Int) := by omega
  repeat (first|apply cA|apply cB|apply cD|apply cE|apply cF|apply cG|apply cH|apply cJ|apply cU|refine cV rfl ?_|apply cY|refine cZ rfl rfl rfl rfl (by first|(apply qi64<;>(first|exact rfl|assumption|exact Ar.mk (by omega)|exact dct (by first|assumption|omega)|exact dcf (by first|assumption|omega)|exact List.not_mem_nil|apply dc_length|exact nm1 (by omega)|fail))|((first|apply qmi|apply qqi|apply qia|apply qfh|apply qsa|apply qaa|apply qmv|apply qas|apply qla|apply qix|apply qls|apply qad|apply qln)<;>(first|exact rfl|assumption|exact Ar.mk (by omega)|exact dct (by first|assumption|omega)|exact dcf (by first|assumption|omega)|exact List.not_mem_nil|apply dc_length|exact nm1 (by omega)|fail))|fail) ?_)
  rw [ediv]
  refine CG.loop (X := Nat) (fun i => [(0, .pointer (some ⟨b, 0, none⟩)), (1, .slice a l.length c), (7, .int .i64 ((l.length / 8 : Nat) : Int)), (8, .int .i64 (i : Int))])
    (fun i w' => i ≤ l.length / 8 ∧ Kp [b] w w' ∧ Blk w' b (.cells (hsl (eightsI s l i)).toArray 108)) (fun i => l.length / 8 - i) 0 ⟨by omega, Kp.refl _ _, hB⟩ (by (repeat' (first | exact True.intro | exact rfl | refine And.intro ?_ ?_))) ?_
  rintro i w1 ⟨hi, hk1, hB1⟩
  by_cases hlt : i < l.length / 8
  · have g1 : (i : Int) < ((l.length / 8 : Nat) : Int) := by omega
    obtain ⟨b2, off, rfl, _⟩ := hS.at (i := i) (by omega)
    have hne := hab b2 off rfl
    have hr := sl_row (hS.kp hk1 (fun b3 off3 e => by cases e; exact nm1 hne)) (i * 8) 8 (by omega) (by omega)
    have h8 : ((l.drop (i * 8)).take 8).length = 8 := by simp; omega
    have hr : Row w1 b2 (off + i * 8 * 1) (dc (d8 _ h8)) := hr
    have ez : (i : Int) * 8 = ((i * 8 : Nat) : Int) := by omega
    have ez2 : ((i * 8 : Nat) : Int) + 8 = ((i * 8 + 8 : Nat) : Int) := by omega
    repeat (first|apply cA|apply cB|apply cD|apply cE|apply cF|apply cG|apply cH|apply cJ|apply cU|refine cV rfl ?_|apply cY|refine cZ rfl rfl rfl rfl (by first|(apply qi64<;>(first|exact rfl|assumption|exact Ar.mk (by omega)|exact dct (by first|assumption|omega)|exact dcf (by first|assumption|omega)|exact List.not_mem_nil|apply dc_length|exact nm1 (by omega)|fail))|((first|apply qmi|apply qqi|apply qia|apply qfh|apply qsa|apply qaa|apply qmv|apply qas|apply qla|apply qix|apply qls|apply qad|apply qln)<;>(first|exact rfl|assumption|exact Ar.mk (by omega)|exact dct (by first|assumption|omega)|exact dcf (by first|assumption|omega)|exact List.not_mem_nil|apply dc_length|exact nm1 (by omega)|fail))|fail) ?_)
    refine dD rfl (by exact rho_of rfl) rfl ?_
    repeat (first|apply cA|apply cB|apply cD|apply cE|apply cF|apply cG|apply cH|apply cJ|apply cU|refine cV rfl ?_|apply cY|refine cZ rfl rfl rfl rfl (by first|(apply qi64<;>(first|exact rfl|assumption|exact Ar.mk (by omega)|exact dct (by first|assumption|omega)|exact dcf (by first|assumption|omega)|exact List.not_mem_nil|apply dc_length|exact nm1 (by omega)|fail))|((first|apply qmi|apply qqi|apply qia|apply qfh|apply qsa|apply qaa|apply qmv|apply qas|apply qla|apply qix|apply qls|apply qad|apply qln)<;>(first|exact rfl|assumption|exact Ar.mk (by omega)|exact dct (by first|assumption|omega)|exact dcf (by first|assumption|omega)|exact List.not_mem_nil|apply dc_length|exact nm1 (by omega)|fail))|fail) ?_)
    rw [ez]
    repeat (first|apply cA|apply cB|apply cD|apply cE|apply cF|apply cG|apply cH|apply cJ|apply cU|refine cV rfl ?_|apply cY|refine cZ rfl rfl rfl rfl (by first|(apply qi64<;>(first|exact rfl|assumption|exact Ar.mk (by omega)|exact dct (by first|assumption|omega)|exact dcf (by first|assumption|omega)|exact List.not_mem_nil|apply dc_length|exact nm1 (by omega)|fail))|((first|apply qmi|apply qqi|apply qia|apply qfh|apply qsa|apply qaa|apply qmv|apply qas|apply qla|apply qix|apply qls|apply qad|apply qln)<;>(first|exact rfl|assumption|exact Ar.mk (by omega)|exact dct (by first|assumption|omega)|exact dcf (by first|assumption|omega)|exact List.not_mem_nil|apply dc_length|exact nm1 (by omega)|fail))|fail) ?_)
    rw [ez2]
    repeat (first|apply cA|apply cB|apply cD|apply cE|apply cF|apply cG|apply cH|apply cJ|apply cU|refine cV rfl ?_|apply cY|refine cZ rfl rfl rfl rfl (by first|(apply qi64<;>(first|exact rfl|assumption|exact Ar.mk (by omega)|exact dct (by first|assumption|omega)|exact dcf (by first|assumption|omega)|exact List.not_mem_nil|apply dc_length|exact nm1 (by omega)|fail))|((first|apply qmi|apply qqi|apply qia|apply qfh|apply qsa|apply qaa|apply qmv|apply qas|apply qla|apply qix|apply qls|apply qad|apply qln)<;>(first|exact rfl|assumption|exact Ar.mk (by omega)|exact dct (by first|assumption|omega)|exact dcf (by first|assumption|omega)|exact List.not_mem_nil|apply dc_length|exact nm1 (by omega)|fail))|fail) ?_)
    refine SG.ret rfl rfl rfl (by repeat' (first | exact True.intro | exact rho_of rfl | refine And.intro ?_ ?_)) (num_spec (d8 _ h8) w1) (fun w2 hk2 => ?_)
    refine SG.call rfl rfl rfl (by repeat' (first | exact True.intro | exact rho_of rfl | refine And.intro ?_ ?_)) ((take_spec (hB1.kp0 hk2) _).mono (fun e w3 hh => ?_))
    obtain ⟨he, hk3, hB3⟩ := hh
    refine ⟨_, he, ?_⟩
    repeat (first|apply cA|apply cB|apply cD|apply cE|apply cF|apply cG|apply cH|apply cJ|apply cU|refine cV rfl ?_|apply cY|refine cZ rfl rfl rfl rfl (by first|(apply qi64<;>(first|exact rfl|assumption|exact Ar.mk (by omega)|exact dct (by first|assumption|omega)|exact dcf (by first|assumption|omega)|exact List.not_mem_nil|apply dc_length|exact nm1 (by omega)|fail))|((first|apply qmi|apply qqi|apply qia|apply qfh|apply qsa|apply qaa|apply qmv|apply qas|apply qla|apply qix|apply qls|apply qad|apply qln)<;>(first|exact rfl|assumption|exact Ar.mk (by omega)|exact dct (by first|assumption|omega)|exact dcf (by first|assumption|omega)|exact List.not_mem_nil|apply dc_length|exact nm1 (by omega)|fail))|fail) ?_)
    refine NG.round (i + 1) (by (repeat' (first | exact True.intro | exact rfl | refine And.intro ?_ ?_))) ⟨by omega, (hk1.trans hk2.any).trans hk3, ?_⟩ (by omega)
    rw [eights_step]
    exact hB3
  · have g1 : ¬ (i : Int) < ((l.length / 8 : Nat) : Int) := by omega
    have e8 : i = l.length / 8 := by omega
    subst e8
    repeat (first|apply cA|apply cB|apply cD|apply cE|apply cF|apply cG|apply cH|apply cJ|apply cU|refine cV rfl ?_|apply cY|refine cZ rfl rfl rfl rfl (by first|(apply qi64<;>(first|exact rfl|assumption|exact Ar.mk (by omega)|exact dct (by first|assumption|omega)|exact dcf (by first|assumption|omega)|exact List.not_mem_nil|apply dc_length|exact nm1 (by omega)|fail))|((first|apply qmi|apply qqi|apply qia|apply qfh|apply qsa|apply qaa|apply qmv|apply qas|apply qla|apply qix|apply qls|apply qad|apply qln)<;>(first|exact rfl|assumption|exact Ar.mk (by omega)|exact dct (by first|assumption|omega)|exact dcf (by first|assumption|omega)|exact List.not_mem_nil|apply dc_length|exact nm1 (by omega)|fail))|fail) ?_)
    refine dE rfl (by exact rho_of rfl) rfl ?_
    repeat (first|apply cA|apply cB|apply cD|apply cE|apply cF|apply cG|apply cH|apply cJ|apply cU|refine cV rfl ?_|apply cY|refine cZ rfl rfl rfl rfl (by first|(apply qi64<;>(first|exact rfl|assumption|exact Ar.mk (by omega)|exact dct (by first|assumption|omega)|exact dcf (by first|assumption|omega)|exact List.not_mem_nil|apply dc_length|exact nm1 (by omega)|fail))|((first|apply qmi|apply qqi|apply qia|apply qfh|apply qsa|apply qaa|apply qmv|apply qas|apply qla|apply qix|apply qls|apply qad|apply qln)<;>(first|exact rfl|assumption|exact Ar.mk (by omega)|exact dct (by first|assumption|omega)|exact dcf (by first|assumption|omega)|exact List.not_mem_nil|apply dc_length|exact nm1 (by omega)|fail))|fail) ?_)
    refine ret0 (Or.inr rfl) Tryz.results101 ?_
    exact ⟨rfl, hk1, hB1⟩
/-- What is left, a one, nothing. -/
def padL (r : List UInt8) : List UInt8 := r ++ (1 :: List.replicate (7 - r.length) 0)
theorem pad_length {r : List UInt8} (h : r.length < 8) : (padL r).length = 8 := by simp [padL]; omega
theorem val_zeros : ∀ k, val (List.replicate k (0 : UInt8)) = 0
  | 0 => rfl
  | k + 1 => by rw [List.replicate_succ]; simp [val, val_zeros k]
theorem pad_val (r : List UInt8) : val (padL r) = val (r ++ [1]) := by
  unfold padL
  rw [show (1 : UInt8) :: List.replicate (7 - r.length) 0 = [1] ++ List.replicate (7 - r.length) 0 from rfl, ← List.append_assoc, val_append, val_zeros]
  simp
theorem cpy_eq {r : List UInt8} (h : r.length < 8) : spl (dc zd) 0 (r.map bv) = r.map bv ++ (bv 0 :: List.replicate (7 - r.length) (bv 0)) := by
  have e : dc zd = List.replicate 8 (bv 0) := rfl
  rw [e]
  simp only [spl, List.take_zero, List.nil_append, Nat.zero_add, List.length_map, List.drop_replicate]
  rw [show 8 - r.length = (7 - r.length) + 1 from by omega, List.replicate_succ]
theorem one_eq {r : List UInt8} : spl (r.map bv ++ (bv 0 :: List.replicate (7 - r.length) (bv 0))) r.length [bv 1] = (padL r).map bv := by
  have := spl_mid (pre := r.map bv) (old := [bv 0]) (post := List.replicate (7 - r.length) (bv 0)) (l := [bv 1]) rfl
  simp only [List.length_map] at this
  rw [show bv 0 :: List.replicate (7 - r.length) (bv 0) = [bv 0] ++ List.replicate (7 - r.length) (bv 0) from rfl, this]
  simp [padL]
def dpad (r : List UInt8) (h : r.length < 8) : Dg := ⟨padL r, pad_length h⟩
theorem allOne_bv (r : List UInt8) : allOne (r.map bv) = true := by simp [allOne, oneB]
set_option maxHeartbeats 8000000 in
theorem end_spec {w : World} {b : Nat} {s : Hs} {a : Option Addr} {c : Nat} {l : List UInt8} (hB : Blk w b (.cells (hsl s).toArray 108)) (hS : Sl by1 1 w a l) (ha : l = [] ∧ a = none ∨ ∃ b2 off, a = some ⟨b2, off, none⟩) (hab : ∀ b2 off, a = some ⟨b2, off, none⟩ → b2 ≠ b) (hl : l.length ≤ 1000000000) (hc : l.length ≤ c) :
    Calls Tryz.prog 102 #[.pointer (some ⟨b, 0, none⟩), .slice a l.length c] w (fun e w' => e = .returned (.tuple #[]) ∧ Kp [b] w w' ∧ Blk w' b (.cells (hsl (takeI (takeI s (val (l.drop (l.length / 8 * 8) ++ [1]) : Int)) (l.length : Int))).toArray 108)) := by
  refine enter2 Tryz.func102 rfl Tryz.ntmps102 rfl ?_
  have ediv : (l.length : Int) / 8 * 8 = ((l.length / 8 * 8 : Nat) : Int) := by omega
  generalize hr0 : l.drop (l.length / 8 * 8) = r
  have hrl : r.length = l.length - l.length / 8 * 8 := by rw [← hr0]; simp
  have hr8 : r.length < 8 := by omega
  have hlb := hB.lt
  repeat (first|apply cA|apply cB|apply cD|apply cE|apply cF|apply cG|apply cH|apply cJ|apply cU|refine cV rfl ?_|apply cY|refine cZ rfl rfl rfl rfl (by first|(apply qi64<;>(first|exact rfl|assumption|exact Ar.mk (by omega)|exact dct (by first|assumption|omega)|exact dcf (by first|assumption|omega)|exact List.not_mem_nil|apply dc_length|exact nm1 (by omega)|fail))|((first|apply qmi|apply qqi|apply qia|apply qfh|apply qsa|apply qaa|apply qmv|apply qas|apply qla|apply qix|apply qls|apply qad|apply qln)<;>(first|exact rfl|assumption|exact Ar.mk (by omega)|exact dct (by first|assumption|omega)|exact dcf (by first|assumption|omega)|exact List.not_mem_nil|apply dc_length|exact nm1 (by omega)|fail))|fail) ?_)
  refine SG.alloc rfl rfl rfl (fun b4 w1 hk1 hb4 hB4 => ?_)
  have hB4 : Blk w1 b4 (.cells (dc zd).toArray 39) := hB4
  repeat (first|apply cA|apply cB|apply cD|apply cE|apply cF|apply cG|apply cH|apply cJ|apply cU|refine cV rfl ?_|apply cY|refine cZ rfl rfl rfl rfl (by first|(apply qi64<;>(first|exact rfl|assumption|exact Ar.mk (by omega)|exact dct (by first|assumption|omega)|exact dcf (by first|assumption|omega)|exact List.not_mem_nil|apply dc_length|exact nm1 (by omega)|fail))|((first|apply qmi|apply qqi|apply qia|apply qfh|apply qsa|apply qaa|apply qmv|apply qas|apply qla|apply qix|apply qls|apply qad|apply qln)<;>(first|exact rfl|assumption|exact Ar.mk (by omega)|exact dct (by first|assumption|omega)|exact dcf (by first|assumption|omega)|exact List.not_mem_nil|apply dc_length|exact nm1 (by omega)|fail))|fail) ?_)
  refine CG.tail mixed 7 [0, 1, 2, 3, 4, 5, 6] (by kernel_rfl) ?_
  repeat (refine dB rfl rfl rfl (by first|(apply qi64<;>(first|exact rfl|assumption|exact Ar.mk (by omega)|exact dct (by first|assumption|omega)|exact dcf (by first|assumption|omega)|exact List.not_mem_nil|apply dc_length|exact nm1 (by omega)|fail))|((first|apply qmi|apply qqi|apply qia|apply qfh|apply qsa|apply qaa|apply qmv|apply qas|apply qla|apply qix|apply qls|apply qad|apply qln)<;>(first|exact rfl|assumption|exact Ar.mk (by omega)|exact dct (by first|assumption|omega)|exact dcf (by first|assumption|omega)|exact List.not_mem_nil|apply dc_length|exact nm1 (by omega)|fail))|fail) ?_)
  rw [ediv]
  have hA : ∃ a2 c2, (∀ w', Kp [] w w' → ∀ b2 off, a2 = some ⟨b2, off, none⟩ → r.map bv ≠ [] → Row w' b2 off (r.map bv)) ∧ (r ≠ [] → ∃ b2 off, a2 = some ⟨b2, off, none⟩) ∧ (a2 = none ∨ ∃ b2 off, a2 = some (⟨b2, off, none⟩ : Addr)) ∧
      (∀ (S : List Nat) (w0 : World) (F : World → Prop) (L : Env) (pos : String) (af : Array Edge), ro L (.tmp 7) = some (.slice a l.length c) → ro L (.tmp 11) = some (.int .i64 ((l.length / 8 * 8 : Nat) : Int)) → Vals Tryz.prog S w0 F L ⟨some 12, .slice 111 (.tmp 7) (some (.tmp 11)) none none, 111, pos, af, none⟩ (.slice a2 r.length c2)) := by
    rcases ha with ⟨rfl, rfl⟩ | ⟨b2, off, rfl⟩
    · have hrn : r = [] := by rw [← hr0]; rfl
      subst hrn
      exact ⟨none, c, fun _ _ _ _ e => absurd e (by simp), fun h => absurd rfl h, Or.inl rfl, fun S w0 F L pos af h1 h2 => vals_fromN (j := 0) h1 h2 (Nat.le_refl _)⟩
    · refine ⟨some ⟨b2, if c = l.length / 8 * 8 then off else off + l.length / 8 * 8 * 1, none⟩, c - l.length / 8 * 8, fun w' hk b3 off3 e hne => ?_, fun _ => ⟨_, _, rfl⟩, Or.inr ⟨_, _, rfl⟩, fun S w0 F L pos af h1 h2 => ?_⟩
      · simp only [Option.some.injEq, Addr.mk.injEq, and_true] at e
        obtain ⟨rfl, rfl⟩ := e
        have hpos : 0 < r.length := by
          cases r with
          | nil => exact absurd rfl hne
          | cons x r => simp
        rw [if_neg (by omega)]
        have := sl_row (hS.kp0 hk) (l.length / 8 * 8) r.length (by omega) hpos
        rwa [hr0, List.take_of_length_le (Nat.le_refl _)] at this
      · rw [hrl]
        exact vals_from (j := l.length / 8 * 8) (rho_of h1) (rho_of h2) (by omega)
  obtain ⟨a2, c2, hA1, hA2, hA3, hA4⟩ := hA
  refine dB rfl rfl rfl (hA4 _ _ _ _ _ _ rfl rfl) ?_
  refine Der.tl (fun w2 hk2 _ _ => ?_)
  refine SG.copy (m := 8) (news := r.map bv) rfl rfl rfl (by exact rho_of rfl) (by rw [List.length_map]; exact rho_of rfl) (hB4.kp0 hk2) (by rw [List.length_map]; omega) (by simp [dc_length]) (allOne_bv r) (hA1 w2 (hk1.trans hk2)) (fun h => hA2 (fun e => h (by rw [e]; rfl))) hA3 (fun w3 hk3 hB3 => ?_)
  have hB3 : Blk w3 b4 (.cells (spl (dc zd) 0 (r.map bv)).toArray 39) := hB3
  rw [cpy_eq hr8] at hB3
  rw [List.length_map]
  repeat (first|apply cA|apply cB|apply cD|apply cE|apply cF|apply cG|apply cH|apply cJ|apply cU|refine cV rfl ?_|apply cY|refine cZ rfl rfl rfl rfl (by first|(apply qi64<;>(first|exact rfl|assumption|exact Ar.mk (by omega)|exact dct (by first|assumption|omega)|exact dcf (by first|assumption|omega)|exact List.not_mem_nil|apply dc_length|exact nm1 (by omega)|fail))|((first|apply qmi|apply qqi|apply qia|apply qfh|apply qsa|apply qaa|apply qmv|apply qas|apply qla|apply qix|apply qls|apply qad|apply qln)<;>(first|exact rfl|assumption|exact Ar.mk (by omega)|exact dct (by first|assumption|omega)|exact dcf (by first|assumption|omega)|exact List.not_mem_nil|apply dc_length|exact nm1 (by omega)|fail))|fail) ?_)
  refine SG.store rfl rfl (by exact rho_of rfl) (by exact rho_of rfl) hB3 rfl (by show 0 + r.length * 1 + 1 ≤ _; simp) rfl (fun w4 hk4 hB5 => ?_)
  have hB5 : Blk w4 b4 (.cells (spl (r.map bv ++ (bv 0 :: List.replicate (7 - r.length) (bv 0))) (0 + r.length * 1) [bv 1]).toArray 39) := hB5
  rw [show 0 + r.length * 1 = r.length from by omega, one_eq] at hB5
  have hrow : Row w4 b4 0 (dc (dpad r hr8)) := Row.all hB5 rfl
  repeat (first|apply cA|apply cB|apply cD|apply cE|apply cF|apply cG|apply cH|apply cJ|apply cU|refine cV rfl ?_|apply cY|refine cZ rfl rfl rfl rfl (by first|(apply qi64<;>(first|exact rfl|assumption|exact Ar.mk (by omega)|exact dct (by first|assumption|omega)|exact dcf (by first|assumption|omega)|exact List.not_mem_nil|apply dc_length|exact nm1 (by omega)|fail))|((first|apply qmi|apply qqi|apply qia|apply qfh|apply qsa|apply qaa|apply qmv|apply qas|apply qla|apply qix|apply qls|apply qad|apply qln)<;>(first|exact rfl|assumption|exact Ar.mk (by omega)|exact dct (by first|assumption|omega)|exact dcf (by first|assumption|omega)|exact List.not_mem_nil|apply dc_length|exact nm1 (by omega)|fail))|fail) ?_)
  refine SG.ret rfl rfl rfl (by repeat' (first | exact True.intro | exact rho_of rfl | refine And.intro ?_ ?_)) (num_spec (dpad r hr8) w4) (fun w5 hk5 => ?_)
  have hBb : Blk w5 b (.cells (hsl s).toArray 108) := ((((hB.kp0 hk1).kp0 hk2).kp hk3 (nm1 (by omega))).kp hk4 (nm1 (by omega))).kp0 hk5
  refine SG.call rfl rfl rfl (by repeat' (first | exact True.intro | exact rho_of rfl | refine And.intro ?_ ?_)) ((take_spec hBb _).mono (fun e w6 hh => ?_))
  obtain ⟨he, hk6, hB6⟩ := hh
  refine ⟨_, he, ?_⟩
  repeat (first|apply cA|apply cB|apply cD|apply cE|apply cF|apply cG|apply cH|apply cJ|apply cU|refine cV rfl ?_|apply cY|refine cZ rfl rfl rfl rfl (by first|(apply qi64<;>(first|exact rfl|assumption|exact Ar.mk (by omega)|exact dct (by first|assumption|omega)|exact dcf (by first|assumption|omega)|exact List.not_mem_nil|apply dc_length|exact nm1 (by omega)|fail))|((first|apply qmi|apply qqi|apply qia|apply qfh|apply qsa|apply qaa|apply qmv|apply qas|apply qla|apply qix|apply qls|apply qad|apply qln)<;>(first|exact rfl|assumption|exact Ar.mk (by omega)|exact dct (by first|assumption|omega)|exact dcf (by first|assumption|omega)|exact List.not_mem_nil|apply dc_length|exact nm1 (by omega)|fail))|fail) ?_)
  refine SG.call rfl rfl rfl (by repeat' (first | exact True.intro | exact rho_of rfl | refine And.intro ?_ ?_)) ((take_spec hB6 _).mono (fun e w7 hh => ?_))
  obtain ⟨he, hk7, hB7⟩ := hh
  refine ⟨_, he, ?_⟩
  repeat (first|apply cA|apply cB|apply cD|apply cE|apply cF|apply cG|apply cH|apply cJ|apply cU|refine cV rfl ?_|apply cY|refine cZ rfl rfl rfl rfl (by first|(apply qi64<;>(first|exact rfl|assumption|exact Ar.mk (by omega)|exact dct (by first|assumption|omega)|exact dcf (by first|assumption|omega)|exact List.not_mem_nil|apply dc_length|exact nm1 (by omega)|fail))|((first|apply qmi|apply qqi|apply qia|apply qfh|apply qsa|apply qaa|apply qmv|apply qas|apply qla|apply qix|apply qls|apply qad|apply qln)<;>(first|exact rfl|assumption|exact Ar.mk (by omega)|exact dct (by first|assumption|omega)|exact dcf (by first|assumption|omega)|exact List.not_mem_nil|apply dc_length|exact nm1 (by omega)|fail))|fail) ?_)
  refine ret0 (Or.inr rfl) Tryz.results102 ?_
  have hnum : num (dpad r hr8) = val (r ++ [1]) := pad_val r
  rw [hnum] at hB7
  have k4 : Kp [] w w4 := ((hk1.trans hk2).trans_new hk3 (new1 hb4)).trans_new hk4 (new1 hb4)
  exact ⟨rfl, ((k4.trans hk5).any.trans hk6).trans hk7, hB7⟩
set_option maxHeartbeats 8000000 in
theorem bytes_spec {w : World} {b : Nat} {s : Hs} {a : Option Addr} {c : Nat} {l : List UInt8} (hB : Blk w b (.cells (hsl s).toArray 108)) (hS : Sl by1 1 w a l) (ha : l = [] ∧ a = none ∨ ∃ b2 off, a = some ⟨b2, off, none⟩) (hab : ∀ b2 off, a = some ⟨b2, off, none⟩ → b2 ≠ b) (hl : l.length ≤ 1000000000) (hc : l.length ≤ c) :
    Calls Tryz.prog 93 #[.pointer (some ⟨b, 0, none⟩), .slice a l.length c] w (fun e w' => e = .returned (.tuple #[]) ∧ Kp [b] w w' ∧ Blk w' b (.cells (hsl (bytesI s l)).toArray 108)) := by
  refine enter2 Tryz.func93 rfl Tryz.ntmps93 rfl ?_
  repeat (first|apply cA|apply cB|apply cD|apply cE|apply cF|apply cG|apply cH|apply cJ|apply cU|refine cV rfl ?_|apply cY|refine cZ rfl rfl rfl rfl (by first|(apply qi64<;>(first|exact rfl|assumption|exact Ar.mk (by omega)|exact dct (by first|assumption|omega)|exact dcf (by first|assumption|omega)|exact List.not_mem_nil|apply dc_length|exact nm1 (by omega)|fail))|((first|apply qmi|apply qqi|apply qia|apply qfh|apply qsa|apply qaa|apply qmv|apply qas|apply qla|apply qix|apply qls|apply qad|apply qln)<;>(first|exact rfl|assumption|exact Ar.mk (by omega)|exact dct (by first|assumption|omega)|exact dcf (by first|assumption|omega)|exact List.not_mem_nil|apply dc_length|exact nm1 (by omega)|fail))|fail) ?_)
  refine SG.call rfl rfl rfl (by repeat' (first | exact True.intro | exact rho_of rfl | refine And.intro ?_ ?_)) ((whole_spec hB hS hab hl hc).mono (fun e w1 hh => ?_))
  obtain ⟨he, hk1, hB1⟩ := hh
  refine ⟨_, he, ?_⟩
  repeat (first|apply cA|apply cB|apply cD|apply cE|apply cF|apply cG|apply cH|apply cJ|apply cU|refine cV rfl ?_|apply cY|refine cZ rfl rfl rfl rfl (by first|(apply qi64<;>(first|exact rfl|assumption|exact Ar.mk (by omega)|exact dct (by first|assumption|omega)|exact dcf (by first|assumption|omega)|exact List.not_mem_nil|apply dc_length|exact nm1 (by omega)|fail))|((first|apply qmi|apply qqi|apply qia|apply qfh|apply qsa|apply qaa|apply qmv|apply qas|apply qla|apply qix|apply qls|apply qad|apply qln)<;>(first|exact rfl|assumption|exact Ar.mk (by omega)|exact dct (by first|assumption|omega)|exact dcf (by first|assumption|omega)|exact List.not_mem_nil|apply dc_length|exact nm1 (by omega)|fail))|fail) ?_)
  refine SG.call rfl rfl rfl (by repeat' (first | exact True.intro | exact rho_of rfl | refine And.intro ?_ ?_)) ((end_spec hB1 (hS.kp hk1 (fun b2 off e => nm1 (hab b2 off e))) ha hab hl hc).mono (fun e w2 hh => ?_))
  obtain ⟨he, hk2, hB2⟩ := hh
  refine ⟨_, he, ?_⟩
  repeat (first|apply cA|apply cB|apply cD|apply cE|apply cF|apply cG|apply cH|apply cJ|apply cU|refine cV rfl ?_|apply cY|refine cZ rfl rfl rfl rfl (by first|(apply qi64<;>(first|exact rfl|assumption|exact Ar.mk (by omega)|exact dct (by first|assumption|omega)|exact dcf (by first|assumption|omega)|exact List.not_mem_nil|apply dc_length|exact nm1 (by omega)|fail))|((first|apply qmi|apply qqi|apply qia|apply qfh|apply qsa|apply qaa|apply qmv|apply qas|apply qla|apply qix|apply qls|apply qad|apply qln)<;>(first|exact rfl|assumption|exact Ar.mk (by omega)|exact dct (by first|assumption|omega)|exact dcf (by first|assumption|omega)|exact List.not_mem_nil|apply dc_length|exact nm1 (by omega)|fail))|fail) ?_)
  refine ret0 (Or.inr rfl) Tryz.results93 ?_
  exact ⟨rfl, hk1.trans hk2, hB2⟩
set_option maxHeartbeats 8000000 in
theorem of_spec {w : World} {a : Option Addr} {c : Nat} {l : List UInt8} (hS : Sl by1 1 w a l) (ha : l = [] ∧ a = none ∨ ∃ b2 off, a = some ⟨b2, off, none⟩) (hab : ∀ b2 off, a = some ⟨b2, off, none⟩ → b2 < w.heap.size) (hl : l.length ≤ 1000000000) (hc : l.length ≤ c) :
    Ret Tryz.prog 72 #[.slice a l.length c] w (dv (ofI l)) := by
  refine enter1 Tryz.func72 rfl Tryz.ntmps72 rfl ?_
  repeat (first|apply cA|apply cB|apply cD|apply cE|apply cF|apply cG|apply cH|apply cJ|apply cU|refine cV rfl ?_|apply cY|refine cZ rfl rfl rfl rfl (by first|(apply qi64<;>(first|exact rfl|assumption|exact Ar.mk (by omega)|exact dct (by first|assumption|omega)|exact dcf (by first|assumption|omega)|exact List.not_mem_nil|apply dc_length|exact nm1 (by omega)|fail))|((first|apply qmi|apply qqi|apply qia|apply qfh|apply qsa|apply qaa|apply qmv|apply qas|apply qla|apply qix|apply qls|apply qad|apply qln)<;>(first|exact rfl|assumption|exact Ar.mk (by omega)|exact dct (by first|assumption|omega)|exact dcf (by first|assumption|omega)|exact List.not_mem_nil|apply dc_length|exact nm1 (by omega)|fail))|fail) ?_)
  refine SG.alloc rfl rfl rfl (fun b2 w1 hk1 hb2 hB2 => ?_)
  have hB2 : Blk w1 b2 (.cells (dc zd).toArray 39) := hB2
  have hl2 := hB2.lt
  repeat (first|apply cA|apply cB|apply cD|apply cE|apply cF|apply cG|apply cH|apply cJ|apply cU|refine cV rfl ?_|apply cY|refine cZ rfl rfl rfl rfl (by first|(apply qi64<;>(first|exact rfl|assumption|exact Ar.mk (by omega)|exact dct (by first|assumption|omega)|exact dcf (by first|assumption|omega)|exact List.not_mem_nil|apply dc_length|exact nm1 (by omega)|fail))|((first|apply qmi|apply qqi|apply qia|apply qfh|apply qsa|apply qaa|apply qmv|apply qas|apply qla|apply qix|apply qls|apply qad|apply qln)<;>(first|exact rfl|assumption|exact Ar.mk (by omega)|exact dct (by first|assumption|omega)|exact dcf (by first|assumption|omega)|exact List.not_mem_nil|apply dc_length|exact nm1 (by omega)|fail))|fail) ?_)
  refine SG.ret rfl rfl rfl (by repeat' (first | exact True.intro | exact rho_of rfl | refine And.intro ?_ ?_)) (begin_spec 1 w1) (fun w2 hk2 => ?_)
  refine SG.alloc rfl rfl rfl (fun b3 w3 hk3 hb3 hB3 => ?_)
  have hB3 : Blk w3 b3 (.cells (hsl ⟨0, 0, 0, 0⟩).toArray 108) := hB3
  refine SG.setAll (old := hsl ⟨0, 0, 0, 0⟩) (l := hsl (beginI 1)) rfl rfl (by exact rho_of rfl) (by exact rho_of rfl) hB3 rfl rfl rfl (fun w4 hk4 hB4 => ?_)
  have s1 := hk1.size
  have s2 := hk2.size
  have s3 := hk3.size
  have k3 : Kp [] w w3 := (hk1.trans hk2).trans hk3
  have k4 : Kp [] w w4 := k3.trans_new hk4 (new1 (by omega))
  repeat (first|apply cA|apply cB|apply cD|apply cE|apply cF|apply cG|apply cH|apply cJ|apply cU|refine cV rfl ?_|apply cY|refine cZ rfl rfl rfl rfl (by first|(apply qi64<;>(first|exact rfl|assumption|exact Ar.mk (by omega)|exact dct (by first|assumption|omega)|exact dcf (by first|assumption|omega)|exact List.not_mem_nil|apply dc_length|exact nm1 (by omega)|fail))|((first|apply qmi|apply qqi|apply qia|apply qfh|apply qsa|apply qaa|apply qmv|apply qas|apply qla|apply qix|apply qls|apply qad|apply qln)<;>(first|exact rfl|assumption|exact Ar.mk (by omega)|exact dct (by first|assumption|omega)|exact dcf (by first|assumption|omega)|exact List.not_mem_nil|apply dc_length|exact nm1 (by omega)|fail))|fail) ?_)
  refine SG.call rfl rfl rfl (by repeat' (first | exact True.intro | exact rho_of rfl | refine And.intro ?_ ?_)) ((bytes_spec hB4 (hS.kp0 k4) ha (fun b5 off e => by have := hab b5 off e; omega) hl hc).mono (fun e w5 hh => ?_))
  obtain ⟨he, hk5, hB5⟩ := hh
  refine ⟨_, he, ?_⟩
  repeat (first|apply cA|apply cB|apply cD|apply cE|apply cF|apply cG|apply cH|apply cJ|apply cU|refine cV rfl ?_|apply cY|refine cZ rfl rfl rfl rfl (by first|(apply qi64<;>(first|exact rfl|assumption|exact Ar.mk (by omega)|exact dct (by first|assumption|omega)|exact dcf (by first|assumption|omega)|exact List.not_mem_nil|apply dc_length|exact nm1 (by omega)|fail))|((first|apply qmi|apply qqi|apply qia|apply qfh|apply qsa|apply qaa|apply qmv|apply qas|apply qla|apply qix|apply qls|apply qad|apply qln)<;>(first|exact rfl|assumption|exact Ar.mk (by omega)|exact dct (by first|assumption|omega)|exact dcf (by first|assumption|omega)|exact List.not_mem_nil|apply dc_length|exact nm1 (by omega)|fail))|fail) ?_)
  refine SG.ret rfl rfl rfl (by repeat' (first | exact True.intro | exact rho_of rfl | refine And.intro ?_ ?_)) (gives_spec hB5) (fun w6 hk6 => ?_)
  refine SG.setAll (old := dc zd) (l := dc (ofI l)) rfl rfl (by exact rho_of rfl) (by exact rho_of rfl) (((((hB2.kp0 hk2).kp0 hk3).kp hk4 (nm1 (by omega))).kp hk5 (nm1 (by omega))).kp0 hk6) (dc_length _) (dc_length _) (dc_one _) (fun w7 hk7 hB7 => ?_)
  have hr4 : Row w7 b2 0 (dc (ofI l)) := Row.all hB7 rfl
  repeat (first|apply cA|apply cB|apply cD|apply cE|apply cF|apply cG|apply cH|apply cJ|apply cU|refine cV rfl ?_|apply cY|refine cZ rfl rfl rfl rfl (by first|(apply qi64<;>(first|exact rfl|assumption|exact Ar.mk (by omega)|exact dct (by first|assumption|omega)|exact dcf (by first|assumption|omega)|exact List.not_mem_nil|apply dc_length|exact nm1 (by omega)|fail))|((first|apply qmi|apply qqi|apply qia|apply qfh|apply qsa|apply qaa|apply qmv|apply qas|apply qla|apply qix|apply qls|apply qad|apply qln)<;>(first|exact rfl|assumption|exact Ar.mk (by omega)|exact dct (by first|assumption|omega)|exact dcf (by first|assumption|omega)|exact List.not_mem_nil|apply dc_length|exact nm1 (by omega)|fail))|fail) ?_)
  refine ret1 (Or.inl rfl) Tryz.results72 (by first | exact ResV.tmp rfl | exact ResV.agg rfl rfl (by assumption) (by first | exact dc_length _ | exact nc_length _ | exact rc_length _ _ _ | exact ec_length _ | exact dl_length _ _ _ _ | rfl) | exact ResV.cell rfl rfl (by assumption)) ?_
  exact ⟨rfl, ((k4.trans_new hk5 (new1 (by omega))).trans hk6).trans_new hk7 (new1 hb2)⟩
set_option maxHeartbeats 8000000 in
theorem two_spec (x y : Dg) (w : World) : Ret Tryz.prog 42 #[dv x, dv y] w (dv (twoI x y)) := by
  refine enter2 Tryz.func42 rfl Tryz.ntmps42 rfl ?_
  repeat (first|apply cA|apply cB|apply cD|apply cE|apply cF|apply cG|apply cH|apply cJ|apply cU|refine cV rfl ?_|apply cY|refine cZ rfl rfl rfl rfl (by first|(apply qi64<;>(first|exact rfl|assumption|exact Ar.mk (by omega)|exact dct (by first|assumption|omega)|exact dcf (by first|assumption|omega)|exact List.not_mem_nil|apply dc_length|exact nm1 (by omega)|fail))|((first|apply qmi|apply qqi|apply qia|apply qfh|apply qsa|apply qaa|apply qmv|apply qas|apply qla|apply qix|apply qls|apply qad|apply qln)<;>(first|exact rfl|assumption|exact Ar.mk (by omega)|exact dct (by first|assumption|omega)|exact dcf (by first|assumption|omega)|exact List.not_mem_nil|apply dc_length|exact nm1 (by omega)|fail))|fail) ?_)
  refine SG.box rfl rfl rfl (by exact rho_of rfl) (fun bx wa hka hbx hBx => ?_)
  have hBx : Blk wa bx (.cells (dc x).toArray 39) := hBx
  refine SG.box rfl rfl rfl (by exact rho_of rfl) (fun by' wb hkb hby hBy => ?_)
  have hBy : Blk wb by' (.cells (dc y).toArray 39) := hBy
  refine SG.alloc rfl rfl rfl (fun b2 w1 hk1 hb2 hB2 => ?_)
  have hB2 : Blk w1 b2 (.cells (dc zd).toArray 39) := hB2
  have hl2 := hB2.lt
  have hlx := hBx.lt
  have hly := hBy.lt
  repeat (first|apply cA|apply cB|apply cD|apply cE|apply cF|apply cG|apply cH|apply cJ|apply cU|refine cV rfl ?_|apply cY|refine cZ rfl rfl rfl rfl (by first|(apply qi64<;>(first|exact rfl|assumption|exact Ar.mk (by omega)|exact dct (by first|assumption|omega)|exact dcf (by first|assumption|omega)|exact List.not_mem_nil|apply dc_length|exact nm1 (by omega)|fail))|((first|apply qmi|apply qqi|apply qia|apply qfh|apply qsa|apply qaa|apply qmv|apply qas|apply qla|apply qix|apply qls|apply qad|apply qln)<;>(first|exact rfl|assumption|exact Ar.mk (by omega)|exact dct (by first|assumption|omega)|exact dcf (by first|assumption|omega)|exact List.not_mem_nil|apply dc_length|exact nm1 (by omega)|fail))|fail) ?_)
  refine SG.ret rfl rfl rfl (by repeat' (first | exact True.intro | exact rho_of rfl | refine And.intro ?_ ?_)) (begin_spec 3 w1) (fun w2 hk2 => ?_)
  refine SG.alloc rfl rfl rfl (fun b3 w3 hk3 hb3 hB3 => ?_)
  have hB3 : Blk w3 b3 (.cells (hsl ⟨0, 0, 0, 0⟩).toArray 108) := hB3
  refine SG.setAll (old := hsl ⟨0, 0, 0, 0⟩) (l := hsl (beginI 3)) rfl rfl (by exact rho_of rfl) (by exact rho_of rfl) hB3 rfl rfl rfl (fun w4 hk4 hB4 => ?_)
  have sa := hka.size
  have sb := hkb.size
  have s1 := hk1.size
  have s2 := hk2.size
  have s3 := hk3.size
  have k3 : Kp [] w w3 := (((hka.trans hkb).trans hk1).trans hk2).trans hk3
  have k4 : Kp [] w w4 := k3.trans_new hk4 (new1 (by omega))
  have rx : Row w4 bx 0 (dc x) := ((Row.all hBx rfl).kp0 (((hkb.trans hk1).trans hk2).trans hk3)).kp hk4 (nm1 (by omega))
  have ry : Row w4 by' 0 (dc y) := ((Row.all hBy rfl).kp0 ((hk1.trans hk2).trans hk3)).kp hk4 (nm1 (by omega))
  repeat (first|apply cA|apply cB|apply cD|apply cE|apply cF|apply cG|apply cH|apply cJ|apply cU|refine cV rfl ?_|apply cY|refine cZ rfl rfl rfl rfl (by first|(apply qi64<;>(first|exact rfl|assumption|exact Ar.mk (by omega)|exact dct (by first|assumption|omega)|exact dcf (by first|assumption|omega)|exact List.not_mem_nil|apply dc_length|exact nm1 (by omega)|fail))|((first|apply qmi|apply qqi|apply qia|apply qfh|apply qsa|apply qaa|apply qmv|apply qas|apply qla|apply qix|apply qls|apply qad|apply qln)<;>(first|exact rfl|assumption|exact Ar.mk (by omega)|exact dct (by first|assumption|omega)|exact dcf (by first|assumption|omega)|exact List.not_mem_nil|apply dc_length|exact nm1 (by omega)|fail))|fail) ?_)
  refine SG.ret rfl rfl rfl (by repeat' (first | exact True.intro | exact rho_of rfl | refine And.intro ?_ ?_)) (num_spec x w4) (fun w5 hk5 => ?_)
  refine SG.call rfl rfl rfl (by repeat' (first | exact True.intro | exact rho_of rfl | refine And.intro ?_ ?_)) ((take_spec (hB4.kp0 hk5) _).mono (fun e w6 hh => ?_))
  obtain ⟨he, hk6, hB6⟩ := hh
  refine ⟨_, he, ?_⟩
  have ry : Row w6 by' 0 (dc y) := (ry.kp0 hk5).kp hk6 (nm1 (by omega))
  repeat (first|apply cA|apply cB|apply cD|apply cE|apply cF|apply cG|apply cH|apply cJ|apply cU|refine cV rfl ?_|apply cY|refine cZ rfl rfl rfl rfl (by first|(apply qi64<;>(first|exact rfl|assumption|exact Ar.mk (by omega)|exact dct (by first|assumption|omega)|exact dcf (by first|assumption|omega)|exact List.not_mem_nil|apply dc_length|exact nm1 (by omega)|fail))|((first|apply qmi|apply qqi|apply qia|apply qfh|apply qsa|apply qaa|apply qmv|apply qas|apply qla|apply qix|apply qls|apply qad|apply qln)<;>(first|exact rfl|assumption|exact Ar.mk (by omega)|exact dct (by first|assumption|omega)|exact dcf (by first|assumption|omega)|exact List.not_mem_nil|apply dc_length|exact nm1 (by omega)|fail))|fail) ?_)
  refine SG.ret rfl rfl rfl (by repeat' (first | exact True.intro | exact rho_of rfl | refine And.intro ?_ ?_)) (num_spec y w6) (fun w7 hk7 => ?_)
  refine SG.call rfl rfl rfl (by repeat' (first | exact True.intro | exact rho_of rfl | refine And.intro ?_ ?_)) ((take_spec (hB6.kp0 hk7) _).mono (fun e w8 hh => ?_))
  obtain ⟨he, hk8, hB8⟩ := hh
  refine ⟨_, he, ?_⟩
  repeat (first|apply cA|apply cB|apply cD|apply cE|apply cF|apply cG|apply cH|apply cJ|apply cU|refine cV rfl ?_|apply cY|refine cZ rfl rfl rfl rfl (by first|(apply qi64<;>(first|exact rfl|assumption|exact Ar.mk (by omega)|exact dct (by first|assumption|omega)|exact dcf (by first|assumption|omega)|exact List.not_mem_nil|apply dc_length|exact nm1 (by omega)|fail))|((first|apply qmi|apply qqi|apply qia|apply qfh|apply qsa|apply qaa|apply qmv|apply qas|apply qla|apply qix|apply qls|apply qad|apply qln)<;>(first|exact rfl|assumption|exact Ar.mk (by omega)|exact dct (by first|assumption|omega)|exact dcf (by first|assumption|omega)|exact List.not_mem_nil|apply dc_length|exact nm1 (by omega)|fail))|fail) ?_)
  refine SG.ret rfl rfl rfl (by repeat' (first | exact True.intro | exact rho_of rfl | refine And.intro ?_ ?_)) (gives_spec hB8) (fun w9 hk9 => ?_)
  refine SG.setAll (old := dc zd) (l := dc (twoI x y)) rfl rfl (by exact rho_of rfl) (by exact rho_of rfl) ((((((((hB2.kp0 hk2).kp0 hk3).kp hk4 (nm1 (by omega))).kp0 hk5).kp hk6 (nm1 (by omega))).kp0 hk7).kp hk8 (nm1 (by omega))).kp0 hk9) (dc_length _) (dc_length _) (dc_one _) (fun wz hkz hBz => ?_)
  have hr4 : Row wz b2 0 (dc (twoI x y)) := Row.all hBz rfl
  repeat (first|apply cA|apply cB|apply cD|apply cE|apply cF|apply cG|apply cH|apply cJ|apply cU|refine cV rfl ?_|apply cY|refine cZ rfl rfl rfl rfl (by first|(apply qi64<;>(first|exact rfl|assumption|exact Ar.mk (by omega)|exact dct (by first|assumption|omega)|exact dcf (by first|assumption|omega)|exact List.not_mem_nil|apply dc_length|exact nm1 (by omega)|fail))|((first|apply qmi|apply qqi|apply qia|apply qfh|apply qsa|apply qaa|apply qmv|apply qas|apply qla|apply qix|apply qls|apply qad|apply qln)<;>(first|exact rfl|assumption|exact Ar.mk (by omega)|exact dct (by first|assumption|omega)|exact dcf (by first|assumption|omega)|exact List.not_mem_nil|apply dc_length|exact nm1 (by omega)|fail))|fail) ?_)
  refine ret1 (Or.inl rfl) Tryz.results42 (by first | exact ResV.tmp rfl | exact ResV.agg rfl rfl (by assumption) (by first | exact dc_length _ | exact nc_length _ | exact rc_length _ _ _ | exact ec_length _ | exact dl_length _ _ _ _ | rfl) | exact ResV.cell rfl rfl (by assumption)) ?_
  exact ⟨rfl, (((((k4.trans hk5).trans_new hk6 (new1 (by omega))).trans hk7).trans_new hk8 (new1 (by omega))).trans hk9).trans_new hkz (new1 (by omega))⟩
set_option maxHeartbeats 8000000 in
theorem many_spec {w : World} {a : Option Addr} {l : List Dg} (c : Nat) (hS : Sl dc 8 w a l) (hab : ∀ b2 off, a = some ⟨b2, off, none⟩ → b2 < w.heap.size) (hl : l.length ≤ 1000000000) :
    Ret Tryz.prog 55 #[.slice a l.length c] w (dv (manyI l)) := by
  refine enter1 Tryz.func55 rfl Tryz.ntmps55 rfl ?_
  repeat (first|apply cA|apply cB|apply cD|apply cE|apply cF|apply cG|apply cH|apply cJ|apply cU|refine cV rfl ?_|apply cY|refine cZ rfl rfl rfl rfl (by first|(apply qi64<;>(first|exact rfl|assumption|exact Ar.mk (by omega)|exact dct (by first|assumption|omega)|exact dcf (by first|assumption|omega)|exact List.not_mem_nil|apply dc_length|exact nm1 (by omega)|fail))|((first|apply qmi|apply qqi|apply qia|apply qfh|apply qsa|apply qaa|apply qmv|apply qas|apply qla|apply qix|apply qls|apply qad|apply qln)<;>(first|exact rfl|assumption|exact Ar.mk (by omega)|exact dct (by first|assumption|omega)|exact dcf (by first|assumption|omega)|exact List.not_mem_nil|apply dc_length|exact nm1 (by omega)|fail))|fail) ?_)
  refine SG.alloc rfl rfl rfl (fun b2 w1 hk1 hb2 hB2 => ?_)
  have hB2 : Blk w1 b2 (.cells (dc zd).toArray 39) := hB2
  have hl2 := hB2.lt
  repeat (first|apply cA|apply cB|apply cD|apply cE|apply cF|apply cG|apply cH|apply cJ|apply cU|refine cV rfl ?_|apply cY|refine cZ rfl rfl rfl rfl (by first|(apply qi64<;>(first|exact rfl|assumption|exact Ar.mk (by omega)|exact dct (by first|assumption|omega)|exact dcf (by first|assumption|omega)|exact List.not_mem_nil|apply dc_length|exact nm1 (by omega)|fail))|((first|apply qmi|apply qqi|apply qia|apply qfh|apply qsa|apply qaa|apply qmv|apply qas|apply qla|apply qix|apply qls|apply qad|apply qln)<;>(first|exact rfl|assumption|exact Ar.mk (by omega)|exact dct (by first|assumption|omega)|exact dcf (by first|assumption|omega)|exact List.not_mem_nil|apply dc_length|exact nm1 (by omega)|fail))|fail) ?_)
  refine SG.ret rfl rfl rfl (by repeat' (first | exact True.intro | exact rho_of rfl | refine And.intro ?_ ?_)) (begin_spec 5 w1) (fun w2 hk2 => ?_)
  refine SG.alloc rfl rfl rfl (fun b3 w3 hk3 hb3 hB3 => ?_)
  have hB3 : Blk w3 b3 (.cells (hsl ⟨0, 0, 0, 0⟩).toArray 108) := hB3
  refine SG.setAll (old := hsl ⟨0, 0, 0, 0⟩) (l := hsl (beginI 5)) rfl rfl (by exact rho_of rfl) (by exact rho_of rfl) hB3 rfl rfl rfl (fun w4 hk4 hB4 => ?_)
  have s1 := hk1.size
  have s2 := hk2.size
  have s3 := hk3.size
  have k3 : Kp [] w w3 := (hk1.trans hk2).trans hk3
  have k4 : Kp [] w w4 := k3.trans_new hk4 (new1 (by omega))
  have hlb3 := hB3.lt
  have s4 := hk4.size
  have hB24 : Blk w4 b2 (.cells (dc zd).toArray 39) := ((hB2.kp0 hk2).kp0 hk3).kp hk4 (nm1 (by omega))
  repeat (first|apply cA|apply cB|apply cD|apply cE|apply cF|apply cG|apply cH|apply cJ|apply cU|refine cV rfl ?_|apply cY|refine cZ rfl rfl rfl rfl (by first|(apply qi64<;>(first|exact rfl|assumption|exact Ar.mk (by omega)|exact dct (by first|assumption|omega)|exact dcf (by first|assumption|omega)|exact List.not_mem_nil|apply dc_length|exact nm1 (by omega)|fail))|((first|apply qmi|apply qqi|apply qia|apply qfh|apply qsa|apply qaa|apply qmv|apply qas|apply qla|apply qix|apply qls|apply qad|apply qln)<;>(first|exact rfl|assumption|exact Ar.mk (by omega)|exact dct (by first|assumption|omega)|exact dcf (by first|assumption|omega)|exact List.not_mem_nil|apply dc_length|exact nm1 (by omega)|fail))|fail) ?_)
  refine CG.loop (X := Nat) (fun i => [(0, .slice a l.length c), (2, .pointer (some ⟨b2, 0, none⟩)), (3, .pointer (some ⟨b3, 0, none⟩)), (7, .slice a l.length c), (8, .int .i64 (l.length : Int)), (9, .int .i64 (i : Int))])
    (fun i w' => i ≤ l.length ∧ Kp [] w w' ∧ w4.heap.size ≤ w'.heap.size ∧ Blk w' b3 (.cells (hsl (manyS (beginI 5) (l.take i))).toArray 108) ∧ Blk w' b2 (.cells (dc zd).toArray 39)) (fun i => l.length - i) 0 ⟨by omega, k4, Nat.le_refl _, by simpa [manyS] using hB4, hB24⟩ (by (repeat' (first | exact True.intro | exact rfl | refine And.intro ?_ ?_))) ?_
  rintro i w5 ⟨hi, k5, s5, hB5, hB25⟩
  by_cases hlt : i < l.length
  · have g1 : (i : Int) < (l.length : Int) := by omega
    obtain ⟨ba, off, rfl, hrow⟩ := (hS.kp0 k5).at hlt
    repeat (first|apply cA|apply cB|apply cD|apply cE|apply cF|apply cG|apply cH|apply cJ|apply cU|refine cV rfl ?_|apply cY|refine cZ rfl rfl rfl rfl (by first|(apply qi64<;>(first|exact rfl|assumption|exact Ar.mk (by omega)|exact dct (by first|assumption|omega)|exact dcf (by first|assumption|omega)|exact List.not_mem_nil|apply dc_length|exact nm1 (by omega)|fail))|((first|apply qmi|apply qqi|apply qia|apply qfh|apply qsa|apply qaa|apply qmv|apply qas|apply qla|apply qix|apply qls|apply qad|apply qln)<;>(first|exact rfl|assumption|exact Ar.mk (by omega)|exact dct (by first|assumption|omega)|exact dcf (by first|assumption|omega)|exact List.not_mem_nil|apply dc_length|exact nm1 (by omega)|fail))|fail) ?_)
    refine dD rfl (by exact rho_of rfl) rfl ?_
    repeat (first|apply cA|apply cB|apply cD|apply cE|apply cF|apply cG|apply cH|apply cJ|apply cU|refine cV rfl ?_|apply cY|refine cZ rfl rfl rfl rfl (by first|(apply qi64<;>(first|exact rfl|assumption|exact Ar.mk (by omega)|exact dct (by first|assumption|omega)|exact dcf (by first|assumption|omega)|exact List.not_mem_nil|apply dc_length|exact nm1 (by omega)|fail))|((first|apply qmi|apply qqi|apply qia|apply qfh|apply qsa|apply qaa|apply qmv|apply qas|apply qla|apply qix|apply qls|apply qad|apply qln)<;>(first|exact rfl|assumption|exact Ar.mk (by omega)|exact dct (by first|assumption|omega)|exact dcf (by first|assumption|omega)|exact List.not_mem_nil|apply dc_length|exact nm1 (by omega)|fail))|fail) ?_)
    refine SG.alloc rfl rfl rfl (fun b6 w6 hk6 hb6 hB6 => ?_)
    have hB6 : Blk w6 b6 (.cells (dc zd).toArray 39) := hB6
    refine SG.setAll (old := dc zd) (l := dc l[i]) rfl rfl (by exact rho_of rfl) (by exact rho_of rfl) hB6 (dc_length _) (dc_length _) (dc_one _) (fun w7 hk7 hB7 => ?_)
    have hr7 : Row w7 b6 0 (dc l[i]) := Row.all hB7 rfl
    have l5 := hB5.lt
    have l25 := hB25.lt
    repeat (first|apply cA|apply cB|apply cD|apply cE|apply cF|apply cG|apply cH|apply cJ|apply cU|refine cV rfl ?_|apply cY|refine cZ rfl rfl rfl rfl (by first|(apply qi64<;>(first|exact rfl|assumption|exact Ar.mk (by omega)|exact dct (by first|assumption|omega)|exact dcf (by first|assumption|omega)|exact List.not_mem_nil|apply dc_length|exact nm1 (by omega)|fail))|((first|apply qmi|apply qqi|apply qia|apply qfh|apply qsa|apply qaa|apply qmv|apply qas|apply qla|apply qix|apply qls|apply qad|apply qln)<;>(first|exact rfl|assumption|exact Ar.mk (by omega)|exact dct (by first|assumption|omega)|exact dcf (by first|assumption|omega)|exact List.not_mem_nil|apply dc_length|exact nm1 (by omega)|fail))|fail) ?_)
    refine SG.ret rfl rfl rfl (by repeat' (first | exact True.intro | exact rho_of rfl | refine And.intro ?_ ?_)) (num_spec l[i] w7) (fun w8 hk8 => ?_)
    refine SG.call rfl rfl rfl (by repeat' (first | exact True.intro | exact rho_of rfl | refine And.intro ?_ ?_)) ((take_spec (((hB5.kp0 hk6).kp hk7 (nm1 (by omega))).kp0 hk8) _).mono (fun e w9 hh => ?_))
    obtain ⟨he, hk9, hB9⟩ := hh
    refine ⟨_, he, ?_⟩
    repeat (first|apply cA|apply cB|apply cD|apply cE|apply cF|apply cG|apply cH|apply cJ|apply cU|refine cV rfl ?_|apply cY|refine cZ rfl rfl rfl rfl (by first|(apply qi64<;>(first|exact rfl|assumption|exact Ar.mk (by omega)|exact dct (by first|assumption|omega)|exact dcf (by first|assumption|omega)|exact List.not_mem_nil|apply dc_length|exact nm1 (by omega)|fail))|((first|apply qmi|apply qqi|apply qia|apply qfh|apply qsa|apply qaa|apply qmv|apply qas|apply qla|apply qix|apply qls|apply qad|apply qln)<;>(first|exact rfl|assumption|exact Ar.mk (by omega)|exact dct (by first|assumption|omega)|exact dcf (by first|assumption|omega)|exact List.not_mem_nil|apply dc_length|exact nm1 (by omega)|fail))|fail) ?_)
    have s6 := hk6.size
    have s7 := hk7.size
    have s8 := hk8.size
    have s9 := hk9.size
    refine NG.round (i + 1) (by (repeat' (first | exact True.intro | exact rfl | refine And.intro ?_ ?_))) ⟨by omega, (((k5.trans hk6).trans_new hk7 (new1 (by omega))).trans hk8).trans_new hk9 (new1 (by omega)), by omega, ?_, (((hB25.kp0 hk6).kp hk7 (nm1 (by omega))).kp0 hk8).kp hk9 (nm1 (by omega))⟩ (by omega)
    rw [List.take_succ_eq_append_getElem hlt, manyS_append]
    exact hB9
  · have g1 : ¬ (i : Int) < (l.length : Int) := by omega
    have e8 : i = l.length := by omega
    subst e8
    rw [List.take_of_length_le (Nat.le_refl _)] at hB5
    repeat (first|apply cA|apply cB|apply cD|apply cE|apply cF|apply cG|apply cH|apply cJ|apply cU|refine cV rfl ?_|apply cY|refine cZ rfl rfl rfl rfl (by first|(apply qi64<;>(first|exact rfl|assumption|exact Ar.mk (by omega)|exact dct (by first|assumption|omega)|exact dcf (by first|assumption|omega)|exact List.not_mem_nil|apply dc_length|exact nm1 (by omega)|fail))|((first|apply qmi|apply qqi|apply qia|apply qfh|apply qsa|apply qaa|apply qmv|apply qas|apply qla|apply qix|apply qls|apply qad|apply qln)<;>(first|exact rfl|assumption|exact Ar.mk (by omega)|exact dct (by first|assumption|omega)|exact dcf (by first|assumption|omega)|exact List.not_mem_nil|apply dc_length|exact nm1 (by omega)|fail))|fail) ?_)
    refine dE rfl (by exact rho_of rfl) rfl ?_
    repeat (first|apply cA|apply cB|apply cD|apply cE|apply cF|apply cG|apply cH|apply cJ|apply cU|refine cV rfl ?_|apply cY|refine cZ rfl rfl rfl rfl (by first|(apply qi64<;>(first|exact rfl|assumption|exact Ar.mk (by omega)|exact dct (by first|assumption|omega)|exact dcf (by first|assumption|omega)|exact List.not_mem_nil|apply dc_length|exact nm1 (by omega)|fail))|((first|apply qmi|apply qqi|apply qia|apply qfh|apply qsa|apply qaa|apply qmv|apply qas|apply qla|apply qix|apply qls|apply qad|apply qln)<;>(first|exact rfl|assumption|exact Ar.mk (by omega)|exact dct (by first|assumption|omega)|exact dcf (by first|assumption|omega)|exact List.not_mem_nil|apply dc_length|exact nm1 (by omega)|fail))|fail) ?_)
    refine SG.call rfl rfl rfl (by repeat' (first | exact True.intro | exact rho_of rfl | refine And.intro ?_ ?_)) ((take_spec hB5 _).mono (fun e w6 hh => ?_))
    obtain ⟨he, hk6, hB6⟩ := hh
    refine ⟨_, he, ?_⟩
    repeat (first|apply cA|apply cB|apply cD|apply cE|apply cF|apply cG|apply cH|apply cJ|apply cU|refine cV rfl ?_|apply cY|refine cZ rfl rfl rfl rfl (by first|(apply qi64<;>(first|exact rfl|assumption|exact Ar.mk (by omega)|exact dct (by first|assumption|omega)|exact dcf (by first|assumption|omega)|exact List.not_mem_nil|apply dc_length|exact nm1 (by omega)|fail))|((first|apply qmi|apply qqi|apply qia|apply qfh|apply qsa|apply qaa|apply qmv|apply qas|apply qla|apply qix|apply qls|apply qad|apply qln)<;>(first|exact rfl|assumption|exact Ar.mk (by omega)|exact dct (by first|assumption|omega)|exact dcf (by first|assumption|omega)|exact List.not_mem_nil|apply dc_length|exact nm1 (by omega)|fail))|fail) ?_)
    refine SG.ret rfl rfl rfl (by repeat' (first | exact True.intro | exact rho_of rfl | refine And.intro ?_ ?_)) (gives_spec hB6) (fun w7 hk7 => ?_)
    refine SG.setAll (old := dc zd) (l := dc (manyI l)) rfl rfl (by exact rho_of rfl) (by exact rho_of rfl) ((hB25.kp hk6 (nm1 (by omega))).kp0 hk7) (dc_length _) (dc_length _) (dc_one _) (fun w8 hk8 hB8 => ?_)
    have hr4 : Row w8 b2 0 (dc (manyI l)) := Row.all hB8 rfl
    repeat (first|apply cA|apply cB|apply cD|apply cE|apply cF|apply cG|apply cH|apply cJ|apply cU|refine cV rfl ?_|apply cY|refine cZ rfl rfl rfl rfl (by first|(apply qi64<;>(first|exact rfl|assumption|exact Ar.mk (by omega)|exact dct (by first|assumption|omega)|exact dcf (by first|assumption|omega)|exact List.not_mem_nil|apply dc_length|exact nm1 (by omega)|fail))|((first|apply qmi|apply qqi|apply qia|apply qfh|apply qsa|apply qaa|apply qmv|apply qas|apply qla|apply qix|apply qls|apply qad|apply qln)<;>(first|exact rfl|assumption|exact Ar.mk (by omega)|exact dct (by first|assumption|omega)|exact dcf (by first|assumption|omega)|exact List.not_mem_nil|apply dc_length|exact nm1 (by omega)|fail))|fail) ?_)
    refine ret1 (Or.inl rfl) Tryz.results55 (by first | exact ResV.tmp rfl | exact ResV.agg rfl rfl (by assumption) (by first | exact dc_length _ | exact nc_length _ | exact rc_length _ _ _ | exact ec_length _ | exact dl_length _ _ _ _ | rfl) | exact ResV.cell rfl rfl (by assumption)) ?_
    exact ⟨rfl, ((k5.trans_new hk6 (new1 (by omega))).trans hk7).trans_new hk8 (new1 (by omega))⟩
end Go.Proofs.YtnoipmimddoioaaGreat
namespace Go.Proofs.YtnoipmimddoioaaGreat
set_option linter.unusedVariables false
section
variable {P : Program} {n : Nat} {ops : List Oper} {Q : Exit → Act → World → Prop} {w : World} {L : Env} {ty : TypeId} {pos : String} {af : Array Edge} {g : Option (Nat × Bool)} {rest : List Oper}
theorem SG.appendW {base : Nat} {t e : TypeId} {i : TypeInfo} [u : Ut P t (.slice e)] [f : Inf P e i] {z : Value} {d : Nat} {s x : Operand} {v : Value} {nn : Nat} {xs : List Value} {b off m c : Nat} {news : List Value}
    (hd : Nat.blt d n = true) (hw : want ops L ⟨some d, .call { callee := .builtin .append, args := #[s, x], argTypes := #[t, t] }, ty, pos, af, g⟩ = some true) (hk : (known L s && known L x) = true)
    (hs : rho L s = v) (hx : rho L x = .slice (some ⟨b, off, none⟩) m c) (hz : i.zero = some z) (hzs : Nat.beq z.cells.size i.size = true) (hsz : Nat.blt 0 i.size = true) (hown : w.ownsRow base e i.size v nn xs) (hr : Row w b off news) (hl : news.length = m * i.size) (h1 : allOne news = true)
    (h63 : nn + m ≤ maxLen) (hbytes : (nn + m) * i.bytes ≤ 140737488355328) (hbase : base ≤ w.heap.size)
    (h : ∀ v' w', Kp (ownB v) w w' → w'.ownsRow base e i.size v' (nn + m) (xs ++ news) → (∀ g, v'.ownBlock = some g → v.ownBlock = some g ∨ g = w.heap.size) → SG P n ops Q rest ((d, v') :: L) w') : SG P n ops Q (⟨some d, .call { callee := .builtin .append, args := #[s, x], argTypes := #[t, t] }, ty, pos, af, g⟩ :: rest) L w := by
  refine SG.op (by simpa using hd) rfl hw (by simpa [Op.operands, Call.operands] using hk) ?_
  unfold OpRun
  obtain ⟨v', w', h2, h3, h4⟩ := run_append (P := P) (ty := ty) (d := .bool) (c := c) (u := u) (f := f) hz (Nat.eq_of_beq_eq_true hzs) (by simpa [Nat.blt_eq] using hsz) hown hl hr h1 h63 hbytes hbase
  have : (execOp (rho L) ⟨some d, .call { callee := .builtin .append, args := #[s, x], argTypes := #[t, t] }, ty, pos, af, g⟩).run P w = .ok (.value v') w' := by
    simp only [execOp, resolve, invoke, builtin, Sem.run_bind, Sem.run_pure, Result.andThen_ok, List.map_toArray, List.map_cons, List.map_nil, hs, hx, h2]
  rw [this]
  exact h v' w' h4 h3 (append_where (u := u) (f := f) hz hown hl hr h1 h63 hbytes h2)
end
/-- Two owned rows lie apart. -/
def Apart (v o : Value) : Prop := ∀ b, v.ownBlock = some b → o.ownBlock ≠ some b
theorem Apart.symm {v o : Value} (h : Apart v o) : Apart o v := fun b h1 h2 => h b h2 h1
theorem Apart.grow {w : World} {base n sz : Nat} {T : TypeId} {v v' o : Value} {xs : List Value} (h : Apart v o) (hw : ∀ g, v'.ownBlock = some g → v.ownBlock = some g ∨ g = w.heap.size) (ho : w.ownsRow base T sz o n xs) : Apart v' o := fun b h1 h2 => by
  rcases hw b h1 with h3 | h3
  · exact h b h3 h2
  · have := (ho.lt b h2).2
    omega
/-- A block of another type is kept. -/
theorem blk_own {w w' : World} {base n sz : Nat} {T T' : TypeId} {v : Value} {xs : List Value} {z : Nat} {cs : Array Value} (ho : w.ownsRow base T sz v n xs) (hT : T' ≠ T) (hz : Blk w z (.cells cs T')) (hk : Kp (ownB v) w w') : Blk w' z (.cells cs T') := hz.kp hk (fun hm => by
  unfold ownB at hm
  cases hv : v.ownBlock with
  | none => rw [hv] at hm; cases hm
  | some g =>
    rw [hv, List.mem_singleton] at hm
    subst hm
    rcases ho.2 with ⟨rfl, _⟩ | ⟨g', cap, cur, rfl, _, hh, _⟩
    · cases hv
    · simp only [Value.ownBlock, Option.some.injEq] at hv
      subst hv
      have := Blk.uniq (o := .cells cs T') (o' := .cells cur T) hz hh
      simp only [Obj.cells.injEq] at this
      exact hT this.2.1)
end Go.Proofs.YtnoipmimddoioaaGreat
namespace Go.Proofs.YtnoipmimddoioaaGreat
set_option linter.unusedVariables false
/-- A string. -/
def sv (l : List UInt8) : Value := .string ⟨l.toArray⟩
section
variable {P : Program} {S : List Nat} {w0 : World} {F : World → Prop} {L : Env} {d : Option Nat} {ty : TypeId} {pos : String} {af : Array Edge} {g : Option (Nat × Bool)}
end
end Go.Proofs.YtnoipmimddoioaaGreat
namespace Go.Proofs.YtnoipmimddoioaaGreat
set_option linter.unusedVariables false
section
variable {P : Program} {n : Nat} {Q : Exit → Act → World → Prop} {L : Env} {w : World} {ops : List Oper} {rest : List Oper} {ty : TypeId} {pos : String} {af : Array Edge} {g : Option (Nat × Bool)}
/-- Nothing is appended. -/
theorem run_app0 {base sz : Nat} {t ty e : TypeId} {i : TypeInfo} [u : Ut P t (.slice e)] [f : Inf P e i] {v : Value} {nn : Nat} {xs : List Value} (hown : w.ownsRow base e sz v nn xs) (a2 : Option Addr) (c2 : Nat) : (Builtin.append_ #[t, t] ty #[v, .slice a2 0 c2]).run P w = .ok v w := by
  rcases hown.2 with ⟨rfl, rfl⟩ | ⟨g, cap, cur, rfl, hbg, hg, hnc, hcm, hcs, htake⟩
  · cases a2 <;> simp [Builtin.append_, run_underlying u.eq, sizeOf, typeInfo, f.eq, Builtin.lenOf, Builtin.firstCells, loadCells, loadCellsFrom]
  · cases a2 <;> simp [Builtin.append_, run_underlying u.eq, sizeOf, typeInfo, f.eq, Builtin.lenOf, Builtin.firstCells, loadCells, loadCellsFrom, hnc, storeCells]
/-- Any slice is appended to an owned row. -/
theorem SG.appO {α : Type} {enc : α → List Value} {base : Nat} {t e : TypeId} {i : TypeInfo} [u : Ut P t (.slice e)] [f : Inf P e i] {z : Value} {d : Nat} {s x : Operand} {v : Value} {xs ys : List α} {a2 : Option Addr} {m c2 : Nat}
    (hd : Nat.blt d n = true) (hw : want ops L ⟨some d, .call { callee := .builtin .append, args := #[s, x], argTypes := #[t, t] }, ty, pos, af, g⟩ = some true) (hk : (known L s && known L x) = true)
    (hs : rho L s = v) (hx : rho L x = .slice a2 m c2) (hm : m = ys.length) (hz : i.zero = some z) (hzs : Nat.beq z.cells.size i.size = true) (hsz : Nat.blt 0 i.size = true) (hel : ∀ x, (enc x).length = i.size) (hone : ∀ x, allOne (enc x) = true) (hown : w.ownsRow base e i.size v xs.length (flt enc xs)) (hS : Sl enc i.size w a2 ys)
    (h63 : xs.length + ys.length ≤ maxLen) (hbytes : (xs.length + ys.length) * i.bytes ≤ 140737488355328) (hbase : base ≤ w.heap.size)
    (h : ∀ v' w', Kp (ownB v) w w' → w'.ownsRow base e i.size v' (xs ++ ys).length (flt enc (xs ++ ys)) → (∀ g, v'.ownBlock = some g → v.ownBlock = some g ∨ g = w.heap.size) → SG P n ops Q rest ((d, v') :: L) w') : SG P n ops Q (⟨some d, .call { callee := .builtin .append, args := #[s, x], argTypes := #[t, t] }, ty, pos, af, g⟩ :: rest) L w := by
  subst hm
  cases ys with
  | nil =>
    refine SG.op (by simpa using hd) rfl hw (by simpa [Op.operands, Call.operands] using hk) ?_
    unfold OpRun
    have : (execOp (rho L) ⟨some d, .call { callee := .builtin .append, args := #[s, x], argTypes := #[t, t] }, ty, pos, af, g⟩).run P w = .ok (.value v) w := by
      simp only [execOp, resolve, invoke, builtin, Sem.run_bind, Sem.run_pure, Result.andThen_ok, List.map_toArray, List.map_cons, List.map_nil, hs, hx]
      have := run_app0 (P := P) (ty := ty) (u := u) (f := f) hown a2 c2
      simp only [List.length_nil]
      rw [this]
      rfl
    rw [this]
    exact h v w (Kp.refl _ _) (by rw [List.append_nil]; exact hown) (fun g hg => Or.inl hg)
  | cons y ys =>
    obtain ⟨b, off, rfl, _⟩ := hS.at (i := 0) (by simp)
    have hr := Sl.flat hel (by simp) hS
    refine SG.appendW hd hw hk hs hx hz hzs hsz hown hr (by rw [flt_length hel]) (flt_all hone _) h63 hbytes hbase (fun v' w' h1 h2 h3 => h v' w' h1 ?_ h3)
    rw [flt_append, List.length_append]
    exact h2
/-- A text is appended to an owned row of bytes. -/
theorem run_appT {base : Nat} {t t2 ty e : TypeId} {i : TypeInfo} [u : Ut P t (.slice e)] [u2 : Ut P t2 .string] [f : Inf P e i] (hz : i.zero = some (.int .u8 0)) (hsize : i.size = 1) (hby : i.bytes = 1) {v : Value} {nn : Nat} {xs : List Value} (hown : w.ownsRow base e 1 v nn xs) (l : List UInt8) (h63 : nn + l.length ≤ 140737488355328) (hbase : base ≤ w.heap.size) :
    ∃ v' w', (Builtin.append_ #[t, t2] ty #[v, sv l]).run P w = .ok v' w' ∧ w'.ownsRow base e 1 v' (nn + l.length) (xs ++ l.map bv) ∧ Kp (ownB v) w w' := by
  have hsz : (⟨l.toArray⟩ : ByteArray).size = l.length := rfl
  have hcells : Go.Lib.strCells ⟨l.toArray⟩ = l.map bv := by simp [Go.Lib.strCells]
  obtain ⟨v', w', hrun, hown', _, _⟩ := Go.Lib.run_append_own_string (P := P) w base t t2 ty e i u.eq u2.eq f.eq hz hsize hby v nn xs hown ⟨l.toArray⟩ (by rw [hsz]; simp only [maxLen]; omega) (by rw [hsz]; exact h63) hbase
  rw [hsz, hcells] at hown'
  refine ⟨v', w', hrun, hown', ?_⟩
  have hxl : xs.length = nn := by simpa using hown.1
  rcases hown.2 with ⟨rfl, rfl⟩ | ⟨g, cap, cur, rfl, hbg, hg, hnc, hcm, hcs, htake⟩
  · by_cases hm : l.length = 0
    · have hn : l = [] := List.eq_nil_of_length_eq_zero hm
      subst hn
      have : (Builtin.append_ #[t, t2] ty #[.slice none 0 0, sv []]).run P w = .ok (.slice none 0 0) w := by
        rw [show sv [] = .string ByteArray.empty from rfl]
        simp [Builtin.append_, run_underlying u.eq, run_underlying u2.eq, sizeOf, typeInfo, f.eq, Builtin.lenOf, Builtin.firstCells]
      unfold sv at this
      rw [this] at hrun
      cases hrun
      exact Kp.refl _ _
    · have hr2 := run_append_nil_string (P := P) w t t2 ty e i (.int .u8 0) u.eq u2.eq f.eq hz ⟨l.toArray⟩ (by rw [hsz]; omega) (by rw [hsz]; omega) (by rw [hby, hsz]; omega)
      rw [hr2] at hrun
      cases hrun
      exact Kp.alloc_drew w _ rfl
  · by_cases hroom : nn + l.length ≤ cap
    · have hcs' : cur.size = cap := by simpa using hcs
      have hr2 := Go.Lib.run_append_room_string (P := P) w t t2 ty e i u.eq u2.eq f.eq hsize g nn cap cur hg ⟨l.toArray⟩ (by rw [hsz]; exact hroom) (by rw [hsz]; omega)
      rw [hr2] at hrun
      cases hrun
      have hgl : g < w.heap.size := (Array.getElem?_eq_some_iff.1 hg).1
      have hset : ∀ (x : Array Value), w.setRow g x = { w with heap := w.heap.setIfInBounds g (.cells x e) } := by
        intro x
        unfold World.setRow
        congr 1
        apply Array.ext_getElem?
        intro j
        rw [Array.getElem?_modify]
        by_cases e1 : g = j
        · subst e1
          rw [if_pos rfl, hg, Array.getElem?_setIfInBounds_self_of_lt hgl]
          simp
        · rw [if_neg e1, Array.getElem?_setIfInBounds_ne e1]
      rw [hset]
      exact Kp.set w (b := g) hg rfl rfl
    · have holds : ∀ j u, xs[j]? = some u → w.cell? ((⟨g, 0, none⟩ : Addr).add j) = some u := hown.cells (g := g) rfl
      have hr2 := Go.Lib.run_append_grow_string (P := P) w t t2 ty e i (.int .u8 0) u.eq u2.eq f.eq hz ⟨g, 0, none⟩ nn cap xs (by rw [hsize]; simpa using hxl) holds ⟨l.toArray⟩ (by rw [hsz]; omega) (by rw [hsz]; omega) (by rw [hby, hsz]; exact growslice_fits (by omega) (by omega))
      rw [hr2] at hrun
      cases hrun
      exact (Kp.alloc_drew w _ rfl).any
theorem SG.appT {base : Nat} {t t2 e : TypeId} {i : TypeInfo} [u : Ut P t (.slice e)] [u2 : Ut P t2 .string] [f : Inf P e i] {d : Nat} {s x : Operand} {v : Value} {nn : Nat} {xs : List Value} {l : List UInt8}
    (hd : Nat.blt d n = true) (hw : want ops L ⟨some d, .call { callee := .builtin .append, args := #[s, x], argTypes := #[t, t2] }, ty, pos, af, g⟩ = some true) (hk : (known L s && known L x) = true)
    (hs : rho L s = v) (hx : rho L x = sv l) (hz : i.zero = some (.int .u8 0)) (hsize : i.size = 1) (hby : i.bytes = 1) (hown : w.ownsRow base e 1 v nn xs) (h63 : nn + l.length ≤ 140737488355328) (hbase : base ≤ w.heap.size)
    (h : ∀ v' w', Kp (ownB v) w w' → w'.ownsRow base e 1 v' (nn + l.length) (xs ++ l.map bv) → SG P n ops Q rest ((d, v') :: L) w') : SG P n ops Q (⟨some d, .call { callee := .builtin .append, args := #[s, x], argTypes := #[t, t2] }, ty, pos, af, g⟩ :: rest) L w := by
  refine SG.op (by simpa using hd) rfl hw (by simpa [Op.operands, Call.operands] using hk) ?_
  unfold OpRun
  obtain ⟨v', w', h2, h3, h4⟩ := run_appT (P := P) (ty := ty) (u := u) (u2 := u2) (f := f) hz hsize hby hown l h63 hbase
  have : (execOp (rho L) ⟨some d, .call { callee := .builtin .append, args := #[s, x], argTypes := #[t, t2] }, ty, pos, af, g⟩).run P w = .ok (.value v') w' := by
    simp only [execOp, resolve, invoke, builtin, Sem.run_bind, Sem.run_pure, Result.andThen_ok, List.map_toArray, List.map_cons, List.map_nil, hs, hx, h2]
  rw [this]
  exact h v' w' h4 h3
/-- 'make([]T, 0, c)'. -/
theorem SG.makeRow {d c : Nat} {t e : TypeId} {i : TypeInfo} [u : Ut P t (.slice e)] [f : Inf P e i] {z : Value} {x y : Operand} {zc : Int} (hd : Nat.blt d n = true)
    (hw : want ops L ⟨some d, .makeSlice t x y, ty, pos, af, g⟩ = some true) (hk : (known L x && known L y) = true) (hx : rho L x = .int .i64 0) (hy : rho L y = .int .i64 zc) (hc : zc = (c : Int)) (hz : i.zero = some z) (hbytes : i.bytes * c ≤ 281474976710656) (h63 : c ≤ maxLen)
    (h : ∀ b w', Kp [] w w' → w.heap.size ≤ b → w'.ownsRow w.heap.size e i.size (.slice (some ⟨b, 0, none⟩) 0 c) 0 [] → SG P n ops Q rest ((d, .slice (some ⟨b, 0, none⟩) 0 c) :: L) w') : SG P n ops Q (⟨some d, .makeSlice t x y, ty, pos, af, g⟩ :: rest) L w := by
  subst hc
  refine SG.op (by simpa using hd) rfl hw (by simpa [Op.operands] using hk) ?_
  unfold OpRun
  have h63' : (c : Int) ≤ 9223372036854775807 := by have h := h63; simp [maxLen] at h; omega
  have hb' : (i.bytes : Int) * (c : Int) ≤ 281474976710656 := by
    have h : ((i.bytes * c : Nat) : Int) ≤ 281474976710656 := by omega
    rwa [Int.natCast_mul] at h
  have hr := run_make (P := P) w t e i z u.eq f.eq hz .i64 .i64 0 c (Int.le_refl _) (by omega) hb' h63'
  simp only [Int.toNat_zero, Int.toNat_natCast] at hr
  have : (execOp (rho L) ⟨some d, .makeSlice t x y, ty, pos, af, g⟩).run P w = .ok (.value (.slice (some ⟨w.heap.size, 0, none⟩) 0 c)) (w.alloc (.cells (madeCells z.cells (c * i.size)) e)) := by
    simp only [execOp, hx, hy, Sem.run_bind, hr, Result.andThen, Sem.run_pure]
  rw [this]
  exact h _ _ (Kp.push w _ rfl) (Nat.le_refl _) (World.ownsRow_made w _ c (Nat.le_refl _) h63 (size_madeCells _ _))
end
end Go.Proofs.YtnoipmimddoioaaGreat
namespace Go.Proofs.YtnoipmimddoioaaGreat
set_option linter.unusedVariables false
section
variable {P : Program} {n : Nat} {ops : List Oper} {Q : Exit → Act → World → Prop} {w : World} {L : Env} {ty : TypeId} {pos : String} {af : Array Edge} {g : Option (Nat × Bool)} {rest : List Oper}
end
section
variable {P : Program} {S : List Nat} {w0 : World} {F : World → Prop} {L : Env} {d : Option Nat} {ty : TypeId} {pos : String} {af : Array Edge} {g : Option (Nat × Bool)}
theorem vals_lens {T : TypeId} [u : Ut P T .string] {x : Operand} {l : List UInt8} (hx : ro L x = some (sv l)) : Vals P S w0 F L ⟨d, .call { callee := .builtin .len, args := #[x], argTypes := #[T] }, ty, pos, af, g⟩ (.int .i64 l.length) := fun w _ _ => by
  have hx' : rho L x = .string ⟨l.toArray⟩ := rho_of hx
  have hs : (ByteArray.mk l.toArray).size = l.length := by
    show l.toArray.size = _
    simp
  generalize ByteArray.mk l.toArray = s at hx' hs
  simp [execOp, hx', resolve, invoke, builtin, Builtin.len_, run_underlying u.eq, goInt, hs]
end
end Go.Proofs.YtnoipmimddoioaaGreat
namespace Go.Proofs.YtnoipmimddoioaaGreat
open Go.Proofs
set_option linter.unusedVariables false
theorem by1_len (x : UInt8) : (by1 x).length = 1 := rfl
theorem by1_one (x : UInt8) : allOne (by1 x) = true := rfl
theorem bs1 (x : UInt8) (w : World) : (Instr.buildSlice 111 1 #[(0, bv x)]).run Tryz.prog w = .ok (.slice (some ⟨w.heap.size, 0, none⟩) 1 1) { w with heap := w.heap.push (.cells (by1 x).toArray 5) } := by kernel_rfl
theorem shr7 (n : Nat) : shrI (n : Int) 7 = ((n / 128 : Nat) : Int) := shrI_nat (i := 7) (by omega)
/-- A slice of bytes, as functions take it. -/
structure Bs (w : World) (a : Option Addr) (c : Nat) (l : List UInt8) : Prop where
  sl : Sl by1 1 w a l
  len : l.length ≤ c
  some : l = [] ∧ a = none ∨ ∃ b2 off, a = some ⟨b2, off, none⟩
  lt : ∀ b2 off, a = Option.some ⟨b2, off, none⟩ → b2 < w.heap.size
theorem Bs.own {w : World} {base : Nat} {v : Value} {l : List UInt8} (h : w.ownsRow base 5 1 v l.length (flt by1 l)) : ∃ a c, v = .slice a l.length c ∧ Bs w a c l := by
  obtain ⟨a, c, rfl, hc, hS⟩ := Sl.own by1_len h rfl
  refine ⟨a, c, rfl, hS, hc, ?_, ?_⟩
  · rcases h.2 with ⟨hv, h0⟩ | ⟨g, cap, cur, hv, _⟩
    · simp only [Value.slice.injEq] at hv
      exact Or.inl ⟨List.eq_nil_of_length_eq_zero h0, hv.1⟩
    · cases hv
      exact Or.inr ⟨_, _, rfl⟩
  · rcases h.2 with ⟨hv, h0⟩ | ⟨g, cap, cur, hv, _, hg, _⟩
    · simp only [Value.slice.injEq] at hv
      intro b2 off e
      rw [hv.1] at e
      cases e
    · cases hv
      intro b2 off e
      cases e
      exact (Array.getElem?_eq_some_iff.1 hg).1
theorem Bs.kp {S : List Nat} {w w' : World} {a : Option Addr} {c : Nat} {l : List UInt8} (h : Bs w a c l) (hk : Kp S w w') (hb : ∀ b off, a = Option.some ⟨b, off, none⟩ → b ∉ S) : Bs w' a c l :=
  ⟨h.sl.kp hk hb, h.len, h.some, fun b2 off e => Nat.lt_of_lt_of_le (h.lt b2 off e) hk.size⟩
theorem Bs.nil {w : World} : Bs w none 0 [] := ⟨Sl.nil, Nat.le_refl _, Or.inl ⟨rfl, rfl⟩, fun _ _ e => by cases e⟩
attribute [local irreducible] CG NG SG Vals Der Row Blk MapIs IterAt addI xorI orI andI shlI shrI or8
set_option maxHeartbeats 8000000 in
theorem fresh_spec {w : World} {a : Option Addr} {c : Nat} {l : List UInt8} (hS : Sl by1 1 w a l) (m : Nat) (hl : l.length + m ≤ 1000000000) : RetO Tryz.prog 5 by1 1 92 #[.slice a l.length c, .int .i64 (m : Int)] w l := by
  refine enter2 Tryz.func92 rfl Tryz.ntmps92 rfl ?_
  have e1 : (l.length : Int) + (m : Int) = ((l.length + m : Nat) : Int) := by omega
  repeat (first|apply cA|apply cB|apply cD|apply cE|apply cF|apply cG|apply cH|apply cJ|apply cU|refine cV rfl ?_|apply cY|refine cZ rfl rfl rfl rfl (by first|(apply q64b<;>(first|exact rfl|assumption|exact Ar.mk (by omega)|exact dct (by first|assumption|omega)|exact dcf (by first|assumption|omega)|fail))|(apply qi64<;>(first|exact rfl|assumption|exact Ar.mk (by omega)|exact dct (by first|assumption|omega)|exact dcf (by first|assumption|omega)|fail))|(apply vals_lens<;>(first|exact rfl|assumption|exact Ar.mk (by omega)|exact dct (by first|assumption|omega)|exact dcf (by first|assumption|omega)|fail))|((first|apply quo8|apply qusr|apply qmv|apply qas|apply qad|apply qln|apply qge)<;>(first|exact rfl|assumption|exact Ar.mk (by omega)|exact dct (by first|assumption|omega)|exact dcf (by first|assumption|omega)|fail))|fail) ?_)
  rw [e1]
  refine SG.makeRow (c := l.length + m) rfl rfl rfl (by exact rho_of rfl) (by exact rho_of rfl) rfl rfl (by show 1 * (l.length + m) ≤ _; omega) (by simp only [maxLen]; omega) (fun b9 w1 hk1 hb9 ho1 => ?_)
  repeat (first|apply cA|apply cB|apply cD|apply cE|apply cF|apply cG|apply cH|apply cJ|apply cU|refine cV rfl ?_|apply cY|refine cZ rfl rfl rfl rfl (by first|(apply q64b<;>(first|exact rfl|assumption|exact Ar.mk (by omega)|exact dct (by first|assumption|omega)|exact dcf (by first|assumption|omega)|fail))|(apply qi64<;>(first|exact rfl|assumption|exact Ar.mk (by omega)|exact dct (by first|assumption|omega)|exact dcf (by first|assumption|omega)|fail))|(apply vals_lens<;>(first|exact rfl|assumption|exact Ar.mk (by omega)|exact dct (by first|assumption|omega)|exact dcf (by first|assumption|omega)|fail))|((first|apply quo8|apply qusr|apply qmv|apply qas|apply qad|apply qln|apply qge)<;>(first|exact rfl|assumption|exact Ar.mk (by omega)|exact dct (by first|assumption|omega)|exact dcf (by first|assumption|omega)|fail))|fail) ?_)
  refine SG.appO (enc := by1) (xs := []) (ys := l) (base := w.heap.size) rfl rfl rfl (by exact rho_of rfl) (by exact rho_of rfl) rfl rfl rfl rfl by1_len by1_one ho1 (hS.kp0 hk1) (by simp only [maxLen, List.length_nil]; omega) (by show (0 + l.length) * 1 ≤ _; omega) hk1.size (fun v w2 hk2 ho2 _ => ?_)
  repeat (first|apply cA|apply cB|apply cD|apply cE|apply cF|apply cG|apply cH|apply cJ|apply cU|refine cV rfl ?_|apply cY|refine cZ rfl rfl rfl rfl (by first|(apply q64b<;>(first|exact rfl|assumption|exact Ar.mk (by omega)|exact dct (by first|assumption|omega)|exact dcf (by first|assumption|omega)|fail))|(apply qi64<;>(first|exact rfl|assumption|exact Ar.mk (by omega)|exact dct (by first|assumption|omega)|exact dcf (by first|assumption|omega)|fail))|(apply vals_lens<;>(first|exact rfl|assumption|exact Ar.mk (by omega)|exact dct (by first|assumption|omega)|exact dcf (by first|assumption|omega)|fail))|((first|apply quo8|apply qusr|apply qmv|apply qas|apply qad|apply qln|apply qge)<;>(first|exact rfl|assumption|exact Ar.mk (by omega)|exact dct (by first|assumption|omega)|exact dcf (by first|assumption|omega)|fail))|fail) ?_)
  refine ret1 (Or.inl rfl) Tryz.results92 (by first | exact ResV.tmp rfl | exact ResV.agg rfl rfl (by assumption) (by first | exact dc_length _ | exact nc_length _ | exact rc_length _ _ _ | exact ec_length _ | exact dl_length _ _ _ _ | rfl) | exact ResV.cell rfl rfl (by assumption)) ?_
  exact ⟨_, rfl, ho2, hk1.trans_new hk2 (own_new ho1 (Nat.le_refl _))⟩
set_option maxHeartbeats 8000000 in
theorem number_spec {w : World} {v : Value} {l : List UInt8} {base : Nat} (ho : w.ownsRow base 5 1 v l.length (flt by1 l)) (hbase : base ≤ w.heap.size) (n : Nat) (hn : n < 18446744073709551616) (hl : l.length ≤ 1000000000) : Calls Tryz.prog 91 #[v, .int .u64 (n : Int)] w (fun e w' => ∃ v', e = .returned v' ∧ w'.ownsRow base 5 1 v' (l ++ putU n).length (flt by1 (l ++ putU n)) ∧ Kp (ownB v) w w' ∧ (∀ g, v'.ownBlock = some g → v.ownBlock = some g ∨ w.heap.size ≤ g)) := by
  refine enter2 Tryz.func91 rfl Tryz.ntmps91 rfl ?_
  repeat (first|apply cA|apply cB|apply cD|apply cE|apply cF|apply cG|apply cH|apply cJ|apply cU|refine cV rfl ?_|apply cY|refine cZ rfl rfl rfl rfl (by first|(apply q64b<;>(first|exact rfl|assumption|exact Ar.mk (by omega)|exact dct (by first|assumption|omega)|exact dcf (by first|assumption|omega)|fail))|(apply qi64<;>(first|exact rfl|assumption|exact Ar.mk (by omega)|exact dct (by first|assumption|omega)|exact dcf (by first|assumption|omega)|fail))|(apply vals_lens<;>(first|exact rfl|assumption|exact Ar.mk (by omega)|exact dct (by first|assumption|omega)|exact dcf (by first|assumption|omega)|fail))|((first|apply quo8|apply qusr|apply qmv|apply qas|apply qad|apply qln|apply qge)<;>(first|exact rfl|assumption|exact Ar.mk (by omega)|exact dct (by first|assumption|omega)|exact dcf (by first|assumption|omega)|fail))|fail) ?_)
  refine CG.loop (X := Value × Nat × List UInt8 × Nat) (fun x => [(0, x.1), (1, .int .u64 (x.2.2.2 : Int))])
    (fun x w' => w'.ownsRow base 5 1 x.1 (l ++ x.2.2.1).length (flt by1 (l ++ x.2.2.1)) ∧ x.2.1 ≤ 10 ∧ x.2.2.1.length = 10 - x.2.1 ∧ x.2.2.2 < 128 ^ (x.2.1 + 1) ∧ x.2.2.1 ++ putN x.2.1 x.2.2.2 = putU n ∧ Kp (ownB v) w w' ∧ (∀ g, x.1.ownBlock = some g → v.ownBlock = some g ∨ w.heap.size ≤ g)) (fun x => x.2.1) (v, 10, [], n) ⟨by simpa using ho, Nat.le_refl _, rfl, Nat.lt_of_lt_of_le hn (show 18446744073709551616 ≤ 128 ^ 11 by decide), rfl, Kp.refl _ _, fun g hg => Or.inl hg⟩ (by (repeat' (first | exact True.intro | exact rfl | refine And.intro ?_ ?_))) ?_
  rintro ⟨v1, f, done, m⟩ w1 ⟨ho1, hf, hd, hm, hp, hk1, hw1⟩
  simp only at ho1 hf hd hm hp hw1
  refine CG.to [(0, v1), (1, .int .u64 (m : Int))] (by (repeat' (first | exact True.intro | exact rfl | refine And.intro ?_ ?_))) ?_
  have hbase1 : base ≤ w1.heap.size := Nat.le_trans hbase hk1.size
  have hs1 := hk1.size
  by_cases hlt : m < 128
  · have g1 : ¬ (128 : Int) ≤ (m : Int) := by omega
    have hput : putN f m = [UInt8.ofNat m] := by
      cases f with
      | zero => rfl
      | succ f => simp [putN, hlt]
    rw [hput] at hp
    repeat (first|apply cA|apply cB|apply cD|apply cE|apply cF|apply cG|apply cH|apply cJ|apply cU|refine cV rfl ?_|apply cY|refine cZ rfl rfl rfl rfl (by first|(apply q64b<;>(first|exact rfl|assumption|exact Ar.mk (by omega)|exact dct (by first|assumption|omega)|exact dcf (by first|assumption|omega)|fail))|(apply qi64<;>(first|exact rfl|assumption|exact Ar.mk (by omega)|exact dct (by first|assumption|omega)|exact dcf (by first|assumption|omega)|fail))|(apply vals_lens<;>(first|exact rfl|assumption|exact Ar.mk (by omega)|exact dct (by first|assumption|omega)|exact dcf (by first|assumption|omega)|fail))|((first|apply quo8|apply qusr|apply qmv|apply qas|apply qad|apply qln|apply qge)<;>(first|exact rfl|assumption|exact Ar.mk (by omega)|exact dct (by first|assumption|omega)|exact dcf (by first|assumption|omega)|fail))|fail) ?_)
    refine dE rfl (by exact rho_of rfl) rfl ?_
    repeat (first|apply cA|apply cB|apply cD|apply cE|apply cF|apply cG|apply cH|apply cJ|apply cU|refine cV rfl ?_|apply cY|refine cZ rfl rfl rfl rfl (by first|(apply q64b<;>(first|exact rfl|assumption|exact Ar.mk (by omega)|exact dct (by first|assumption|omega)|exact dcf (by first|assumption|omega)|fail))|(apply qi64<;>(first|exact rfl|assumption|exact Ar.mk (by omega)|exact dct (by first|assumption|omega)|exact dcf (by first|assumption|omega)|fail))|(apply vals_lens<;>(first|exact rfl|assumption|exact Ar.mk (by omega)|exact dct (by first|assumption|omega)|exact dcf (by first|assumption|omega)|fail))|((first|apply quo8|apply qusr|apply qmv|apply qas|apply qad|apply qln|apply qge)<;>(first|exact rfl|assumption|exact Ar.mk (by omega)|exact dct (by first|assumption|omega)|exact dcf (by first|assumption|omega)|fail))|fail) ?_)
    rw [toB_nat]
    refine SG.buildSlice rfl rfl rfl rfl (bs1 (UInt8.ofNat m)) (fun b2 w2 hk2 hb2 hB2 => ?_)
    have hS2 : Sl by1 1 w2 (some ⟨b2, 0, none⟩) [UInt8.ofNat m] := Sl.of_blk (pre := []) (post := []) by1_len (l := [UInt8.ofNat m]) (T := 5) hB2
    refine SG.appO (enc := by1) (xs := l ++ done) (ys := [UInt8.ofNat m]) (base := base) rfl rfl rfl (by exact rho_of rfl) (by exact rho_of rfl) rfl rfl rfl rfl by1_len by1_one (own_kp0 ho1 hk2) hS2 (by simp only [maxLen, List.length_append, List.length_cons, List.length_nil]; omega) (by show ((l ++ done).length + 1) * 1 ≤ _; simp only [List.length_append]; omega) (Nat.le_trans hbase1 hk2.size) (fun v3 w3 hk3 ho3 hw3 => ?_)
    rw [List.append_assoc, hp] at ho3
    repeat (first|apply cA|apply cB|apply cD|apply cE|apply cF|apply cG|apply cH|apply cJ|apply cU|refine cV rfl ?_|apply cY|refine cZ rfl rfl rfl rfl (by first|(apply q64b<;>(first|exact rfl|assumption|exact Ar.mk (by omega)|exact dct (by first|assumption|omega)|exact dcf (by first|assumption|omega)|fail))|(apply qi64<;>(first|exact rfl|assumption|exact Ar.mk (by omega)|exact dct (by first|assumption|omega)|exact dcf (by first|assumption|omega)|fail))|(apply vals_lens<;>(first|exact rfl|assumption|exact Ar.mk (by omega)|exact dct (by first|assumption|omega)|exact dcf (by first|assumption|omega)|fail))|((first|apply quo8|apply qusr|apply qmv|apply qas|apply qad|apply qln|apply qge)<;>(first|exact rfl|assumption|exact Ar.mk (by omega)|exact dct (by first|assumption|omega)|exact dcf (by first|assumption|omega)|fail))|fail) ?_)
    refine ret1 (Or.inl rfl) Tryz.results91 (by first | exact ResV.tmp rfl | exact ResV.agg rfl rfl (by assumption) (by first | exact dc_length _ | exact nc_length _ | exact rc_length _ _ _ | exact ec_length _ | exact dl_length _ _ _ _ | rfl) | exact ResV.cell rfl rfl (by assumption)) ?_
    refine ⟨_, rfl, ho3, (hk1.trans hk2.any).trans_new hk3 (fun z hz => ?_), fun g hg => ?_⟩
    · have hz' : v1.ownBlock = some z := by
        unfold ownB at hz
        split at hz
        · rename_i b hb
          rw [List.mem_singleton] at hz
          rw [hb, hz]
        · cases hz
      rcases hw1 z hz' with h | h
      · left
        unfold ownB
        rw [h]
        simp
      · exact Or.inr h
    · have s2 := hk2.size
      rcases hw3 g hg with h | h
      · exact hw1 g h
      · exact Or.inr (by omega)
  · have g1 : (128 : Int) ≤ (m : Int) := by omega
    cases f with
    | zero => simp at hm; omega
    | succ f =>
      have hput : putN (f + 1) m = UInt8.ofNat (128 + m % 128) :: putN f (m / 128) := by simp [putN, hlt]
      rw [hput] at hp
      have e8 := or8_nat (n := m)
      repeat (first|apply cA|apply cB|apply cD|apply cE|apply cF|apply cG|apply cH|apply cJ|apply cU|refine cV rfl ?_|apply cY|refine cZ rfl rfl rfl rfl (by first|(apply q64b<;>(first|exact rfl|assumption|exact Ar.mk (by omega)|exact dct (by first|assumption|omega)|exact dcf (by first|assumption|omega)|fail))|(apply qi64<;>(first|exact rfl|assumption|exact Ar.mk (by omega)|exact dct (by first|assumption|omega)|exact dcf (by first|assumption|omega)|fail))|(apply vals_lens<;>(first|exact rfl|assumption|exact Ar.mk (by omega)|exact dct (by first|assumption|omega)|exact dcf (by first|assumption|omega)|fail))|((first|apply quo8|apply qusr|apply qmv|apply qas|apply qad|apply qln|apply qge)<;>(first|exact rfl|assumption|exact Ar.mk (by omega)|exact dct (by first|assumption|omega)|exact dcf (by first|assumption|omega)|fail))|fail) ?_)
      refine dD rfl (by exact rho_of rfl) rfl ?_
      repeat (first|apply cA|apply cB|apply cD|apply cE|apply cF|apply cG|apply cH|apply cJ|apply cU|refine cV rfl ?_|apply cY|refine cZ rfl rfl rfl rfl (by first|(apply q64b<;>(first|exact rfl|assumption|exact Ar.mk (by omega)|exact dct (by first|assumption|omega)|exact dcf (by first|assumption|omega)|fail))|(apply qi64<;>(first|exact rfl|assumption|exact Ar.mk (by omega)|exact dct (by first|assumption|omega)|exact dcf (by first|assumption|omega)|fail))|(apply vals_lens<;>(first|exact rfl|assumption|exact Ar.mk (by omega)|exact dct (by first|assumption|omega)|exact dcf (by first|assumption|omega)|fail))|((first|apply quo8|apply qusr|apply qmv|apply qas|apply qad|apply qln|apply qge)<;>(first|exact rfl|assumption|exact Ar.mk (by omega)|exact dct (by first|assumption|omega)|exact dcf (by first|assumption|omega)|fail))|fail) ?_)
      rw [e8]
      refine SG.buildSlice rfl rfl rfl rfl (bs1 (UInt8.ofNat (128 + m % 128))) (fun b2 w2 hk2 hb2 hB2 => ?_)
      have hS2 : Sl by1 1 w2 (some ⟨b2, 0, none⟩) [UInt8.ofNat (128 + m % 128)] := Sl.of_blk (pre := []) (post := []) by1_len (l := [UInt8.ofNat (128 + m % 128)]) (T := 5) hB2
      refine SG.appO (enc := by1) (xs := l ++ done) (ys := [UInt8.ofNat (128 + m % 128)]) (base := base) rfl rfl rfl (by exact rho_of rfl) (by exact rho_of rfl) rfl rfl rfl rfl by1_len by1_one (own_kp0 ho1 hk2) hS2 (by simp only [maxLen, List.length_append, List.length_cons, List.length_nil]; omega) (by show ((l ++ done).length + 1) * 1 ≤ _; simp only [List.length_append]; omega) (Nat.le_trans hbase1 hk2.size) (fun v3 w3 hk3 ho3 hw3 => ?_)
      repeat (first|apply cA|apply cB|apply cD|apply cE|apply cF|apply cG|apply cH|apply cJ|apply cU|refine cV rfl ?_|apply cY|refine cZ rfl rfl rfl rfl (by first|(apply q64b<;>(first|exact rfl|assumption|exact Ar.mk (by omega)|exact dct (by first|assumption|omega)|exact dcf (by first|assumption|omega)|fail))|(apply qi64<;>(first|exact rfl|assumption|exact Ar.mk (by omega)|exact dct (by first|assumption|omega)|exact dcf (by first|assumption|omega)|fail))|(apply vals_lens<;>(first|exact rfl|assumption|exact Ar.mk (by omega)|exact dct (by first|assumption|omega)|exact dcf (by first|assumption|omega)|fail))|((first|apply quo8|apply qusr|apply qmv|apply qas|apply qad|apply qln|apply qge)<;>(first|exact rfl|assumption|exact Ar.mk (by omega)|exact dct (by first|assumption|omega)|exact dcf (by first|assumption|omega)|fail))|fail) ?_)
      rw [shr7]
      refine NG.round (v3, f, done ++ [UInt8.ofNat (128 + m % 128)], m / 128) (by (repeat' (first | exact True.intro | exact rfl | refine And.intro ?_ ?_))) ⟨by simp only; rw [← List.append_assoc]; exact ho3, by simp only; omega, by simp; omega, ?_, by simp only [List.append_assoc, List.singleton_append]; exact hp, (hk1.trans hk2.any).trans_new hk3 (fun z hz => ?_), fun g hg => ?_⟩ (by simp only; omega)
      · simp only
        rw [Nat.pow_succ] at hm
        exact Nat.div_lt_of_lt_mul (by rw [Nat.mul_comm]; exact hm)
      · have hz' : v1.ownBlock = some z := by
          unfold ownB at hz
          split at hz
          · rename_i b hb
            rw [List.mem_singleton] at hz
            rw [hb, hz]
          · cases hz
        rcases hw1 z hz' with h | h
        · left
          unfold ownB
          rw [h]
          simp
        · exact Or.inr h
      · have s2 := hk2.size
        rcases hw3 g hg with h | h
        · exact hw1 g h
        · exact Or.inr (by omega)
set_option maxHeartbeats 8000000 in
theorem putnum_spec {w : World} {a : Option Addr} {c : Nat} {l : List UInt8} (hS : Bs w a c l) (n : Nat) (hn : n < 18446744073709551616) (hl : l.length ≤ 100000000) : RetO Tryz.prog 5 by1 1 71 #[.slice a l.length c, .int .u64 (n : Int)] w (l ++ putU n) := by
  refine enter2 Tryz.func71 rfl Tryz.ntmps71 rfl ?_
  repeat (first|apply cA|apply cB|apply cD|apply cE|apply cF|apply cG|apply cH|apply cJ|apply cU|refine cV rfl ?_|apply cY|refine cZ rfl rfl rfl rfl (by first|(apply q64b<;>(first|exact rfl|assumption|exact Ar.mk (by omega)|exact dct (by first|assumption|omega)|exact dcf (by first|assumption|omega)|fail))|(apply qi64<;>(first|exact rfl|assumption|exact Ar.mk (by omega)|exact dct (by first|assumption|omega)|exact dcf (by first|assumption|omega)|fail))|(apply vals_lens<;>(first|exact rfl|assumption|exact Ar.mk (by omega)|exact dct (by first|assumption|omega)|exact dcf (by first|assumption|omega)|fail))|((first|apply quo8|apply qusr|apply qmv|apply qas|apply qad|apply qln|apply qge)<;>(first|exact rfl|assumption|exact Ar.mk (by omega)|exact dct (by first|assumption|omega)|exact dcf (by first|assumption|omega)|fail))|fail) ?_)
  refine SG.call rfl rfl rfl (by repeat' (first | exact True.intro | exact rho_of rfl | refine And.intro ?_ ?_)) ((fresh_spec (c := c) hS.sl 10 (by omega)).mono (fun e w1 hh => ?_))
  obtain ⟨v1, he, ho1, hk1⟩ := hh
  refine ⟨_, he, ?_⟩
  repeat (first|apply cA|apply cB|apply cD|apply cE|apply cF|apply cG|apply cH|apply cJ|apply cU|refine cV rfl ?_|apply cY|refine cZ rfl rfl rfl rfl (by first|(apply q64b<;>(first|exact rfl|assumption|exact Ar.mk (by omega)|exact dct (by first|assumption|omega)|exact dcf (by first|assumption|omega)|fail))|(apply qi64<;>(first|exact rfl|assumption|exact Ar.mk (by omega)|exact dct (by first|assumption|omega)|exact dcf (by first|assumption|omega)|fail))|(apply vals_lens<;>(first|exact rfl|assumption|exact Ar.mk (by omega)|exact dct (by first|assumption|omega)|exact dcf (by first|assumption|omega)|fail))|((first|apply quo8|apply qusr|apply qmv|apply qas|apply qad|apply qln|apply qge)<;>(first|exact rfl|assumption|exact Ar.mk (by omega)|exact dct (by first|assumption|omega)|exact dcf (by first|assumption|omega)|fail))|fail) ?_)
  refine SG.call rfl rfl rfl (by repeat' (first | exact True.intro | exact rho_of rfl | refine And.intro ?_ ?_)) ((number_spec ho1 hk1.size n hn (by omega)).mono (fun e w2 hh => ?_))
  obtain ⟨v2, he, ho2, hk2, _⟩ := hh
  refine ⟨_, he, ?_⟩
  repeat (first|apply cA|apply cB|apply cD|apply cE|apply cF|apply cG|apply cH|apply cJ|apply cU|refine cV rfl ?_|apply cY|refine cZ rfl rfl rfl rfl (by first|(apply q64b<;>(first|exact rfl|assumption|exact Ar.mk (by omega)|exact dct (by first|assumption|omega)|exact dcf (by first|assumption|omega)|fail))|(apply qi64<;>(first|exact rfl|assumption|exact Ar.mk (by omega)|exact dct (by first|assumption|omega)|exact dcf (by first|assumption|omega)|fail))|(apply vals_lens<;>(first|exact rfl|assumption|exact Ar.mk (by omega)|exact dct (by first|assumption|omega)|exact dcf (by first|assumption|omega)|fail))|((first|apply quo8|apply qusr|apply qmv|apply qas|apply qad|apply qln|apply qge)<;>(first|exact rfl|assumption|exact Ar.mk (by omega)|exact dct (by first|assumption|omega)|exact dcf (by first|assumption|omega)|fail))|fail) ?_)
  refine ret1 (Or.inl rfl) Tryz.results71 (by first | exact ResV.tmp rfl | exact ResV.agg rfl rfl (by assumption) (by first | exact dc_length _ | exact nc_length _ | exact rc_length _ _ _ | exact ec_length _ | exact dl_length _ _ _ _ | rfl) | exact ResV.cell rfl rfl (by assumption)) ?_
  exact ⟨_, rfl, ho2, hk1.trans_new hk2 (own_new ho1 (Nat.le_refl _))⟩
set_option maxHeartbeats 8000000 in
theorem puttext_spec {w : World} {a : Option Addr} {c : Nat} {l : List UInt8} (hS : Bs w a c l) (s : List UInt8) (hl : l.length + s.length ≤ 100000000) : RetO Tryz.prog 5 by1 1 70 #[.slice a l.length c, sv s] w (l ++ putU s.length ++ s) := by
  refine enter2 Tryz.func70 rfl Tryz.ntmps70 rfl ?_
  have e1 : (10 : Int) + (s.length : Int) = ((10 + s.length : Nat) : Int) := by omega
  repeat (first|apply cA|apply cB|apply cD|apply cE|apply cF|apply cG|apply cH|apply cJ|apply cU|refine cV rfl ?_|apply cY|refine cZ rfl rfl rfl rfl (by first|(apply q64b<;>(first|exact rfl|assumption|exact Ar.mk (by omega)|exact dct (by first|assumption|omega)|exact dcf (by first|assumption|omega)|fail))|(apply qi64<;>(first|exact rfl|assumption|exact Ar.mk (by omega)|exact dct (by first|assumption|omega)|exact dcf (by first|assumption|omega)|fail))|(apply vals_lens<;>(first|exact rfl|assumption|exact Ar.mk (by omega)|exact dct (by first|assumption|omega)|exact dcf (by first|assumption|omega)|fail))|((first|apply quo8|apply qusr|apply qmv|apply qas|apply qad|apply qln|apply qge)<;>(first|exact rfl|assumption|exact Ar.mk (by omega)|exact dct (by first|assumption|omega)|exact dcf (by first|assumption|omega)|fail))|fail) ?_)
  rw [e1]
  refine SG.call rfl rfl rfl (by repeat' (first | exact True.intro | exact rho_of rfl | refine And.intro ?_ ?_)) ((fresh_spec (c := c) hS.sl (10 + s.length) (by omega)).mono (fun e w1 hh => ?_))
  obtain ⟨v1, he, ho1, hk1⟩ := hh
  refine ⟨_, he, ?_⟩
  repeat (first|apply cA|apply cB|apply cD|apply cE|apply cF|apply cG|apply cH|apply cJ|apply cU|refine cV rfl ?_|apply cY|refine cZ rfl rfl rfl rfl (by first|(apply q64b<;>(first|exact rfl|assumption|exact Ar.mk (by omega)|exact dct (by first|assumption|omega)|exact dcf (by first|assumption|omega)|fail))|(apply qi64<;>(first|exact rfl|assumption|exact Ar.mk (by omega)|exact dct (by first|assumption|omega)|exact dcf (by first|assumption|omega)|fail))|(apply vals_lens<;>(first|exact rfl|assumption|exact Ar.mk (by omega)|exact dct (by first|assumption|omega)|exact dcf (by first|assumption|omega)|fail))|((first|apply quo8|apply qusr|apply qmv|apply qas|apply qad|apply qln|apply qge)<;>(first|exact rfl|assumption|exact Ar.mk (by omega)|exact dct (by first|assumption|omega)|exact dcf (by first|assumption|omega)|fail))|fail) ?_)
  refine SG.call rfl rfl rfl (by repeat' (first | exact True.intro | exact rho_of rfl | refine And.intro ?_ ?_)) ((number_spec ho1 hk1.size s.length (by omega) (by omega)).mono (fun e w2 hh => ?_))
  obtain ⟨v2, he, ho2, hk2, _⟩ := hh
  refine ⟨_, he, ?_⟩
  have k2 := hk1.trans_new hk2 (own_new ho1 (Nat.le_refl _))
  have hp := putN_len 10 s.length
  repeat (first|apply cA|apply cB|apply cD|apply cE|apply cF|apply cG|apply cH|apply cJ|apply cU|refine cV rfl ?_|apply cY|refine cZ rfl rfl rfl rfl (by first|(apply q64b<;>(first|exact rfl|assumption|exact Ar.mk (by omega)|exact dct (by first|assumption|omega)|exact dcf (by first|assumption|omega)|fail))|(apply qi64<;>(first|exact rfl|assumption|exact Ar.mk (by omega)|exact dct (by first|assumption|omega)|exact dcf (by first|assumption|omega)|fail))|(apply vals_lens<;>(first|exact rfl|assumption|exact Ar.mk (by omega)|exact dct (by first|assumption|omega)|exact dcf (by first|assumption|omega)|fail))|((first|apply quo8|apply qusr|apply qmv|apply qas|apply qad|apply qln|apply qge)<;>(first|exact rfl|assumption|exact Ar.mk (by omega)|exact dct (by first|assumption|omega)|exact dcf (by first|assumption|omega)|fail))|fail) ?_)
  refine SG.appT (l := s) (base := w.heap.size) rfl rfl rfl (by exact rho_of rfl) (by exact rho_of rfl) rfl rfl rfl ho2 (by rw [List.length_append]; show l.length + (putN 10 s.length).length + _ ≤ _; omega) k2.size (fun v3 w3 hk3 ho3 => ?_)
  repeat (first|apply cA|apply cB|apply cD|apply cE|apply cF|apply cG|apply cH|apply cJ|apply cU|refine cV rfl ?_|apply cY|refine cZ rfl rfl rfl rfl (by first|(apply q64b<;>(first|exact rfl|assumption|exact Ar.mk (by omega)|exact dct (by first|assumption|omega)|exact dcf (by first|assumption|omega)|fail))|(apply qi64<;>(first|exact rfl|assumption|exact Ar.mk (by omega)|exact dct (by first|assumption|omega)|exact dcf (by first|assumption|omega)|fail))|(apply vals_lens<;>(first|exact rfl|assumption|exact Ar.mk (by omega)|exact dct (by first|assumption|omega)|exact dcf (by first|assumption|omega)|fail))|((first|apply quo8|apply qusr|apply qmv|apply qas|apply qad|apply qln|apply qge)<;>(first|exact rfl|assumption|exact Ar.mk (by omega)|exact dct (by first|assumption|omega)|exact dcf (by first|assumption|omega)|fail))|fail) ?_)
  refine ret1 (Or.inl rfl) Tryz.results70 (by first | exact ResV.tmp rfl | exact ResV.agg rfl rfl (by assumption) (by first | exact dc_length _ | exact nc_length _ | exact rc_length _ _ _ | exact ec_length _ | exact dl_length _ _ _ _ | rfl) | exact ResV.cell rfl rfl (by assumption)) ?_
  refine ⟨_, rfl, ?_, k2.trans_new hk3 (own_new ho2 (Nat.le_refl _))⟩
  rw [← flt_by1, ← flt_append] at ho3
  have el : (l ++ putU s.length ++ s).length = (l ++ putU s.length).length + s.length := by simp only [List.length_append]
  rw [el]
  exact ho3
end Go.Proofs.YtnoipmimddoioaaGreat
namespace Go.Proofs.YtnoipmimddoioaaGreat
set_option linter.unusedVariables false
theorem flt_rowf {α : Type} {enc : α → List Value} {sz : Nat} (he : ∀ x, (enc x).length = sz) {w : World} {b : Nat} {l : List α} {T : TypeId} {f : Nat × Nat} (h : Blk w b (.cells (flt enc l).toArray T f)) : Sl enc sz w (some ⟨b, 0, none⟩) l := fun i x hx => by
  obtain ⟨hi, rfl⟩ := List.getElem?_eq_some_iff.1 hx
  refine ⟨b, 0, rfl, Row.of h (flt enc (l.take i)) (flt enc (l.drop (i + 1))) (by rw [List.toList_toArray]; exact flt_split l i hi) ?_⟩
  rw [flt_length he, List.length_take, Nat.zero_add, Nat.min_eq_left (by omega)]
theorem ownB_mem {v : Value} {z : Nat} (hz : z ∈ ownB v) : v.ownBlock = some z := by
  unfold ownB at hz
  split at hz
  · rename_i b hb
    rw [List.mem_singleton] at hz
    rw [hb, hz]
  · cases hz
end Go.Proofs.YtnoipmimddoioaaGreat
namespace Go.Proofs.YtnoipmimddoioaaGreat
open Go.Proofs
set_option linter.unusedVariables false
structure Ofr where
  who : Dg
  rules : Dg
  seats : Int
  least : Int
  most : Int
  window : Int
  till : Int
def i64s (l : List Int) : List Value := l.map (fun z => .int .i64 z)
def ec (o : Ofr) : List Value := dc o.who ++ (dc o.rules ++ [.int .i64 o.seats, .int .i64 o.least, .int .i64 o.most, .int .i64 o.window, .int .i64 o.till])
theorem ec_length (o : Ofr) : (ec o).length = 21 := by simp [ec, dc_length]
theorem ec_one (o : Ofr) : allOne (ec o) = true := by simp [ec, allOne, dc, oneB]
def ov (o : Ofr) : Value := .agg (ec o).toArray
theorem ec_rows {w : World} {b : Nat} {T : TypeId} {o : Ofr} (h : Blk w b (.cells (ec o).toArray T)) : Row w b 0 (dc o.who) ∧ Row w b 8 (dc o.rules) ∧ Row w b 16 [.int .i64 o.seats] ∧ Row w b 17 [.int .i64 o.least] ∧ Row w b 18 [.int .i64 o.most] ∧ Row w b 19 [.int .i64 o.window] ∧ Row w b 20 [.int .i64 o.till] ∧ Row w b 0 (ec o) := by
  have e : ∀ (pre l post : List Value), ec o = pre ++ (l ++ post) → Row w b pre.length l := fun pre l post he => Row.of h pre post (by simpa using he) rfl
  have l8 : (dc o.who).length = 8 := dc_length _
  have l16 : (dc o.who ++ dc o.rules).length = 16 := by simp [dc_length]
  refine ⟨?_, ?_, ?_, ?_, ?_, ?_, ?_, Row.all h (by simp)⟩
  · exact e [] (dc o.who) _ rfl
  · have := e (dc o.who) (dc o.rules) _ rfl
    rwa [l8] at this
  · have := e (dc o.who ++ dc o.rules) [.int .i64 o.seats] [.int .i64 o.least, .int .i64 o.most, .int .i64 o.window, .int .i64 o.till] (by simp [ec])
    rwa [l16] at this
  · have := e (dc o.who ++ dc o.rules ++ [.int .i64 o.seats]) [.int .i64 o.least] [.int .i64 o.most, .int .i64 o.window, .int .i64 o.till] (by simp [ec])
    rwa [List.length_append, l16] at this
  · have := e (dc o.who ++ dc o.rules ++ [.int .i64 o.seats, .int .i64 o.least]) [.int .i64 o.most] [.int .i64 o.window, .int .i64 o.till] (by simp [ec])
    rwa [List.length_append, l16] at this
  · have := e (dc o.who ++ dc o.rules ++ [.int .i64 o.seats, .int .i64 o.least, .int .i64 o.most]) [.int .i64 o.window] [.int .i64 o.till] (by simp [ec])
    rwa [List.length_append, l16] at this
  · have := e (dc o.who ++ dc o.rules ++ [.int .i64 o.seats, .int .i64 o.least, .int .i64 o.most, .int .i64 o.window]) [.int .i64 o.till] [] (by simp [ec])
    rwa [List.length_append, l16] at this
/-- What of an offer is right. -/
structure Ofr.Ok (o : Ofr) : Prop where
  s1 : 2 ≤ o.seats
  s2 : o.seats ≤ 8
  l1 : 1 ≤ o.least
  l2 : o.least ≤ o.most
  l3 : o.most ≤ 1099511627776
  w1 : 1 ≤ o.window
  w2 : o.window ≤ 1048576
  t1 : 0 ≤ o.till
  t2 : o.till ≤ 1099511627776
def fitP (a b : Ofr) : Prop := a.who ≠ b.who ∧ a.rules = b.rules ∧ a.seats = b.seats ∧ a.least ≤ b.most ∧ b.least ≤ a.most
instance (a b : Ofr) : Decidable (fitP a b) := by unfold fitP; infer_instance
theorem okk (o : Ofr) : o.Ok ↔ (2 ≤ o.seats ∧ o.seats ≤ 8 ∧ 1 ≤ o.least ∧ o.least ≤ o.most ∧ o.most ≤ 1099511627776 ∧ 1 ≤ o.window ∧ o.window ≤ 1048576 ∧ 0 ≤ o.till ∧ o.till ≤ 1099511627776) :=
  ⟨fun h => ⟨h.s1, h.s2, h.l1, h.l2, h.l3, h.w1, h.w2, h.t1, h.t2⟩, fun ⟨a, b, c, d, e, f, g, h, i⟩ => ⟨a, b, c, d, e, f, g, h, i⟩⟩
instance (o : Ofr) : Decidable o.Ok := decidable_of_iff _ (okk o).symm
/-- What is looked at, one behind the other. -/
theorem ok_cases (o : Ofr) : (¬ o.Ok ∧ ¬ 2 ≤ o.seats) ∨ (¬ o.Ok ∧ 2 ≤ o.seats ∧ ¬ o.seats ≤ 8) ∨ (¬ o.Ok ∧ 2 ≤ o.seats ∧ o.seats ≤ 8 ∧ ¬ 1 ≤ o.least) ∨ (¬ o.Ok ∧ 2 ≤ o.seats ∧ o.seats ≤ 8 ∧ 1 ≤ o.least ∧ ¬ o.least ≤ o.most) ∨
    (¬ o.Ok ∧ 2 ≤ o.seats ∧ o.seats ≤ 8 ∧ 1 ≤ o.least ∧ o.least ≤ o.most ∧ ¬ o.most ≤ 1099511627776) ∨ (¬ o.Ok ∧ 2 ≤ o.seats ∧ o.seats ≤ 8 ∧ 1 ≤ o.least ∧ o.least ≤ o.most ∧ o.most ≤ 1099511627776 ∧ ¬ 1 ≤ o.window) ∨
    (¬ o.Ok ∧ 2 ≤ o.seats ∧ o.seats ≤ 8 ∧ 1 ≤ o.least ∧ o.least ≤ o.most ∧ o.most ≤ 1099511627776 ∧ 1 ≤ o.window ∧ ¬ o.window ≤ 1048576) ∨
    (¬ o.Ok ∧ 2 ≤ o.seats ∧ o.seats ≤ 8 ∧ 1 ≤ o.least ∧ o.least ≤ o.most ∧ o.most ≤ 1099511627776 ∧ 1 ≤ o.window ∧ o.window ≤ 1048576 ∧ ¬ 0 ≤ o.till) ∨
    (¬ o.Ok ∧ 2 ≤ o.seats ∧ o.seats ≤ 8 ∧ 1 ≤ o.least ∧ o.least ≤ o.most ∧ o.most ≤ 1099511627776 ∧ 1 ≤ o.window ∧ o.window ≤ 1048576 ∧ 0 ≤ o.till ∧ ¬ o.till ≤ 1099511627776) ∨
    (o.Ok ∧ 2 ≤ o.seats ∧ o.seats ≤ 8 ∧ 1 ≤ o.least ∧ o.least ≤ o.most ∧ o.most ≤ 1099511627776 ∧ 1 ≤ o.window ∧ o.window ≤ 1048576 ∧ 0 ≤ o.till ∧ o.till ≤ 1099511627776) := by
  by_cases h1 : 2 ≤ o.seats
  rotate_left
  · exact Or.inl ⟨fun h => h1 h.s1, h1⟩
  by_cases h2 : o.seats ≤ 8
  rotate_left
  · exact Or.inr (Or.inl ⟨fun h => h2 h.s2, h1, h2⟩)
  by_cases h3 : 1 ≤ o.least
  rotate_left
  · exact Or.inr (Or.inr (Or.inl ⟨fun h => h3 h.l1, h1, h2, h3⟩))
  by_cases h4 : o.least ≤ o.most
  rotate_left
  · exact Or.inr (Or.inr (Or.inr (Or.inl ⟨fun h => h4 h.l2, h1, h2, h3, h4⟩)))
  by_cases h5 : o.most ≤ 1099511627776
  rotate_left
  · exact Or.inr (Or.inr (Or.inr (Or.inr (Or.inl ⟨fun h => h5 h.l3, h1, h2, h3, h4, h5⟩))))
  by_cases h6 : 1 ≤ o.window
  rotate_left
  · exact Or.inr (Or.inr (Or.inr (Or.inr (Or.inr (Or.inl ⟨fun h => h6 h.w1, h1, h2, h3, h4, h5, h6⟩)))))
  by_cases h7 : o.window ≤ 1048576
  rotate_left
  · exact Or.inr (Or.inr (Or.inr (Or.inr (Or.inr (Or.inr (Or.inl ⟨fun h => h7 h.w2, h1, h2, h3, h4, h5, h6, h7⟩))))))
  by_cases h8 : 0 ≤ o.till
  rotate_left
  · exact Or.inr (Or.inr (Or.inr (Or.inr (Or.inr (Or.inr (Or.inr (Or.inl ⟨fun h => h8 h.t1, h1, h2, h3, h4, h5, h6, h7, h8⟩)))))))
  by_cases h9 : o.till ≤ 1099511627776
  rotate_left
  · exact Or.inr (Or.inr (Or.inr (Or.inr (Or.inr (Or.inr (Or.inr (Or.inr (Or.inl ⟨fun h => h9 h.t2, h1, h2, h3, h4, h5, h6, h7, h8, h9⟩))))))))
  exact Or.inr (Or.inr (Or.inr (Or.inr (Or.inr (Or.inr (Or.inr (Or.inr (Or.inr (⟨⟨h1, h2, h3, h4, h5, h6, h7, h8, h9⟩, h1, h2, h3, h4, h5, h6, h7, h8, h9⟩)))))))))
attribute [local irreducible] CG NG SG Vals Der Row Blk MapIs IterAt addI xorI orI andI shlI shrI mulI
set_option maxHeartbeats 16000000 in
theorem check_spec (o : Ofr) (w : World) : Ret Tryz.prog 23 #[ov o] w (.int .i64 (if o.Ok then 0 else 2)) := by
  refine enter1 Tryz.func23 rfl Tryz.ntmps23 rfl ?_
  repeat (first|apply cA|apply cB|apply cD|apply cE|apply cF|apply cH|apply cM|refine cZ rfl rfl rfl rfl (by first|((first|apply qmv|apply qas|apply qlc|apply qla|apply qfa|apply qpk|apply qls|apply qei|apply qed|apply qnd|apply qle|apply qgt|apply qge)<;>(first|exact rfl|assumption|exact dct (by first|assumption|omega)|exact dcf (by first|assumption|omega)|exact List.not_mem_nil|apply dc_length|fail))|fail) ?_)
  refine SG.box rfl rfl rfl (by exact rho_of rfl) (fun b1 w1 hk1 hb1 hB1 => ?_)
  have hB1 : Blk w1 b1 (.cells (ec o).toArray 41) := hB1
  obtain ⟨-, -, r2, r3, r4, r5, r6, -⟩ := ec_rows hB1
  rcases ok_cases o with ⟨h0, h1⟩ | ⟨h0, h1, h2⟩ | ⟨h0, h1, h2, h3⟩ | ⟨h0, h1, h2, h3, h4⟩ | ⟨h0, h1, h2, h3, h4, h5⟩ | ⟨h0, h1, h2, h3, h4, h5, h6⟩ | ⟨h0, h1, h2, h3, h4, h5, h6, h7⟩ | ⟨h0, h1, h2, h3, h4, h5, h6, h7, h8⟩ | ⟨h0, h1, h2, h3, h4, h5, h6, h7, h8, h9⟩ | ⟨h0, h1, h2, h3, h4, h5, h6, h7, h8, h9⟩
  all_goals
    repeat (first | first|apply cA|apply cB|apply cD|apply cE|apply cF|apply cH|apply cM|refine cZ rfl rfl rfl rfl (by first|((first|apply qmv|apply qas|apply qlc|apply qla|apply qfa|apply qpk|apply qls|apply qei|apply qed|apply qnd|apply qle|apply qgt|apply qge)<;>(first|exact rfl|assumption|exact dct (by first|assumption|omega)|exact dcf (by first|assumption|omega)|exact List.not_mem_nil|apply dc_length|fail))|fail) ?_ | refine dA rfl rfl ?_)
    first
      | refine dD rfl (by exact rho_of rfl) rfl ?_
      | refine dE rfl (by exact rho_of rfl) rfl ?_
    repeat (first|apply cA|apply cB|apply cD|apply cE|apply cF|apply cH|apply cM|refine cZ rfl rfl rfl rfl (by first|((first|apply qmv|apply qas|apply qlc|apply qla|apply qfa|apply qpk|apply qls|apply qei|apply qed|apply qnd|apply qle|apply qgt|apply qge)<;>(first|exact rfl|assumption|exact dct (by first|assumption|omega)|exact dcf (by first|assumption|omega)|exact List.not_mem_nil|apply dc_length|fail))|fail) ?_)
    refine ret1 (Or.inl rfl) Tryz.results23 (by first | exact ResV.tmp rfl | exact ResV.agg rfl rfl (by assumption) (by first | exact dc_length _ | exact nc_length _ | exact rc_length _ _ _ | exact ec_length _ | exact dl_length _ _ _ _ | rfl) | exact ResV.cell rfl rfl (by assumption)) ?_
    first
      | rw [if_neg h0]; exact ⟨rfl, hk1⟩
      | rw [if_pos h0]; exact ⟨rfl, hk1⟩
set_option maxHeartbeats 16000000 in
theorem right_spec (o : Ofr) (w : World) : Ret Tryz.prog 22 #[ov o] w (.bool (decide o.Ok)) := by
  refine enter1 Tryz.func22 rfl Tryz.ntmps22 rfl ?_
  repeat (first|apply cA|apply cB|apply cD|apply cE|apply cF|apply cH|apply cM|refine cZ rfl rfl rfl rfl (by first|((first|apply qmv|apply qas|apply qlc|apply qla|apply qfa|apply qpk|apply qls|apply qei|apply qed|apply qnd|apply qle|apply qgt|apply qge)<;>(first|exact rfl|assumption|exact dct (by first|assumption|omega)|exact dcf (by first|assumption|omega)|exact List.not_mem_nil|apply dc_length|fail))|fail) ?_)
  refine SG.box rfl rfl rfl (by exact rho_of rfl) (fun b1 w1 hk1 hb1 hB1 => ?_)
  have hB1 : Blk w1 b1 (.cells (ec o).toArray 33) := hB1
  obtain ⟨-, -, r2, r3, r4, r5, r6, -⟩ := ec_rows hB1
  rcases ok_cases o with ⟨h0, h1⟩ | ⟨h0, h1, h2⟩ | ⟨h0, h1, h2, h3⟩ | ⟨h0, h1, h2, h3, h4⟩ | ⟨h0, h1, h2, h3, h4, h5⟩ | ⟨h0, h1, h2, h3, h4, h5, h6⟩ | ⟨h0, h1, h2, h3, h4, h5, h6, h7⟩ | ⟨h0, h1, h2, h3, h4, h5, h6, h7, h8⟩ | ⟨h0, h1, h2, h3, h4, h5, h6, h7, h8, h9⟩ | ⟨h0, h1, h2, h3, h4, h5, h6, h7, h8, h9⟩
  all_goals
    repeat (first | first|apply cA|apply cB|apply cD|apply cE|apply cF|apply cH|apply cM|refine cZ rfl rfl rfl rfl (by first|((first|apply qmv|apply qas|apply qlc|apply qla|apply qfa|apply qpk|apply qls|apply qei|apply qed|apply qnd|apply qle|apply qgt|apply qge)<;>(first|exact rfl|assumption|exact dct (by first|assumption|omega)|exact dcf (by first|assumption|omega)|exact List.not_mem_nil|apply dc_length|fail))|fail) ?_ | refine dA rfl rfl ?_)
    refine ret1 (Or.inl rfl) Tryz.results22 (by first | exact ResV.tmp rfl | exact ResV.agg rfl rfl (by assumption) (by first | exact dc_length _ | exact nc_length _ | exact rc_length _ _ _ | exact ec_length _ | exact dl_length _ _ _ _ | rfl) | exact ResV.cell rfl rfl (by assumption)) ?_
    first
      | rw [decide_eq_false h0]; exact ⟨rfl, hk1⟩
      | rw [decide_eq_true h0]; exact ⟨rfl, hk1⟩
theorem fit_cases (a b : Ofr) : (¬ fitP a b ∧ a.who = b.who) ∨ (¬ fitP a b ∧ a.who ≠ b.who ∧ a.rules ≠ b.rules) ∨ (¬ fitP a b ∧ a.who ≠ b.who ∧ a.rules = b.rules ∧ a.seats ≠ b.seats) ∨ (¬ fitP a b ∧ a.who ≠ b.who ∧ a.rules = b.rules ∧ a.seats = b.seats ∧ ¬ a.least ≤ b.most) ∨
    (¬ fitP a b ∧ a.who ≠ b.who ∧ a.rules = b.rules ∧ a.seats = b.seats ∧ a.least ≤ b.most ∧ ¬ b.least ≤ a.most) ∨ (fitP a b ∧ a.who ≠ b.who ∧ a.rules = b.rules ∧ a.seats = b.seats ∧ a.least ≤ b.most ∧ b.least ≤ a.most) := by
  unfold fitP
  by_cases h1 : a.who = b.who
  · exact Or.inl ⟨fun h => h.1 h1, h1⟩
  by_cases h2 : a.rules = b.rules
  rotate_left
  · exact Or.inr (Or.inl ⟨fun h => h2 h.2.1, h1, h2⟩)
  by_cases h3 : a.seats = b.seats
  rotate_left
  · exact Or.inr (Or.inr (Or.inl ⟨fun h => h3 h.2.2.1, h1, h2, h3⟩))
  by_cases h4 : a.least ≤ b.most
  rotate_left
  · exact Or.inr (Or.inr (Or.inr (Or.inl ⟨fun h => h4 h.2.2.2.1, h1, h2, h3, h4⟩)))
  by_cases h5 : b.least ≤ a.most
  rotate_left
  · exact Or.inr (Or.inr (Or.inr (Or.inr (Or.inl ⟨fun h => h5 h.2.2.2.2, h1, h2, h3, h4, h5⟩))))
  exact Or.inr (Or.inr (Or.inr (Or.inr (Or.inr ⟨⟨h1, h2, h3, h4, h5⟩, h1, h2, h3, h4, h5⟩))))
set_option maxHeartbeats 16000000 in
theorem fit_spec (a b : Ofr) (w : World) : Ret Tryz.prog 52 #[ov a, ov b] w (.bool (decide (fitP a b))) := by
  refine enter2 Tryz.func52 rfl Tryz.ntmps52 rfl ?_
  repeat (first|apply cA|apply cB|apply cD|apply cE|apply cF|apply cH|apply cM|refine cZ rfl rfl rfl rfl (by first|((first|apply qmv|apply qas|apply qlc|apply qla|apply qfa|apply qpk|apply qls|apply qei|apply qed|apply qnd|apply qle|apply qgt|apply qge)<;>(first|exact rfl|assumption|exact dct (by first|assumption|omega)|exact dcf (by first|assumption|omega)|exact List.not_mem_nil|apply dc_length|fail))|fail) ?_)
  refine SG.box rfl rfl rfl (by exact rho_of rfl) (fun b1 w1 hk1 hb1 hB1 => ?_)
  have hB1 : Blk w1 b1 (.cells (ec a).toArray 41) := hB1
  refine SG.box rfl rfl rfl (by exact rho_of rfl) (fun b2 w2 hk2 hb2 hB2 => ?_)
  have hB2 : Blk w2 b2 (.cells (ec b).toArray 41) := hB2
  have hkk := hk1.trans hk2
  obtain ⟨a0, a1, a2, a3, a4, -, -, -⟩ := ec_rows (hB1.kp0 hk2)
  obtain ⟨r0, r1, r2, r3, r4, -, -, -⟩ := ec_rows hB2
  rcases fit_cases a b with ⟨h0, h1⟩ | ⟨h0, h1, h2⟩ | ⟨h0, h1, h2, h3⟩ | ⟨h0, h1, h2, h3, h4⟩ | ⟨h0, h1, h2, h3, h4, h5⟩ | ⟨h0, h1, h2, h3, h4, h5⟩
  all_goals
    repeat (first | first|apply cA|apply cB|apply cD|apply cE|apply cF|apply cH|apply cM|refine cZ rfl rfl rfl rfl (by first|((first|apply qmv|apply qas|apply qlc|apply qla|apply qfa|apply qpk|apply qls|apply qei|apply qed|apply qnd|apply qle|apply qgt|apply qge)<;>(first|exact rfl|assumption|exact dct (by first|assumption|omega)|exact dcf (by first|assumption|omega)|exact List.not_mem_nil|apply dc_length|fail))|fail) ?_ | refine dA rfl rfl ?_)
    refine ret1 (Or.inl rfl) Tryz.results52 (by first | exact ResV.tmp rfl | exact ResV.agg rfl rfl (by assumption) (by first | exact dc_length _ | exact nc_length _ | exact rc_length _ _ _ | exact ec_length _ | exact dl_length _ _ _ _ | rfl) | exact ResV.cell rfl rfl (by assumption)) ?_
    first
      | rw [decide_eq_false h0]; exact ⟨rfl, hkk⟩
      | rw [decide_eq_true h0]; exact ⟨rfl, hkk⟩
set_option maxHeartbeats 16000000 in
theorem rfit_spec (a b : Ofr) (w : World) : Ret Tryz.prog 28 #[ov a, ov b] w (.bool (decide (fitP a b))) := by
  refine enter2 Tryz.func28 rfl Tryz.ntmps28 rfl ?_
  repeat (first|apply cA|apply cB|apply cD|apply cE|apply cF|apply cH|apply cM|refine cZ rfl rfl rfl rfl (by first|((first|apply qmv|apply qas|apply qlc|apply qla|apply qfa|apply qpk|apply qls|apply qei|apply qed|apply qnd|apply qle|apply qgt|apply qge)<;>(first|exact rfl|assumption|exact dct (by first|assumption|omega)|exact dcf (by first|assumption|omega)|exact List.not_mem_nil|apply dc_length|fail))|fail) ?_)
  refine SG.box rfl rfl rfl (by exact rho_of rfl) (fun b1 w1 hk1 hb1 hB1 => ?_)
  have hB1 : Blk w1 b1 (.cells (ec a).toArray 33) := hB1
  refine SG.box rfl rfl rfl (by exact rho_of rfl) (fun b2 w2 hk2 hb2 hB2 => ?_)
  have hB2 : Blk w2 b2 (.cells (ec b).toArray 33) := hB2
  have hkk := hk1.trans hk2
  obtain ⟨a0, a1, a2, a3, a4, -, -, -⟩ := ec_rows (hB1.kp0 hk2)
  obtain ⟨r0, r1, r2, r3, r4, -, -, -⟩ := ec_rows hB2
  rcases fit_cases a b with ⟨h0, h1⟩ | ⟨h0, h1, h2⟩ | ⟨h0, h1, h2, h3⟩ | ⟨h0, h1, h2, h3, h4⟩ | ⟨h0, h1, h2, h3, h4, h5⟩ | ⟨h0, h1, h2, h3, h4, h5⟩
  all_goals
    repeat (first | first|apply cA|apply cB|apply cD|apply cE|apply cF|apply cH|apply cM|refine cZ rfl rfl rfl rfl (by first|((first|apply qmv|apply qas|apply qlc|apply qla|apply qfa|apply qpk|apply qls|apply qei|apply qed|apply qnd|apply qle|apply qgt|apply qge)<;>(first|exact rfl|assumption|exact dct (by first|assumption|omega)|exact dcf (by first|assumption|omega)|exact List.not_mem_nil|apply dc_length|fail))|fail) ?_ | refine dA rfl rfl ?_)
    refine ret1 (Or.inl rfl) Tryz.results28 (by first | exact ResV.tmp rfl | exact ResV.agg rfl rfl (by assumption) (by first | exact dc_length _ | exact nc_length _ | exact rc_length _ _ _ | exact ec_length _ | exact dl_length _ _ _ _ | rfl) | exact ResV.cell rfl rfl (by assumption)) ?_
    first
      | rw [decide_eq_false h0]; exact ⟨rfl, hkk⟩
      | rw [decide_eq_true h0]; exact ⟨rfl, hkk⟩
end Go.Proofs.YtnoipmimddoioaaGreat
namespace Go.Proofs.YtnoipmimddoioaaGreat
open Go.ChangeShapes Go.WideShapes Go.ChangeAt Go.RowKit
set_option linter.unusedVariables false
theorem own : ownKnob Tryz.prog.godebug = none := by kernel_rfl
theorem laidOut : laidOutB Tryz.prog = true := by kernel_rfl
theorem cells5 : Tryz.prog.cellsOf 5 = 1 := by kernel_rfl
theorem cells3 : Tryz.prog.cellsOf 3 = 1 := by kernel_rfl
theorem cellsD : Tryz.prog.cellsOf 31 = 8 := by kernel_rfl
theorem cellsO : Tryz.prog.cellsOf 33 = 21 := by kernel_rfl
/-- The elements of a slice, by how one is read. -/
theorem elems_of {H α : Type} {en : TypeId × Value → H} {P : Program} {w : World} {e : TypeId} {a : Option Addr} {n : Nat} (enc : α → List Value) (p : α → Prop) (h : SlOf en P w e a n)
    (rd : ∀ cs fuel y, DataW.trod en P w 0 (fun _ => true) true fuel e cs = some y → ∃ x : α, cs = enc x ∧ p x) : ∃ l : List α, l.length = n ∧ Sl enc (P.cellsOf e) w a l ∧ ∀ x ∈ l, p x := by
  have key : ∀ i : _root_.Fin n, ∃ x : α, (∃ b off, a = some ⟨b, off, none⟩ ∧ Row w b (off + i.1 * P.cellsOf e) (enc x)) ∧ p x := by
    intro i
    obtain ⟨b, off, cs, fuel, y, h1, h2, h3, h4⟩ := h.row i.1 i.2
    obtain ⟨x, rfl, hp⟩ := rd cs fuel y h4
    exact ⟨x, ⟨b, off, h1, h2⟩, hp⟩
  refine ⟨List.ofFn (fun i => Classical.choose (key i)), by simp, fun i x hx => ?_, fun x hx => ?_⟩
  · rw [List.getElem?_ofFn] at hx
    split at hx
    · rename_i hi
      cases hx
      exact (Classical.choose_spec (key ⟨i, hi⟩)).1
    · cases hx
  · obtain ⟨i, rfl⟩ := List.mem_ofFn.1 hx
    exact (Classical.choose_spec (key i)).2
theorem cut_drop {α : Type} (l : List α) (a n : Nat) : l.drop a = (l.drop a).take n ++ l.drop (a + n) := by
  rw [← List.drop_drop, List.take_append_drop]
set_option maxRecDepth 100000 in
theorem ofc_of {H : Type} {enc : TypeId × Value → H} {w : World} {cs : List Value} {fuel : Nat} {y : DataW H × List MemPlace} (h : DataW.trod enc Tryz.prog w 0 (fun _ => true) true fuel 33 cs = some y) : ∃ o : Ofr, cs = ec o := by
  obtain ⟨xs, m, _, _, hl, hlen, hf⟩ := DataW.trod_struct Tryz.underlying33 h
  rw [cellsO] at hl
  match xs, hlen with
  | [y0, y1, y2, y3, y4, y5, y6], _ =>
    have h0 : DataW.trod enc Tryz.prog w 0 (fun _ => true) true m 31 ((cs.drop 0).take (Tryz.prog.cellsOf 31)) = some y0 := hf 0 _ rfl
    have h1 : DataW.trod enc Tryz.prog w 0 (fun _ => true) true m 31 ((cs.drop 8).take (Tryz.prog.cellsOf 31)) = some y1 := hf 1 _ rfl
    have h2 : DataW.trod enc Tryz.prog w 0 (fun _ => true) true m 3 ((cs.drop 16).take (Tryz.prog.cellsOf 3)) = some y2 := hf 2 _ rfl
    have h3 : DataW.trod enc Tryz.prog w 0 (fun _ => true) true m 3 ((cs.drop 17).take (Tryz.prog.cellsOf 3)) = some y3 := hf 3 _ rfl
    have h4 : DataW.trod enc Tryz.prog w 0 (fun _ => true) true m 3 ((cs.drop 18).take (Tryz.prog.cellsOf 3)) = some y4 := hf 4 _ rfl
    have h5 : DataW.trod enc Tryz.prog w 0 (fun _ => true) true m 3 ((cs.drop 19).take (Tryz.prog.cellsOf 3)) = some y5 := hf 5 _ rfl
    have h6 : DataW.trod enc Tryz.prog w 0 (fun _ => true) true m 3 ((cs.drop 20).take (Tryz.prog.cellsOf 3)) = some y6 := hf 6 _ rfl
    rw [cellsD] at h0 h1
    rw [cells3] at h2 h3 h4 h5 h6
    obtain ⟨d0, e0⟩ := arr_bytes Tryz.underlying31 Tryz.underlying5 cells5 cellsD h0
    obtain ⟨d1, e1⟩ := arr_bytes Tryz.underlying31 Tryz.underlying5 cells5 cellsD h1
    obtain ⟨n2, e2, _, _⟩ := DataW.trod_int Tryz.underlying3 h2
    obtain ⟨n3, e3, _, _⟩ := DataW.trod_int Tryz.underlying3 h3
    obtain ⟨n4, e4, _, _⟩ := DataW.trod_int Tryz.underlying3 h4
    obtain ⟨n5, e5, _, _⟩ := DataW.trod_int Tryz.underlying3 h5
    obtain ⟨n6, e6, _, _⟩ := DataW.trod_int Tryz.underlying3 h6
    refine ⟨⟨d0, d1, n2, n3, n4, n5, n6⟩, ?_⟩
    have hd : cs.drop (20 + 1) = [] := List.drop_of_length_le (by omega)
    have e : cs = cs.drop 0 := rfl
    rw [e, cut_drop cs 0 8, e0, cut_drop cs (0 + 8) 8, e1, cut_drop cs (0 + 8 + 8) 1, e2, cut_drop cs (0 + 8 + 8 + 1) 1, e3, cut_drop cs (0 + 8 + 8 + 1 + 1) 1, e4, cut_drop cs (0 + 8 + 8 + 1 + 1 + 1) 1, e5, cut_drop cs (0 + 8 + 8 + 1 + 1 + 1 + 1) 1, e6, hd]
    rfl
end Go.Proofs.YtnoipmimddoioaaGreat
namespace Go.Proofs.YtnoipmimddoioaaGreat
open Go.Proofs
set_option linter.unusedVariables false
def un (z : Int) : Nat := (IntKind.wrap .u64 z).toNat
theorem un_eq (z : Int) : IntKind.wrap .u64 z = ((un z : Nat) : Int) := by
  have := wrap64_bd z
  unfold un
  omega
theorem un_lt (z : Int) : un z < 18446744073709551616 := by
  have := wrap64_bd z
  unfold un
  omega
def offT : List UInt8 := [111, 102, 102, 101, 114]
def dealT : List UInt8 := [100, 101, 97, 108]
def putZ (zs : List Int) : List UInt8 := zs.flatMap (fun z => putU (un z))
theorem putU_len (n : Nat) : (putU n).length ≤ 11 := putN_len 10 n
theorem putZ_len : ∀ zs : List Int, (putZ zs).length ≤ 11 * zs.length
  | [] => Nat.le_refl _
  | z :: zs => by
    have h1 := putU_len (un z)
    have h2 := putZ_len zs
    simp only [putZ, List.flatMap_cons, List.length_append, List.length_cons] at h2 ⊢
    omega
def digB (o : Ofr) : List UInt8 := putU 5 ++ offT ++ putU (num o.who) ++ putU (num o.rules) ++ putZ [o.seats, o.least, o.most, o.window, o.till]
def digO (o : Ofr) : Dg := ofI (digB o)
abbrev ic (z : Int) : List Value := [.int .i64 z]
theorem ic_len (x : Int) : (ic x).length = 1 := rfl
theorem putZ_snoc (zs : List Int) (i : Nat) (h : i < zs.length) : putZ (zs.take (i + 1)) = putZ (zs.take i) ++ putU (un zs[i]) := by
  unfold putZ
  rw [List.take_succ_eq_append_getElem h, List.flatMap_append]
  simp only [List.flatMap_cons, List.flatMap_nil, List.append_nil]
attribute [local irreducible] CG NG SG Vals Der Row Blk MapIs IterAt addI xorI orI andI shlI shrI mulI
set_option maxHeartbeats 16000000 in
theorem put_spec {w : World} {a : Option Addr} {c : Nat} {l : List UInt8} {a2 : Option Addr} {c2 : Nat} {zs : List Int} (hB : Bs w a c l) (hS : Sl ic 1 w a2 zs) (hz : 0 < zs.length) (hz2 : zs.length ≤ 100) (hl : l.length ≤ 1000000) : RetO Tryz.prog 5 by1 1 73 #[.slice a l.length c, .slice a2 zs.length c2] w (l ++ putZ zs) := by
  refine enter2 Tryz.func73 rfl Tryz.ntmps73 rfl ?_
  repeat (first|apply cA|apply cB|apply cD|apply cE|apply cF|apply cG|apply cH|apply cJ|apply cU|refine cV rfl ?_|apply cY|refine cZ rfl rfl rfl rfl (by first|((first|apply qmv|apply qas|apply qlc|apply qla|apply qfa|apply qix|apply qls|apply qad|apply qln|apply qcv)<;>(first|exact rfl|assumption|exact Ar.mk (by omega)|exact dct (by first|assumption|omega)|exact dcf (by first|assumption|omega)|exact List.not_mem_nil|apply dc_length|fail))|fail) ?_)
  refine CG.loop (X := Value × Nat) (fun x => [(0, x.1), (7, .slice a2 zs.length c2), (8, .int .i64 (zs.length : Int)), (9, .int .i64 (x.2 : Int))])
    (fun x w' => x.2 ≤ zs.length ∧ Kp [] w w' ∧ (∃ a' c', x.1 = .slice a' (l ++ putZ (zs.take x.2)).length c' ∧ Bs w' a' c' (l ++ putZ (zs.take x.2))) ∧ (0 < x.2 → w'.ownsRow w.heap.size 5 1 x.1 (l ++ putZ (zs.take x.2)).length (flt by1 (l ++ putZ (zs.take x.2))))) (fun x => zs.length - x.2) (.slice a l.length c, 0) ⟨by simp only; omega, Kp.refl _ _, ⟨a, c, by simp [putZ], by simpa [putZ] using hB⟩, fun h => absurd h (Nat.lt_irrefl _)⟩ (by (repeat' (first | exact True.intro | exact rfl | refine And.intro ?_ ?_))) ?_
  rintro ⟨v, i⟩ w1 ⟨hi, hk1, ⟨a1, c1, hv, hB1⟩, ho1⟩
  simp only at hi hv hB1 ho1
  subst hv
  refine CG.to [(0, .slice a1 (l ++ putZ (zs.take i)).length c1), (7, .slice a2 zs.length c2), (8, .int .i64 (zs.length : Int)), (9, .int .i64 (i : Int))] (by (repeat' (first | exact True.intro | exact rfl | refine And.intro ?_ ?_))) ?_
  by_cases hlt : i < zs.length
  · have g1 : (i : Int) < (zs.length : Int) := by omega
    obtain ⟨bz, oz, rfl, hrz⟩ := (hS.kp0 hk1).at hlt
    have hlen : (l ++ putZ (zs.take i)).length ≤ 100000000 := by
      have := putZ_len (zs.take i)
      rw [List.length_append]
      rw [List.length_take] at this
      omega
    have hp := putnum_spec hB1 (un zs[i]) (un_lt _) hlen
    repeat (first|apply cA|apply cB|apply cD|apply cE|apply cF|apply cG|apply cH|apply cJ|apply cU|refine cV rfl ?_|apply cY|refine cZ rfl rfl rfl rfl (by first|((first|apply qmv|apply qas|apply qlc|apply qla|apply qfa|apply qix|apply qls|apply qad|apply qln|apply qcv)<;>(first|exact rfl|assumption|exact Ar.mk (by omega)|exact dct (by first|assumption|omega)|exact dcf (by first|assumption|omega)|exact List.not_mem_nil|apply dc_length|fail))|fail) ?_)
    refine dD rfl (by exact rho_of rfl) rfl ?_
    repeat (first|apply cA|apply cB|apply cD|apply cE|apply cF|apply cG|apply cH|apply cJ|apply cU|refine cV rfl ?_|apply cY|refine cZ rfl rfl rfl rfl (by first|((first|apply qmv|apply qas|apply qlc|apply qla|apply qfa|apply qix|apply qls|apply qad|apply qln|apply qcv)<;>(first|exact rfl|assumption|exact Ar.mk (by omega)|exact dct (by first|assumption|omega)|exact dcf (by first|assumption|omega)|exact List.not_mem_nil|apply dc_length|fail))|fail) ?_)
    rw [un_eq]
    refine SG.call rfl rfl rfl (by repeat' (first | exact True.intro | exact rho_of rfl | refine And.intro ?_ ?_)) (hp.mono (fun e w2 hh => ?_))
    obtain ⟨v2, he, ho2, hk2⟩ := hh
    refine ⟨_, he, ?_⟩
    rw [List.append_assoc, ← putZ_snoc zs i hlt] at ho2
    have ho2 := own_mono ho2 hk1.size
    obtain ⟨a3, c3, e3, hB3⟩ := Bs.own ho2
    repeat (first|apply cA|apply cB|apply cD|apply cE|apply cF|apply cG|apply cH|apply cJ|apply cU|refine cV rfl ?_|apply cY|refine cZ rfl rfl rfl rfl (by first|((first|apply qmv|apply qas|apply qlc|apply qla|apply qfa|apply qix|apply qls|apply qad|apply qln|apply qcv)<;>(first|exact rfl|assumption|exact Ar.mk (by omega)|exact dct (by first|assumption|omega)|exact dcf (by first|assumption|omega)|exact List.not_mem_nil|apply dc_length|fail))|fail) ?_)
    exact NG.round (v2, i + 1) (by (repeat' (first | exact True.intro | exact rfl | refine And.intro ?_ ?_))) ⟨by simp only; omega, hk1.trans hk2, ⟨a3, c3, e3, hB3⟩, fun _ => ho2⟩ (by simp only; omega)
  · have g1 : ¬ (i : Int) < (zs.length : Int) := by omega
    have ei : i = zs.length := by omega
    subst ei
    rw [List.take_of_length_le (Nat.le_refl _)] at ho1 ⊢
    repeat (first|apply cA|apply cB|apply cD|apply cE|apply cF|apply cG|apply cH|apply cJ|apply cU|refine cV rfl ?_|apply cY|refine cZ rfl rfl rfl rfl (by first|((first|apply qmv|apply qas|apply qlc|apply qla|apply qfa|apply qix|apply qls|apply qad|apply qln|apply qcv)<;>(first|exact rfl|assumption|exact Ar.mk (by omega)|exact dct (by first|assumption|omega)|exact dcf (by first|assumption|omega)|exact List.not_mem_nil|apply dc_length|fail))|fail) ?_)
    refine dE rfl (by exact rho_of rfl) rfl ?_
    repeat (first|apply cA|apply cB|apply cD|apply cE|apply cF|apply cG|apply cH|apply cJ|apply cU|refine cV rfl ?_|apply cY|refine cZ rfl rfl rfl rfl (by first|((first|apply qmv|apply qas|apply qlc|apply qla|apply qfa|apply qix|apply qls|apply qad|apply qln|apply qcv)<;>(first|exact rfl|assumption|exact Ar.mk (by omega)|exact dct (by first|assumption|omega)|exact dcf (by first|assumption|omega)|exact List.not_mem_nil|apply dc_length|fail))|fail) ?_)
    refine ret1 (Or.inl rfl) Tryz.results73 (by first | exact ResV.tmp rfl | exact ResV.agg rfl rfl (by assumption) (by first | exact dc_length _ | exact nc_length _ | exact rc_length _ _ _ | exact ec_length _ | exact dl_length _ _ _ _ | rfl) | exact ResV.cell rfl rfl (by assumption)) ?_
    exact ⟨_, rfl, ho1 hz, hk1⟩
theorem bsi5 (a b c d e : Int) (w : World) : (Instr.buildSlice 104 5 #[(0, .int .i64 a), (1, .int .i64 b), (2, .int .i64 c), (3, .int .i64 d), (4, .int .i64 e)]).run Tryz.prog w = .ok (.slice (some ⟨w.heap.size, 0, none⟩) 5 5) { w with heap := w.heap.push (.cells (flt ic [a, b, c, d, e]).toArray 3) } := by kernel_rfl
theorem bsi2 (a b : Int) (w : World) : (Instr.buildSlice 104 2 #[(0, .int .i64 a), (1, .int .i64 b)]).run Tryz.prog w = .ok (.slice (some ⟨w.heap.size, 0, none⟩) 2 2) { w with heap := w.heap.push (.cells (flt ic [a, b]).toArray 3) } := by kernel_rfl
set_option maxHeartbeats 16000000 in
theorem digest_spec (o : Ofr) (w : World) : Ret Tryz.prog 54 #[ov o] w (dv (digO o)) := by
  refine enter1 Tryz.func54 rfl Tryz.ntmps54 rfl ?_
  repeat (first|apply cA|apply cB|apply cD|apply cE|apply cF|apply cG|apply cH|apply cJ|apply cU|refine cV rfl ?_|apply cY|refine cZ rfl rfl rfl rfl (by first|((first|apply qmv|apply qas|apply qlc|apply qla|apply qfa|apply qix|apply qls|apply qad|apply qln|apply qcv)<;>(first|exact rfl|assumption|exact Ar.mk (by omega)|exact dct (by first|assumption|omega)|exact dcf (by first|assumption|omega)|exact List.not_mem_nil|apply dc_length|fail))|fail) ?_)
  refine SG.box rfl rfl rfl (by exact rho_of rfl) (fun b1 w1 hk1 hb1 hB1 => ?_)
  have hB1 : Blk w1 b1 (.cells (ec o).toArray 41) := hB1
  refine SG.alloc rfl rfl rfl (fun b2 w2 hk2 hb2 hB2 => ?_)
  have hB2 : Blk w2 b2 (.cells (dc zd).toArray 39) := hB2
  have s1 := hk1.size
  have k2 := hk1.trans hk2
  repeat (first|apply cA|apply cB|apply cD|apply cE|apply cF|apply cG|apply cH|apply cJ|apply cU|refine cV rfl ?_|apply cY|refine cZ rfl rfl rfl rfl (by first|((first|apply qmv|apply qas|apply qlc|apply qla|apply qfa|apply qix|apply qls|apply qad|apply qln|apply qcv)<;>(first|exact rfl|assumption|exact Ar.mk (by omega)|exact dct (by first|assumption|omega)|exact dcf (by first|assumption|omega)|exact List.not_mem_nil|apply dc_length|fail))|fail) ?_)
  refine SG.call rfl rfl rfl (by repeat' (first | exact True.intro | exact rho_of rfl | refine And.intro ?_ ?_)) ((puttext_spec (w := w2) Bs.nil offT (by simp [offT])).mono (fun e w3 hh => ?_))
  obtain ⟨v3, he, ho3, hk3⟩ := hh
  refine ⟨_, he, ?_⟩
  have ho3 : w3.ownsRow w2.heap.size 5 1 v3 (putU 5 ++ offT).length (flt by1 (putU 5 ++ offT)) := ho3
  obtain ⟨a3, c3, rfl, hS3⟩ := Bs.own ho3
  obtain ⟨r0, r1, r2, r3, r4, r5, r6, -⟩ := ec_rows (hB1.kp0 (hk2.trans hk3))
  have l1 := putU_len 5
  have l2 := putU_len (num o.who)
  have l3 := putU_len (num o.rules)
  have l4 : offT.length = 5 := rfl
  have p4 := fun w (h : Bs w a3 c3 (putU 5 ++ offT)) => putnum_spec h (num o.who) (num_lt _) (by rw [List.length_append]; omega)
  repeat (first|apply cA|apply cB|apply cD|apply cE|apply cF|apply cG|apply cH|apply cJ|apply cU|refine cV rfl ?_|apply cY|refine cZ rfl rfl rfl rfl (by first|((first|apply qmv|apply qas|apply qlc|apply qla|apply qfa|apply qix|apply qls|apply qad|apply qln|apply qcv)<;>(first|exact rfl|assumption|exact Ar.mk (by omega)|exact dct (by first|assumption|omega)|exact dcf (by first|assumption|omega)|exact List.not_mem_nil|apply dc_length|fail))|fail) ?_)
  refine SG.ret rfl rfl rfl (by repeat' (first | exact True.intro | exact rho_of rfl | refine And.intro ?_ ?_)) (num_spec o.who w3) (fun w4 hk4 => ?_)
  refine SG.call rfl rfl rfl (by repeat' (first | exact True.intro | exact rho_of rfl | refine And.intro ?_ ?_)) ((p4 w4 (hS3.kp hk4 (by simp))).mono (fun e w5 hh => ?_))
  obtain ⟨v5, he, ho5, hk5⟩ := hh
  refine ⟨_, he, ?_⟩
  obtain ⟨a5, c5, rfl, hS5⟩ := Bs.own ho5
  have p6 := fun w (h : Bs w a5 c5 (putU 5 ++ offT ++ putU (num o.who))) => putnum_spec h (num o.rules) (num_lt _) (by simp only [List.length_append]; omega)
  have k5 := hk4.trans hk5
  have r1 := r1.kp0 k5
  have r2 := r2.kp0 k5
  have r3 := r3.kp0 k5
  have r4 := r4.kp0 k5
  have r5 := r5.kp0 k5
  have r6 := r6.kp0 k5
  repeat (first|apply cA|apply cB|apply cD|apply cE|apply cF|apply cG|apply cH|apply cJ|apply cU|refine cV rfl ?_|apply cY|refine cZ rfl rfl rfl rfl (by first|((first|apply qmv|apply qas|apply qlc|apply qla|apply qfa|apply qix|apply qls|apply qad|apply qln|apply qcv)<;>(first|exact rfl|assumption|exact Ar.mk (by omega)|exact dct (by first|assumption|omega)|exact dcf (by first|assumption|omega)|exact List.not_mem_nil|apply dc_length|fail))|fail) ?_)
  refine SG.ret rfl rfl rfl (by repeat' (first | exact True.intro | exact rho_of rfl | refine And.intro ?_ ?_)) (num_spec o.rules w5) (fun w6 hk6 => ?_)
  refine SG.call rfl rfl rfl (by repeat' (first | exact True.intro | exact rho_of rfl | refine And.intro ?_ ?_)) ((p6 w6 (hS5.kp hk6 (by simp))).mono (fun e w7 hh => ?_))
  obtain ⟨v7, he, ho7, hk7⟩ := hh
  refine ⟨_, he, ?_⟩
  obtain ⟨a7, c7, rfl, hS7⟩ := Bs.own ho7
  have k7 := hk6.trans hk7
  have r2 := r2.kp0 k7
  have r3 := r3.kp0 k7
  have r4 := r4.kp0 k7
  have r5 := r5.kp0 k7
  have r6 := r6.kp0 k7
  repeat (first|apply cA|apply cB|apply cD|apply cE|apply cF|apply cG|apply cH|apply cJ|apply cU|refine cV rfl ?_|apply cY|refine cZ rfl rfl rfl rfl (by first|((first|apply qmv|apply qas|apply qlc|apply qla|apply qfa|apply qix|apply qls|apply qad|apply qln|apply qcv)<;>(first|exact rfl|assumption|exact Ar.mk (by omega)|exact dct (by first|assumption|omega)|exact dcf (by first|assumption|omega)|exact List.not_mem_nil|apply dc_length|fail))|fail) ?_)
  refine SG.buildSlice rfl rfl rfl rfl (bsi5 _ _ _ _ _) (fun b8 w8 hk8 hb8 hB8 => ?_)
  have hS8 : Sl ic 1 w8 (some ⟨b8, 0, none⟩) [o.seats, o.least, o.most, o.window, o.till] := Sl.of_blk (pre := []) (post := []) ic_len (T := 3) hB8
  refine SG.call rfl rfl rfl (by repeat' (first | exact True.intro | exact rho_of rfl | refine And.intro ?_ ?_)) ((put_spec (zs := [o.seats, o.least, o.most, o.window, o.till]) (c2 := 5) (hS7.kp hk8 (by simp)) hS8 (by simp) (by simp) (by simp only [List.length_append]; omega)).mono (fun e w9 hh => ?_))
  obtain ⟨v9, he, ho9, hk9⟩ := hh
  refine ⟨_, he, ?_⟩
  have ho9 : w9.ownsRow w8.heap.size 5 1 v9 (digB o).length (flt by1 (digB o)) := ho9
  obtain ⟨a9, c9, rfl, hS9⟩ := Bs.own ho9
  have hdl : (digB o).length ≤ 1000000000 := by
    have := putZ_len [o.seats, o.least, o.most, o.window, o.till]
    unfold digB
    simp only [List.length_append, List.length_cons, List.length_nil] at this ⊢
    omega
  refine SG.ret rfl rfl rfl (by repeat' (first | exact True.intro | exact rho_of rfl | refine And.intro ?_ ?_)) (of_spec (l := digB o) hS9.sl hS9.some hS9.lt hdl hS9.len) (fun w10 hk10 => ?_)
  have kz : Kp [] w2 w10 := ((((hk3.trans k5).trans k7).trans hk8).trans hk9).trans hk10
  refine SG.setAll (old := dc zd) (l := dc (digO o)) rfl rfl (by exact rho_of rfl) (by exact rho_of rfl) (hB2.kp0 kz) (dc_length _) (dc_length _) (dc_one _) (fun w11 hk11 hB11 => ?_)
  have hrr : Row w11 b2 0 (dc (digO o)) := Row.all hB11 rfl
  repeat (first|apply cA|apply cB|apply cD|apply cE|apply cF|apply cG|apply cH|apply cJ|apply cU|refine cV rfl ?_|apply cY|refine cZ rfl rfl rfl rfl (by first|((first|apply qmv|apply qas|apply qlc|apply qla|apply qfa|apply qix|apply qls|apply qad|apply qln|apply qcv)<;>(first|exact rfl|assumption|exact Ar.mk (by omega)|exact dct (by first|assumption|omega)|exact dcf (by first|assumption|omega)|exact List.not_mem_nil|apply dc_length|fail))|fail) ?_)
  refine ret1 (Or.inl rfl) Tryz.results54 (by first | exact ResV.tmp rfl | exact ResV.agg rfl rfl (by assumption) (by first | exact dc_length _ | exact nc_length _ | exact rc_length _ _ _ | exact ec_length _ | exact dl_length _ _ _ _ | rfl) | exact ResV.cell rfl rfl (by assumption)) ?_
  exact ⟨rfl, (k2.trans kz).trans_new hk11 (new1 (by omega))⟩
end Go.Proofs.YtnoipmimddoioaaGreat
namespace Go.Proofs.YtnoipmimddoioaaGreat
open Go.Proofs
set_option linter.unusedVariables false
structure Del where
  rules : Dg
  who : List Dg
  stake : Int
  window : Int
def dl (r : Dg) (s : Value) (st wi : Int) : List Value := dc r ++ [s, .int .i64 st, .int .i64 wi]
theorem dl_length (r : Dg) (s : Value) (st wi : Int) : (dl r s st wi).length = 11 := by simp [dl, dc_length]
theorem dl_one (r : Dg) (a : Option Addr) (n c : Nat) (st wi : Int) : allOne (dl r (.slice a n c) st wi) = true := by simp [dl, allOne, dc, oneB]
def dealV (r : Dg) (s : Value) (st wi : Int) : Value := .agg (dl r s st wi).toArray
theorem dl_rows {w : World} {b : Nat} {T : TypeId} {r : Dg} {s : Value} {st wi : Int} (h : Blk w b (.cells (dl r s st wi).toArray T)) : Row w b 0 (dc r) ∧ Row w b 8 [s] ∧ Row w b 9 [.int .i64 st] ∧ Row w b 10 [.int .i64 wi] ∧ Row w b 0 (dl r s st wi) := by
  have e : ∀ (pre l post : List Value), dl r s st wi = pre ++ (l ++ post) → Row w b pre.length l := fun pre l post he => Row.of h pre post (by simpa using he) rfl
  have l8 : (dc r).length = 8 := dc_length _
  refine ⟨?_, ?_, ?_, ?_, Row.all h (by simp)⟩
  · exact e [] (dc r) _ rfl
  · have := e (dc r) [s] [.int .i64 st, .int .i64 wi] rfl
    rwa [l8] at this
  · have := e (dc r ++ [s]) [.int .i64 st] [.int .i64 wi] (by simp [dl])
    rwa [List.length_append, l8] at this
  · have := e (dc r ++ [s, .int .i64 st]) [.int .i64 wi] [] (by simp [dl])
    rwa [List.length_append, l8] at this
def whoB (l : List Dg) : List UInt8 := l.flatMap (fun d => putU (num d))
def nameB (d : Del) : List UInt8 := putU 4 ++ dealT ++ putU (num d.rules) ++ putU d.who.length ++ whoB d.who ++ putZ [d.stake, d.window]
def nameD (d : Del) : Dg := ofI (nameB d)
attribute [local irreducible] CG NG SG Vals Der Row Blk MapIs IterAt addI xorI orI andI shlI shrI mulI
end Go.Proofs.YtnoipmimddoioaaGreat
namespace Go.Proofs.YtnoipmimddoioaaGreat
open Go.Proofs Go.Shelf
set_option linter.unusedVariables false
def sortRen : Go.Shelf.Ren := ⟨fun | 6 => 38 | 15 => 57 | 14 => 56 | 28 => 82 | 29 => 83 | 20 => 74 | 21 => 75 | 22 => 76 | 23 => 77 | 24 => 78 | 25 => 79 | 26 => 80 | 27 => 81 | 46 => 94 | 47 => 95 | 48 => 96 | 49 => 97 | 50 => 98 | 57 => 103 | n => n, fun | 22 => 51 | 24 => 39 | 25 => 88 | 3 => 3 | 39 => 103 | 0 => 0 | 53 => 133 | 55 => 94 | 4 => 4 | 46 => 126 | 45 => 125 | 50 => 130 | 5 => 5 | 9 => 9 | 66 => 144 | 70 => 148 | 76 => 152 | 77 => 153 | n => n, fun n => n⟩
theorem sortL : SlLaysF0.n6 Tryz.prog sortRen where
  mixed := by kernel_rfl
  f6 := ⟨"slices.SortFunc[[]baize/hash.Digest,baize/hash.Digest]", by decide, Tryz.func38.trans (congrArg some (by kernel_rfl))⟩
  f14 := ⟨"slices.pdqsortCmpFunc[baize/hash.Digest]", by decide, Tryz.func56.trans (congrArg some (by kernel_rfl))⟩
  f15 := Tryz.func57.trans (congrArg some (by kernel_rfl))
  f20 := ⟨"slices.insertionSortCmpFunc[baize/hash.Digest]", by decide, Tryz.func74.trans (congrArg some (by kernel_rfl))⟩
  f21 := ⟨"slices.heapSortCmpFunc[baize/hash.Digest]", by decide, Tryz.func75.trans (congrArg some (by kernel_rfl))⟩
  f22 := ⟨"slices.breakPatternsCmpFunc[baize/hash.Digest]", by decide, Tryz.func76.trans (congrArg some (by kernel_rfl))⟩
  f23 := ⟨"slices.choosePivotCmpFunc[baize/hash.Digest]", by decide, Tryz.func77.trans (congrArg some (by kernel_rfl))⟩
  f24 := ⟨"slices.reverseRangeCmpFunc[baize/hash.Digest]", by decide, Tryz.func78.trans (congrArg some (by kernel_rfl))⟩
  f25 := ⟨"slices.partialInsertionSortCmpFunc[baize/hash.Digest]", by decide, Tryz.func79.trans (congrArg some (by kernel_rfl))⟩
  f26 := ⟨"slices.partitionEqualCmpFunc[baize/hash.Digest]", by decide, Tryz.func80.trans (congrArg some (by kernel_rfl))⟩
  f27 := ⟨"slices.partitionCmpFunc[baize/hash.Digest]", by decide, Tryz.func81.trans (congrArg some (by kernel_rfl))⟩
  f28 := Tryz.func82.trans (congrArg some (by kernel_rfl))
  f29 := Tryz.func83.trans (congrArg some (by kernel_rfl))
  f46 := ⟨"slices.siftDownCmpFunc[baize/hash.Digest]", by decide, Tryz.func94.trans (congrArg some (by kernel_rfl))⟩
  f47 := Tryz.func95.trans (congrArg some (by kernel_rfl))
  f48 := Tryz.func96.trans (congrArg some (by kernel_rfl))
  f49 := ⟨"slices.medianAdjacentCmpFunc[baize/hash.Digest]", by decide, Tryz.func97.trans (congrArg some (by kernel_rfl))⟩
  f50 := ⟨"slices.medianCmpFunc[baize/hash.Digest]", by decide, Tryz.func98.trans (congrArg some (by kernel_rfl))⟩
  f57 := ⟨"slices.order2CmpFunc[baize/hash.Digest]", by decide, Tryz.func103.trans (congrArg some (by kernel_rfl))⟩
  t0 := Tryz.underlying0
  a0 := Tryz.isAgg0
  z0 := Tryz.sizeOf0
  v0 := Tryz.zeroValue0
  t3 := Tryz.underlying3
  a3 := Tryz.isAgg3
  z3 := Tryz.sizeOf3
  v3 := Tryz.zeroValue3
  t4 := Tryz.underlying4
  a4 := Tryz.isAgg4
  z4 := Tryz.sizeOf4
  v4 := Tryz.zeroValue4
  t5 := Tryz.underlying5
  a5 := Tryz.isAgg5
  z5 := Tryz.sizeOf5
  v5 := Tryz.zeroValue5
  t9 := Tryz.underlying9
  a9 := Tryz.isAgg9
  z9 := Tryz.sizeOf9
  v9 := Tryz.zeroValue9
  t22 := Tryz.underlying51
  a22 := Tryz.isAgg51
  z22 := Tryz.sizeOf51
  v22 := Tryz.zeroValue51
  t25 := Tryz.underlying88
  a25 := Tryz.isAgg88
  z25 := Tryz.sizeOf88
  v25 := Tryz.zeroValue88
  t39 := Tryz.underlying103
  a39 := Tryz.isAgg103
  z39 := Tryz.sizeOf103
  v39 := Tryz.zeroValue103
  t45 := Tryz.underlying125
  a45 := Tryz.isAgg125
  z45 := Tryz.sizeOf125
  v45 := Tryz.zeroValue125
  t46 := Tryz.underlying126
  a46 := Tryz.isAgg126
  z46 := Tryz.sizeOf126
  v46 := Tryz.zeroValue126
  t50 := Tryz.underlying130
  a50 := Tryz.isAgg130
  z50 := Tryz.sizeOf130
  v50 := Tryz.zeroValue130
  t53 := Tryz.underlying133
  a53 := Tryz.isAgg133
  z53 := Tryz.sizeOf133
  v53 := Tryz.zeroValue133
  t55 := Tryz.underlying94
  a55 := Tryz.isAgg94
  z55 := Tryz.sizeOf94
  v55 := Tryz.zeroValue94
  t66 := Tryz.underlying144
  a66 := Tryz.isAgg144
  z66 := Tryz.sizeOf144
  v66 := Tryz.zeroValue144
  t70 := Tryz.underlying148
  a70 := Tryz.isAgg148
  z70 := Tryz.sizeOf148
  v70 := Tryz.zeroValue148
  t76 := Tryz.underlying152
  a76 := Tryz.isAgg152
  z76 := Tryz.sizeOf152
  v76 := Tryz.zeroValue152
  t77 := Tryz.underlying153
  a77 := Tryz.isAgg153
  z77 := Tryz.sizeOf153
  v77 := Tryz.zeroValue153
end Go.Proofs.YtnoipmimddoioaaGreat
namespace Go.Proofs.YtnoipmimddoioaaGreat
open Go.Proofs Go.Shelf Go.Sort
set_option linter.unusedVariables false
theorem Kp.grown {w w' : World} (h : Kp [] w w') : ∃ q os', w' = grow (w.drewN q) os' := by
  refine ⟨w'.drawn - w.drawn, w'.heap.extract w.heap.size w'.heap.size, ?_⟩
  obtain ⟨h1, h2, h3, h4, h5, h6, h7⟩ := h
  obtain ⟨hp, tp, dr, os, out⟩ := w
  obtain ⟨hp', tp', dr', os', out'⟩ := w'
  simp only at h1 h2 h3 h4 h5 h7
  subst h3
  subst h4
  subst h5
  have e1 : hp' = hp ++ hp'.extract hp.size hp'.size := by
    apply Array.ext_getElem?
    intro i
    rw [Array.getElem?_append]
    by_cases hi : i < hp.size
    · rw [if_pos hi]
      exact h2 i hi (by simp)
    · rw [if_neg hi, Array.getElem?_extract]
      by_cases hi2 : i < hp'.size
      · rw [if_pos (by omega), show hp.size + (i - hp.size) = i by omega]
      · rw [if_neg (by omega), Array.getElem?_eq_none (by omega)]
  have e2 : dr' = dr + (dr' - dr) := by omega
  simp only [grow, World.drewN, World.mk.injEq, true_and, and_true]
  exact ⟨e1, e2⟩
theorem Kp.grow (w : World) (os : Array Obj) : Kp [] w (grow w os) := by
  refine ⟨by simp, fun b hb _ => ?_, rfl, rfl, rfl, fun a ha => ?_, Nat.le_refl _⟩
  · show (w.heap ++ os)[b]? = _
    rw [Array.getElem?_append, if_pos hb]
  · refine frozen_same ?_
    show (w.heap ++ os)[a.block]? = _
    rw [Array.getElem?_append, if_pos ha]
theorem Kp.ahead (w : World) (n : Nat) : Kp [] w (Go.Sort.ahead w n) := ⟨Nat.le_refl _, fun _ _ _ => rfl, rfl, rfl, rfl, fun _ _ => rfl, Nat.le_add_right _ _⟩
theorem mapBlock_set {w : World} {g : Nat} {cs : Array Value} {T : TypeId} {fz : Nat × Nat} (h : Blk w g (.cells cs T fz)) (f : Array Value → Array Value) : mapBlock w g f = { w with heap := w.heap.setIfInBounds g (.cells (f cs) T fz) } := by
  unfold mapBlock
  congr 1
  apply Array.ext_getElem?
  intro i
  rw [Array.getElem?_modify, Array.getElem?_setIfInBounds]
  by_cases e : g = i
  · subst e
    rw [if_pos rfl, if_pos rfl, if_pos h.lt]
    have h' : w.heap[g]? = some (.cells cs T fz) := h
    rw [h']
    rfl
  · rw [if_neg e, if_neg e]
section
variable {α : Type} [Inhabited α] {enc : α → List Value} {k : Nat}
theorem flt_get (hk0 : 0 < k) (hk : ∀ x, (enc x).length = k) : ∀ (l : List α) (t : Nat), t < l.length * k → (flt enc l)[t]? = some ((enc l.toArray[t / k]!)[t % k]!) := by
  intro l
  induction l with
  | nil => intro t h; simp at h
  | cons x l ih =>
    intro t h
    have e : flt enc (x :: l) = enc x ++ flt enc l := by simp [flt]
    rw [e]
    by_cases ht : t < k
    · rw [List.getElem?_append_left (by rw [hk]; exact ht), Nat.div_eq_of_lt ht, Nat.mod_eq_of_lt ht]
      have : t < (enc x).length := by rw [hk]; exact ht
      simp [this]
    · rw [List.getElem?_append_right (by rw [hk]; omega), hk]
      have h' : t - k < l.length * k := by
        simp only [List.length_cons, Nat.add_mul, Nat.one_mul] at h
        omega
      rw [ih (t - k) h']
      have d1 : t / k = (t - k) / k + 1 := by
        rw [Nat.div_eq_sub_div hk0 (by omega)]
      have d2 : t % k = (t - k) % k := by rw [Nat.mod_eq_sub_mod (by omega)]
      rw [d1, d2]
      simp
theorem flatK_toList (hk0 : 0 < k) (hk : ∀ x, (enc x).length = k) (l : List α) : (flatK enc k l.toArray).toList = flt enc l := by
  apply List.ext_getElem?
  intro t
  by_cases ht : t < l.length * k
  · rw [flt_get hk0 hk l t ht]
    have hs : t < (flatK enc k l.toArray).size := by simpa using ht
    have := get_flatK enc k l.toArray t (by simpa using ht)
    rw [getElem!_pos _ t hs] at this
    rw [Array.getElem?_toList, Array.getElem?_eq_getElem hs, this]
  · rw [List.getElem?_eq_none (by simpa using Nat.le_of_not_lt ht), List.getElem?_eq_none (by rw [flt_length hk]; omega)]
end
end Go.Proofs.YtnoipmimddoioaaGreat
namespace Go.Proofs.YtnoipmimddoioaaGreat
set_option linter.unusedVariables false
section
variable {P : Program} {n : Nat} {Q : Exit → Act → World → Prop} {L : Env} {w w0 : World} {ops rest : List Oper} {ty : TypeId} {pos : String} {af : Array Edge} {g : Option (Nat × Bool)} {S : List Nat} {F : World → Prop}
/-- A function value. -/
def fnv (f : FuncId) (caps : List Value) : Value := .func (.func f) #[] caps.toArray
theorem ro_map : ∀ {cs : List Operand} {vs : List Value}, cs.map (ro L) = vs.map some → cs.map (rho L) = vs
  | [], vs, h => by cases vs <;> simp at h ⊢
  | x :: cs, [], h => by simp at h
  | x :: cs, v :: vs, h => by
    simp only [List.map_cons, List.cons.injEq] at h ⊢
    exact ⟨rho_of h.1, ro_map h.2⟩
theorem qmf {d : Option Nat} {f : FuncId} {cs : List Operand} {vs : List Value} (h : cs.map (ro L) = vs.map some) : Vals P S w0 F L ⟨d, .makeFunc (.func f) #[] cs.toArray, ty, pos, af, g⟩ (fnv f vs) := fun w _ _ => by
  have e : cs.map (rho L) = vs := ro_map h
  simp [execOp, Instr.makeFunc, fnv, e]
theorem run_callV {f : FuncId} [Fn : Fnc P f] {x : Operand} {args : List Operand} {vs caps : List Value} {tys : Array TypeId} {d : Option Nat} (hf : rho L x = fnv f caps) (he : Evs L args vs) :
    (execOp (rho L) ⟨d, .call ⟨.value x, args.toArray, tys⟩, ty, pos, af, g⟩).run P w = .ok (.enter f (vs ++ caps).toArray) w := by
  simp only [execOp, resolve, hf, fnv, Deferred.ofValue, he.arr]
  simp [invoke, Fn.run]
/-- A call of a function value in text order. -/
theorem SG.callV {d : Nat} {f : FuncId} [Fn : Fnc P f] {x : Operand} {args : List Operand} {vs caps : List Value} {tys : Array TypeId} (hd : Nat.blt d n = true) (hw : want ops L ⟨some d, .call ⟨.value x, args.toArray, tys⟩, ty, pos, af, g⟩ = some true) (hk : (Op.call ⟨.value x, args.toArray, tys⟩).operands.toList.all (known L) = true)
    (hf : rho L x = fnv f caps) (he : Evs L args vs) (hc : Calls P f (vs ++ caps).toArray w (fun e w' => ∃ v, e = .returned v ∧ SG P n ops Q rest ((d, v) :: L) w')) : SG P n ops Q (⟨some d, .call ⟨.value x, args.toArray, tys⟩, ty, pos, af, g⟩ :: rest) L w := by
  refine SG.op (by simpa using hd) rfl hw hk ?_
  unfold OpRun
  rw [run_callV (Fn := Fn) hf he]
  exact hc
theorem SG.retVC {d : Nat} {f : FuncId} [Fn : Fnc P f] {x : Operand} {args : List Operand} {vs caps : List Value} {tys : Array TypeId} {v : Value} (hd : Nat.blt d n = true) (hw : want ops L ⟨some d, .call ⟨.value x, args.toArray, tys⟩, ty, pos, af, g⟩ = some true) (hk : (Op.call ⟨.value x, args.toArray, tys⟩).operands.toList.all (known L) = true)
    (hf : rho L x = fnv f caps) (he : Evs L args vs) (hc : Ret P f (vs ++ caps).toArray w v) (h : ∀ w', Kp [] w w' → SG P n ops Q rest ((d, v) :: L) w') : SG P n ops Q (⟨some d, .call ⟨.value x, args.toArray, tys⟩, ty, pos, af, g⟩ :: rest) L w :=
  SG.callV (Fn := Fn) hd hw hk hf he (hc.mono (fun e w' ⟨h1, h2⟩ => ⟨v, h1, h w' h2⟩))
end
end Go.Proofs.YtnoipmimddoioaaGreat
namespace Go.Proofs.YtnoipmimddoioaaGreat
open Go.Proofs Go.Shelf Go.Sort
set_option linter.unusedVariables false
section
variable {α : Type} [Inhabited α] {enc : α → List Value} {k : Nat}
theorem sort_ownC {P : Program} {ρ : Ren} (L : SlLaysF0.n6 P ρ) (aE : ∀ w, (isAgg (ρ.t 24)).run P w = .ok true w) (zE : ∀ w, (Go.sizeOf (ρ.t 24)).run P w = .ok k w) (hk0 : 0 < k) (hk : ∀ x, (enc x).length = k) (hone : ∀ x, allOne (enc x) = true)
    (cf : α → α → Int) (hO : SWO (ltOf cf)) (g : Nat) (eg : ∀ args w, (callFunc g args).run P w = .ok (.enter g args) w)
    (cb : List Value) {w : World} {base : Nat} {T : TypeId} {v : Value} {l : List α} (ho : w.ownsRow base T k v l.length (flt enc l)) (hsz : l.length < 4611686018427387904)
    (hcmp : ∀ x y W, Kp (ownB v) w W → Calls P g (#[.agg (enc x).toArray, .agg (enc y).toArray] ++ cb.toArray) W (fun e w' => e = .returned (.int .i64 (cf x y)) ∧ Kp [] W w')) :
    Calls P (ρ.f 6) #[v, fnv g cb] w (fun e w' => e = .returned (.tuple #[]) ∧ Kp (ownB v) w w' ∧ ∃ l', l'.Perm l ∧ l'.Pairwise (fun x y => ltOf cf y x = false) ∧ w'.ownsRow base T k v l.length (flt enc l')) := by
  have h1 : ∀ x, ∀ v ∈ enc x, v.oneCell' = true := fun x u hu => by rw [one_iff]; exact List.all_eq_true.1 (hone x) u hu
  have ho' := ho
  obtain ⟨hlen, ⟨rfl, h0⟩ | ⟨b, cap, cur, rfl, hb, hh, hc1, hc2, hc3, hc4⟩⟩ := ho
  · have hl : l = [] := by cases l with
      | nil => rfl
      | cons x l => simp at h0
    subst hl
    exact (AnyF.slices_SortFunc_none L none 0 _ w).mono (fun e w' ⟨he, hw⟩ => ⟨he, by rw [hw]; exact Kp.refl _ _, [], List.Perm.refl _, List.Pairwise.nil, by rw [hw]; exact ho'⟩)
  have hB : Blk w b (.cells cur T (0, 0)) := hh
  have hcur : ∀ t, t < l.length * k → cur[t]? = some ((enc l.toArray[t / k]!)[t % k]!) := fun t ht => by
    rw [← flt_get hk0 hk l t ht, ← hc4, List.getElem?_take_of_lt ht, Array.getElem?_toList]
  have hcell : ∀ (d : Array α), True := fun _ => trivial
  have hH : HoldsK enc k w b 0 l.toArray := fun j hj => by
    have hj' : j < l.length * k := by simpa using hj
    refine ⟨?_, frozen_soft (o := .cells cur T (0, 0)) hh rfl⟩
    unfold World.cell?
    simp only [hh, Nat.zero_add]
    rw [get_flatK enc k l.toArray j (by simpa using hj')]
    simpa using hcur j hj'
  have hkw : ∀ (m : Nat) (os : Array Obj) (dk : Array α), Kp [b] w (sortWorldK enc k w b 0 m dk os) := fun m os dk => by
    have hBa : Blk (Go.Sort.ahead w m) b (.cells cur T (0, 0)) := hh
    have hset : putRowK enc k (Go.Sort.ahead w m) b 0 dk = { Go.Sort.ahead w m with heap := (Go.Sort.ahead w m).heap.setIfInBounds b (.cells (putCells id 0 (flatK enc k dk) cur) T (0, 0)) } := mapBlock_set hBa _
    have hk1 : Kp [b] (Go.Sort.ahead w m) (putRowK enc k (Go.Sort.ahead w m) b 0 dk) := by
      rw [hset]
      exact Kp.set _ hBa rfl rfl
    exact ((Kp.ahead w m).any.trans hk1).trans (Kp.grow _ _).any
  have hcl : CmpLays P g cb.toArray enc k cf b 0 l.toArray.size w := fun m os dk hdk x y => (hcmp x y _ (hkw m os dk)).mono (fun e w' ⟨he, hw⟩ => ⟨he, hw.grown⟩)
  have hc := AnyQ.slices_SortFunc L k aE zE enc hk h1 cf hO g cb.toArray b 0 cap l.toArray w eg hcl hH hB.lt (by simpa using hsz)
  refine (show Calls P (ρ.f 6) #[.slice (some ⟨b, 0, none⟩) l.length cap, fnv g cb] w _ from hc).mono (fun e w' hh' => ?_)
  obtain ⟨he, d', n, os, ⟨hp1, hp2, hp3⟩, hs, rfl⟩ := hh'
  have hd' : d'.size = l.length := by simpa using hp1
  have hperm : d'.toList.Perm l := by
    have e1 : (d'.extract 0 l.toArray.size).toList = d'.toList := by
      have : l.toArray.size = d'.size := hp1.symm
      rw [this]
      simp
    have e2 : (l.toArray.extract 0 l.toArray.size).toList = l := by simp
    rw [e1, e2] at hp3
    exact hp3
  have hBa : Blk (Go.Sort.ahead w n) b (.cells cur T (0, 0)) := hh
  have hset : putRowK enc k (Go.Sort.ahead w n) b 0 d' = { Go.Sort.ahead w n with heap := (Go.Sort.ahead w n).heap.setIfInBounds b (.cells (putCells id 0 (flatK enc k d') cur) T (0, 0)) } := mapBlock_set hBa _
  have hk1 : Kp [b] (Go.Sort.ahead w n) (putRowK enc k (Go.Sort.ahead w n) b 0 d') := by
    rw [hset]
    exact Kp.set _ hBa rfl rfl
  refine ⟨he, ?_, d'.toList, hperm, ?_, ?_⟩
  · show Kp [b] w _
    exact ((Kp.ahead w n).any.trans hk1).trans (Kp.grow _ _).any
  · rw [List.pairwise_iff_getElem]
    intro i j hi hj hij
    have := hs i j (Nat.zero_le _) hij (by simp at hj ⊢; omega)
    rw [getElem!_pos d' i (by simpa using hi), getElem!_pos d' j (by simpa using hj)] at this
    simpa using this
  · have hlist : d'.toList.length = l.length := by simpa using hd'
    refine ⟨by rw [flt_length hk, hlist], Or.inr ⟨b, cap, putCells id 0 (flatK enc k d') cur, rfl, hb, ?_, hc1, hc2, by simp [putCells, hc3], ?_⟩⟩
    · have : Blk (putRowK enc k (Go.Sort.ahead w n) b 0 d') b (.cells (putCells id 0 (flatK enc k d') cur) T (0, 0)) := by
        rw [hset]
        show ((Go.Sort.ahead w n).heap.setIfInBounds b _)[b]? = _
        rw [Array.getElem?_setIfInBounds, if_pos rfl, if_pos hBa.lt]
      exact this.kp0 (Kp.grow _ _)
    · have hcs : l.length * k ≤ cur.size := by rw [hc3]; exact Nat.mul_le_mul_right k hc1
      rw [← flatK_toList hk0 hk d'.toList]
      apply List.ext_getElem?
      intro t
      by_cases ht : t < l.length * k
      · have htc : t < cur.size := by omega
        have htf : t < (flatK enc k d').size := by simp [hd']; exact ht
        rw [List.getElem?_take_of_lt ht, Array.getElem?_toList, Array.getElem?_toList]
        simp only [putCells, Array.getElem?_mapIdx, Array.getElem?_eq_getElem htc, Option.map_some, Nat.zero_le, true_and, Nat.zero_add, Nat.sub_zero, id_eq]
        rw [if_pos htf, getElem!_pos _ t htf, Array.toArray_toList, Array.getElem?_eq_getElem htf]
      · rw [List.getElem?_eq_none (by simp; omega), List.getElem?_eq_none (by simp [hd']; omega)]
end
end Go.Proofs.YtnoipmimddoioaaGreat
namespace Go.Proofs.YtnoipmimddoioaaGreat
open Go.Proofs Go.Shelf Go.Sort
set_option linter.unusedVariables false
def cmpN (x y : Nat) : Int := if x < y then -1 else if y < x then 1 else 0
def firstNZ : List Int → Int
  | [] => 0
  | z :: zs => if z = 0 then firstNZ zs else z
def cmpD (a b : Dg) : Int := cmpN (num a) (num b)
def cmpW (m : Dg) (a b : Dg) : Int := firstNZ [cmpD (twoI m a) (twoI m b), cmpD a b]
def kW (m : Dg) (d : Dg) : Nat := num (twoI m d) * 18446744073709551616 + num d
theorem cmpW_eq (m a b : Dg) : cmpW m a b = firstNZ [cmpD (twoI m a) (twoI m b), cmpD a b] := rfl
theorem cmpN_lt {x y : Nat} : cmpN x y < 0 ↔ x < y := by
  unfold cmpN
  split
  · exact ⟨fun _ => by assumption, fun _ => by decide⟩
  · split
    · exact ⟨fun h => absurd h (by decide), fun h => absurd h (by assumption)⟩
    · exact ⟨fun h => absurd h (by decide), fun h => absurd h (by assumption)⟩
theorem cmpN_zero {x y : Nat} : cmpN x y = 0 ↔ x = y := by
  unfold cmpN
  by_cases h1 : x < y
  · rw [if_pos h1]; omega
  · rw [if_neg h1]
    by_cases h2 : y < x
    · rw [if_pos h2]; omega
    · rw [if_neg h2]; omega
theorem cmpW_lt {m a b : Dg} : cmpW m a b < 0 ↔ kW m a < kW m b := by
  have ha := num_lt a
  have hb := num_lt b
  unfold cmpW kW cmpD firstNZ firstNZ firstNZ
  by_cases h : cmpN (num (twoI m a)) (num (twoI m b)) = 0
  · rw [if_pos h]
    have he := cmpN_zero.1 h
    rw [he]
    by_cases h2 : cmpN (num a) (num b) = 0
    · rw [if_pos h2]
      have := cmpN_zero.1 h2
      omega
    · rw [if_neg h2, cmpN_lt]
      omega
  · rw [if_neg h, cmpN_lt]
    have hne : num (twoI m a) ≠ num (twoI m b) := fun e => h (cmpN_zero.2 e)
    omega
theorem kW_inj {m a b : Dg} (h : kW m a = kW m b) : a = b := by
  have ha := num_lt a
  have hb := num_lt b
  refine num_inj ?_
  unfold kW at h
  omega
/-- An order by a number. -/
theorem swo_key {α : Type} (cf : α → α → Int) (key : α → Nat) (h : ∀ x y, cf x y < 0 ↔ key x < key y) : SWO (ltOf cf) where
  irrefl x := decide_eq_false (by rw [h]; omega)
  trans x y z h1 h2 := by
    have h1 := of_decide_eq_true h1
    have h2 := of_decide_eq_true h2
    rw [h] at h1 h2
    exact decide_eq_true (by rw [h]; omega)
  ntrans x y z h1 h2 := by
    have h1 := of_decide_eq_false h1
    have h2 := of_decide_eq_false h2
    rw [h] at h1 h2
    exact decide_eq_false (by rw [h]; omega)
theorem ltOf_false {α : Type} {cf : α → α → Int} {key : α → Nat} (h : ∀ x y, cf x y < 0 ↔ key x < key y) {x y : α} : ltOf cf y x = false ↔ key x ≤ key y := by
  constructor
  · intro h1
    have h1 := of_decide_eq_false h1
    rw [h] at h1
    omega
  · intro h1
    exact decide_eq_false (by rw [h]; omega)
/-- Put where it belongs, behind its likes; all put so. -/
def insK {α : Type} (key : α → Nat) (x : α) : List α → List α
  | [] => [x]
  | y :: r => if key y ≤ key x then y :: insK key x r else x :: y :: r
def sortK {α : Type} (key : α → Nat) (l : List α) : List α := l.foldl (fun acc x => insK key x acc) []
theorem insK_perm {α : Type} (key : α → Nat) (x : α) : ∀ l : List α, (insK key x l).Perm (x :: l)
  | [] => List.Perm.refl _
  | y :: r => by
    unfold insK
    split
    · exact ((insK_perm key x r).cons y).trans (List.Perm.swap x y r)
    · exact List.Perm.refl _
theorem insK_sorted {α : Type} (key : α → Nat) (x : α) : ∀ l : List α, l.Pairwise (fun a b => key a ≤ key b) → (insK key x l).Pairwise (fun a b => key a ≤ key b)
  | [], _ => by simp [insK]
  | y :: r, h => by
    have h' := List.pairwise_cons.1 h
    unfold insK
    split
    · rename_i hle
      refine List.pairwise_cons.2 ⟨fun z hz => ?_, insK_sorted key x r h'.2⟩
      rcases List.mem_cons.1 ((insK_perm key x r).mem_iff.1 hz) with rfl | hz
      · exact hle
      · exact h'.1 z hz
    · rename_i hle
      refine List.pairwise_cons.2 ⟨fun z hz => ?_, h⟩
      rcases List.mem_cons.1 hz with rfl | hz
      · omega
      · have := h'.1 z hz
        omega
theorem sortK_go {α : Type} (key : α → Nat) : ∀ (l acc : List α), acc.Pairwise (fun a b => key a ≤ key b) → (l.foldl (fun acc x => insK key x acc) acc).Perm (l ++ acc) ∧ (l.foldl (fun acc x => insK key x acc) acc).Pairwise (fun a b => key a ≤ key b)
  | [], acc, h => ⟨List.Perm.refl _, h⟩
  | x :: l, acc, h => by
    obtain ⟨h1, h2⟩ := sortK_go key l (insK key x acc) (insK_sorted key x acc h)
    refine ⟨h1.trans ?_, h2⟩
    exact ((insK_perm key x acc).append_left l).trans List.perm_middle
theorem sortK_perm {α : Type} (key : α → Nat) (l : List α) : (sortK key l).Perm l := by simpa [sortK] using (sortK_go key l [] List.Pairwise.nil).1
theorem sortK_sorted {α : Type} (key : α → Nat) (l : List α) : (sortK key l).Pairwise (fun a b => key a ≤ key b) := (sortK_go key l [] List.Pairwise.nil).2
/-- There is one such order. -/
theorem sorted_uniq {α : Type} {key : α → Nat} (hk : ∀ x y, key x = key y → x = y) {l l' m : List α} (h1 : l.Perm m) (h2 : l'.Perm m) (s1 : l.Pairwise (fun a b => key a ≤ key b)) (s2 : l'.Pairwise (fun a b => key a ≤ key b)) : l = l' :=
  (h1.trans h2.symm).eq_of_pairwise (fun a b _ _ h h' => hk a b (by omega)) s1 s2
end Go.Proofs.YtnoipmimddoioaaGreat
