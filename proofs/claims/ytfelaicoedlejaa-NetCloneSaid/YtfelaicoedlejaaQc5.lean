import Derived.Test.YtfelaicoedlejaaQc4
/-
  A variable that a region makes and fills, with what a call beside it answers.
-/
namespace Go.Proofs.Ytfelaicoedlejaa
set_option linter.unusedVariables false

section
variable {P : Program} {n : Nat} {ops : List Oper} {Q : Exit → Act → World → Prop} {w0 : World} {L : Env} {G : List (Nat × GD)} {K : Env → List Fact → Prop} {Γ : List Fact} {i : Nat} {ord : List Nat} {ty : TypeId} {pos : String} {af : Array Edge} {g : Option (Nat × Bool)}
theorem gd_all {q : GD → Prop} {i : Nat} (h0 : q GD.none) : ∀ {G : List (Nat × GD)}, (∀ p ∈ G, p.1 ≠ i → q p.2) → ∀ j, j ≠ i → q (gdOf G j)
  | [], _, j, _ => h0
  | (k, D) :: G, h, j, hj => by
    unfold gdOf
    simp only [gdLook]
    by_cases e : k = j
    · subst e
      simp
      exact h _ List.mem_cons_self hj
    · have h1 : Nat.beq k j = false := by rw [← Bool.not_eq_true, Nat.beq_eq]; exact e
      rw [h1]
      exact gd_all h0 (fun p hp => h p (List.mem_cons_of_mem _ hp)) j hj
/-- A variable just made, whatever it comes to hold. -/
def gV (m : Nat) (T : TypeId) (k : Nat) : GD := ⟨Nat, 0, fun b => .pointer (some ⟨b, 0, none⟩), fun b w => m ≤ b ∧ ∃ cs, Blk w b (.cells cs T) ∧ cs.size = k⟩
theorem gV_stab {m : Nat} {T : TypeId} {k : Nat} (x : (gV m T k).X) : Stab [] ((gV m T k).phi x) := fun w w' hk ⟨h1, cs, h2, h3⟩ => ⟨h1, cs, h2.kp0 hk, h3⟩
theorem DerX.allocV {m d k : Nat} {T : TypeId} {inf : TypeInfo} [f : Inf P T inf] {z : Value} (hz : inf.zero = some z) (hzs : Nat.beq z.cells.size k = true) (hg : gdLook G i = some (gV m T k))
    (ho : ops[i]? = some ⟨some d, .alloc T, ty, pos, af, g⟩) (hw : want ops L ⟨some d, .alloc T, ty, pos, af, g⟩ = some true) (hm : m ≤ w0.heap.size)
    (h : ∀ b : Nat, DerX P w0 ops G K ord ((d, .pointer (some ⟨b, 0, none⟩)) :: L) ((i, fun w => m ≤ b ∧ ∃ cs, Blk w b (.cells cs T) ∧ cs.size = k) :: Γ)) : DerX P w0 ops G K (i :: ord) L Γ := by
  refine DerX.eff (gV m T k) hg ho hw (by simp [Op.operands]) (fun w h1 h2 => ?_) h
  unfold OpRun
  have : (execOp (rho L) ⟨some d, .alloc T, ty, pos, af, g⟩).run P w = .ok (.value (.pointer (some ⟨w.heap.size, 0, none⟩))) { w with heap := w.heap.push (.cells z.cells T) } := by
    simp [execOp, run_alloc hz, Result.andThen]
  rw [this]
  exact ⟨w.heap.size, rfl, ⟨Nat.le_trans hm h1.size, _, Blk.push w _, Nat.eq_of_beq_eq_true hzs⟩, Kp.push w _ rfl⟩
theorem gV_keep {m b k : Nat} {T : TypeId} {y : Nat} {w w' : World} {l : List Value} (hl : l.length = k) (hk : Kp [b] w w') (hb : Blk w' b (.cells l.toArray T)) (h : (gV m T k).phi y w) : (gV m T k).phi y w' := by
  obtain ⟨h1, cs, h2, h3⟩ := h
  by_cases e : y = b
  · subst e
    exact ⟨h1, _, hb, by simpa using hl⟩
  · exact ⟨h1, cs, h2.kp hk (nm1 e), h3⟩
/-- .. filled. -/
def gP (m : Nat) (T : TypeId) : GD := ⟨Nat × Array Value, (0, #[]), fun _ => undef, fun q w => m ≤ q.1 ∧ Blk w q.1 (.cells q.2 T)⟩
theorem gP_stab {m : Nat} {T : TypeId} (x : (gP m T).X) : Stab [] ((gP m T).phi x) := fun w w' hk h => ⟨h.1, h.2.kp0 hk⟩
theorem DerX.storeV {m b : Nat} {T : TypeId} {inf : TypeInfo} [f : Inf P T inf] {a x : Operand} {l : List Value} (hg : gdLook G i = some (gP m T))
    (ho : ops[i]? = some ⟨none, .store T a x, ty, pos, af, g⟩) (hw : want ops L ⟨none, .store T a x, ty, pos, af, g⟩ = some true) (hk : (known L a && known L x) = true) (ha : Γ.all (fun p => anc ops i p.1) = true)
    (hpa : rho L a = .pointer (some ⟨b, 0, none⟩)) (hx : rho L x = .agg l.toArray) (hn : l.length = inf.size) (hm : w0.heap.size ≤ m)
    (hF : ∀ w, Kp [] w0 w → Facts ops i Γ w → (m ≤ b ∧ ∃ cs, Blk w b (.cells cs T) ∧ cs.size = inf.size) ∧ allOne l = true)
    (hkeep : ∀ p ∈ G, p.1 ≠ i → ∀ y w w' cs, Blk w b (.cells cs T) → cs.size = inf.size → Kp [b] w w' → Blk w' b (.cells l.toArray T) → p.2.phi y w → p.2.phi y w')
    (h : DerX P w0 ops G K ord L ((i, fun w => m ≤ b ∧ Blk w b (.cells l.toArray T)) :: Γ)) : DerX P w0 ops G K (i :: ord) L Γ := by
  refine DerX.effD (gP m T) (b, l.toArray) hg ho hw (by simpa [Op.operands] using hk) ha (fun w h1 h2 => ?_) h
  obtain ⟨⟨g1, cs, g2, g3⟩, hone⟩ := hF w h1 h2
  unfold OpRun
  have hsp : (spl cs.toList 0 (Value.agg l.toArray).cells.toList) = l := by
    simp only [Value.cells]
    exact spl_all (by simp; omega)
  have hrun : (execOp (rho L) ⟨none, .store T a x, ty, pos, af, g⟩).run P w = .ok .skip { w with heap := w.heap.setIfInBounds b (.cells l.toArray T) } := by
    have := run_storeAt (P := P) (f := f) (off := 0) (v := .agg l.toArray) g2 (by simpa [Value.cells] using hn) (by simp [Value.cells]; omega) (by simpa [Value.cells] using hone)
    rw [hsp] at this
    simp only [execOp, hx, hpa, Sem.run_bind, this, Result.andThen, Sem.run_pure]
  rw [hrun]
  have hk' := Kp.set w (o' := .cells l.toArray T) g2 rfl rfl
  exact ⟨rfl, ⟨g1, g2.set _⟩, h1.trans_new hk' (new1 (by omega)), fun j y hj hp => gd_all (q := fun D => ∀ y, D.phi y w → D.phi y _) (fun _ _ => trivial) (fun p hp hne y hy => hkeep p hp hne y w _ cs g2 g3 hk' (g2.set _) hy) j hj y hp⟩
/-- An owned row, as the slice that it is, and what holds it. -/
def gOP {α : Type} (m : Nat) (E : TypeId) (enc : α → List Value) (sz : Nat) (l : List α) (mk : Value → Value) : GD := ⟨Option Addr × Nat, (none, 0), fun q => mk (.slice q.1 l.length q.2), fun q w => w.ownsRow m E sz (.slice q.1 l.length q.2) l.length (flt enc l)⟩
theorem gOP_stab {α : Type} {m : Nat} {E : TypeId} {enc : α → List Value} {sz : Nat} {l : List α} {mk : Value → Value} (x : (gOP m E enc sz l mk).X) : Stab [] ((gOP m E enc sz l mk).phi x) := fun w w' hk h => own_kp0 h hk
theorem DerX.cloneP {α : Type} {enc : α → List Value} {m d : Nat} {t e : TypeId} {inf : TypeInfo} [u : Ut P t (.slice e)] [f : Inf P e inf] {z : Value} {s x : Operand} {b0 : Nat} {a : Option Addr} {c : Nat} (l : List α) (hel : ∀ x, (enc x).length = inf.size) (hone : ∀ x, allOne (enc x) = true) (hg : gdLook G i = some (gOP m e enc inf.size l (fun v => v)))
    (ho : ops[i]? = some ⟨some d, .call { callee := .builtin .append, args := #[s, x], argTypes := #[t, t] }, ty, pos, af, g⟩) (hw : want ops L ⟨some d, .call { callee := .builtin .append, args := #[s, x], argTypes := #[t, t] }, ty, pos, af, g⟩ = some true) (hk : (known L s && known L x) = true)
    (hs : rho L s = .slice (some ⟨b0, 0, none⟩) 0 0) (hx : rho L x = .slice a l.length c) (hz : inf.zero = some z) (hzs : Nat.beq z.cells.size inf.size = true) (hsz : Nat.blt 0 inf.size = true) (h63 : l.length ≤ maxLen) (hbytes : l.length * inf.bytes ≤ 140737488355328)
    (hc : ∀ w, Kp [] w0 w → Facts ops i Γ w → Sl enc inf.size w a l ∧ m ≤ b0 ∧ Blk w b0 (.cells #[] e))
    (h : ∀ (a' : Option Addr) (c' : Nat), DerX P w0 ops G K ord ((d, .slice a' l.length c') :: L) ((i, fun w => w.ownsRow m e inf.size (.slice a' l.length c') l.length (flt enc l)) :: Γ)) : DerX P w0 ops G K (i :: ord) L Γ := by
  refine DerX.eff (gOP m e enc inf.size l (fun v => v)) hg ho hw (by simpa [Op.operands, Call.operands] using hk) (fun w h1 h2 => ?_) (fun x => h x.1 x.2)
  obtain ⟨g1, g2, g3⟩ := hc w h1 h2
  obtain ⟨v', w', e1, e2, e3⟩ := run_cloneO (P := P) (ty := ty) (c := c) (u := u) (f := f) hz (Nat.eq_of_beq_eq_true hzs) (by simpa [Nat.blt_eq] using hsz) hel hone g1 g3 g2 h63 hbytes
  unfold OpRun
  have : (execOp (rho L) ⟨some d, .call { callee := .builtin .append, args := #[s, x], argTypes := #[t, t] }, ty, pos, af, g⟩).run P w = .ok (.value v') w' := by
    simp only [execOp, resolve, invoke, builtin, Sem.run_bind, Sem.run_pure, Result.andThen_ok, List.map_toArray, List.map_cons, List.map_nil, hs, hx, e1]
  rw [this]
  obtain ⟨a', c', rfl⟩ : ∃ a' c', v' = .slice a' l.length c' := by
    rcases e2.2 with ⟨r1, r2⟩ | ⟨gg, cap, cur, r1, _⟩
    · exact ⟨none, 0, by rw [r1, r2]⟩
    · exact ⟨_, _, r1⟩
  exact ⟨(a', c'), rfl, e2, e3⟩
theorem DerX.wrapP {α : Type} {enc : α → List Value} {sz m d : Nat} {E : TypeId} {l : List α} {mk : Value → Value} {op : Op} {v : Value} (a : Option Addr) (c : Nat) (hg : gdLook G i = some (gOP m E enc sz l mk)) (ho : ops[i]? = some ⟨some d, op, ty, pos, af, g⟩) (hw : want ops L ⟨some d, op, ty, pos, af, g⟩ = some true) (hk : op.operands.toList.all (known L) = true)
    (hv : Vals P [] w0 (Facts ops i Γ) L ⟨some d, op, ty, pos, af, g⟩ v) (hx : v = mk (.slice a l.length c)) (hphi : ∀ w, Kp [] w0 w → Facts ops i Γ w → w.ownsRow m E sz (.slice a l.length c) l.length (flt enc l))
    (h : ∀ (a : Option Addr) (c : Nat), DerX P w0 ops G K ord ((d, mk (.slice a l.length c)) :: L) ((i, fun w => w.ownsRow m E sz (.slice a l.length c) l.length (flt enc l)) :: Γ)) : DerX P w0 ops G K (i :: ord) L Γ :=
  DerX.valE (gOP m E enc sz l mk) (a, c) hg ho hw hk hv hx hphi (fun x => h x.1 x.2)
end
end Go.Proofs.Ytfelaicoedlejaa
/-
  A deed is done on both.
-/
namespace Go.Proofs.Ytfelaicoedlejaa
set_option linter.unusedVariables false

theorem inc_one (z : Int) : allOne (inc z) = true := rfl
theorem sl_own {α : Type} {enc : α → List Value} {sz : Nat} (he : ∀ x, (enc x).length = sz) {w : World} {base : Nat} {T : TypeId} {a : Option Addr} {c : Nat} {l : List α} (h : w.ownsRow base T sz (.slice a l.length c) l.length (flt enc l)) : Sl enc sz w a l := by
  obtain ⟨a', c', e, _, hS⟩ := Sl.own he h rfl
  cases e
  exact hS
theorem RnAt.kpb {w w' : World} {r : Rn} {v u : Value} (h : RnAt w r v u) {z : Nat} {cs : Array Value} (hz : Blk w z (.cells cs 47)) (hk : Kp [z] w w') : RnAt w' r v u := by
  refine ⟨own_kp h.way hk (fun b hb hm => ?_), own_kp h.cuts hk (fun b hb hm => ?_)⟩
  · rw [List.mem_singleton] at hm
    subst hm
    obtain ⟨cs', hc⟩ := own_blk h.way hb
    exact ne_ty (by decide) hz hc rfl
  · rw [List.mem_singleton] at hm
    subst hm
    obtain ⟨cs', hc⟩ := own_blk h.cuts hb
    exact ne_ty (by decide) hz hc rfl
theorem send1 {Φ : Fr} {w0 w : World} {bt bm : Nat} {s : Ns} (h : At Φ w0 w bt bm s) (hnow : s.now ≤ 1000000000000) (hsent : s.sent ≤ 1000000000000) (hpl : s.pend.length ≤ 4096) (A B : Int) (ab : Option Addr) (cb : Nat) (bs : List UInt8) (hSb : Sl byc 1 w ab bs) (al : Option Addr) (cl : Nat) (later : List Int)
    (hS : ∀ w', Kt bm w w' → SlI w' al later) (hl : later.length ≤ 100000) (hb : bs.length ≤ 1000000) : Calls Try.prog 13 #[.pointer (some ⟨bt, 0, none⟩), lv A B ab bs.length cb, fv al later.length cl] w (fun e w' => e = .returned (.int .i64 (s.sendE A B bs.length later)) ∧ At Φ w0 w' bt bm (s.sendD A B bs later) ∧ Kt bm w w') := by
  by_cases hE : s.sendE A B bs.length later = 0
  · obtain ⟨a1, a2, a3, a4⟩ := sendE_dec hE
    obtain ⟨A, rfl⟩ : ∃ k : Nat, A = (k : Int) := ⟨A.toNat, by omega⟩
    obtain ⟨B, rfl⟩ : ∃ k : Nat, B = (k : Int) := ⟨B.toNat, by omega⟩
    refine (send_at h hnow hsent A B ab cb bs hSb al cl later (fun w' hk _ => hS w' hk) hE).mono (fun e w' h => ?_)
    obtain ⟨he, hA, hk⟩ := h
    refine ⟨by rw [hE]; exact he, ?_, hk⟩
    unfold Ns.sendD
    rw [if_pos hE]
    exact hA
  · refine (send_no h (by omega) A B ab bs.length cb al cl later (hS w (Kt.of0 (Kp.refl _ _))) hl (by omega) hE).mono (fun e w' h' => ?_)
    obtain ⟨he, hk⟩ := h'
    refine ⟨he, ?_, Kt.of0 hk⟩
    unfold Ns.sendD
    rw [if_neg hE]
    exact h.kp0 hk
theorem cut1 {Φ : Fr} {w0 w : World} {bt bm : Nat} {s : Ns} (h : At Φ w0 w bt bm s) (A B : Int) (b : Bool) (h16 : s.parties ≤ 16) : Calls Try.prog 18 #[.pointer (some ⟨bt, 0, none⟩), .int .i64 A, .int .i64 B, .bool b] w (fun e w' => e = .returned (.int .i64 (s.cutE A B)) ∧ At Φ w0 w' bt bm (s.cutD A B b) ∧ Kt bm w w') := by
  by_cases hE : ¬ (0 ≤ A ∧ A < s.parties) ∨ ¬ (0 ≤ B ∧ B < s.parties)
  · have h' := h
    obtain ⟨h1, hP, due, h2, h3, h4⟩ := h
    refine (cut_bad h2 A B b hE).mono (fun e w' hh => ?_)
    obtain ⟨he, hk⟩ := hh
    have e28 : s.cutE A B = 28 := by unfold Ns.cutE; rw [if_pos hE]
    refine ⟨by rw [e28]; exact he, ?_, Kt.of0 hk⟩
    unfold Ns.cutD
    rw [if_neg (by rw [e28]; decide)]
    exact h'.kp0 hk
  · obtain ⟨A, rfl⟩ : ∃ k : Nat, A = (k : Int) := ⟨A.toNat, by omega⟩
    obtain ⟨B, rfl⟩ : ∃ k : Nat, B = (k : Int) := ⟨B.toNat, by omega⟩
    refine (cut_at h A B b h16 (by omega) (by omega)).mono (fun e w' hh => ?_)
    obtain ⟨he, hA, hk⟩ := hh
    have e0 : s.cutE A B = 0 := by unfold Ns.cutE; rw [if_neg hE]
    refine ⟨by rw [e0]; exact he, ?_, hk⟩
    unfold Ns.cutD
    rw [if_pos e0]
    exact hA
/-- The reference, whatever is sent. -/
def Rn.sendD (r : Rn) (A B : Int) (bs : List UInt8) (later : List Int) : Rn := if r.sendE A B bs.length later = 0 then r.send A.toNat B.toNat bs later else r
theorem rsend {w : World} {r : Rn} {v u : Value} (hR : RnAt w r v u) (ok : RnOk r) (A B : Int) (bs : List UInt8) (al : Option Addr) (cl : Nat) (later : List Int) (hS : SlI w al later) (hl : later.length ≤ 100000) :
    Calls Try.prog 35 #[.agg (rcl r v u).toArray, .int .i64 A, .int .i64 B, sv bs, .slice al later.length cl] w (fun e w' => ∃ v', e = .returned (.tuple #[.agg (rcl (r.sendD A B bs later) v' u).toArray, .int .i64 (r.sendE A B bs.length later)]) ∧ RnAt w' (r.sendD A B bs later) v' u ∧ Kp [] w w') := by
  by_cases hE : r.sendE A B bs.length later = 0
  · obtain ⟨a1, a2, a3, a4⟩ := sendE_dec (s := r.toNs) hE
    obtain ⟨A, rfl⟩ : ∃ k : Nat, A = (k : Int) := ⟨A.toNat, by omega⟩
    obtain ⟨B, rfl⟩ : ∃ k : Nat, B = (k : Int) := ⟨B.toNat, by omega⟩
    refine (rsend_good hR ok A B bs al cl later hS hE).mono (fun e w' h => ?_)
    have ed : r.sendD A B bs later = r.send A B bs later := by unfold Rn.sendD; rw [if_pos hE]; rfl
    rw [ed, hE]
    exact h
  · refine (rsend_bad hR ok A B bs al cl later hS hl hE).mono (fun e w' h => ?_)
    have ed : r.sendD A B bs later = r := by unfold Rn.sendD; rw [if_neg hE]
    rw [ed]
    obtain ⟨he, hk⟩ := h
    exact ⟨v, he, hR.kp0 hk, hk⟩
def Rn.cutE (r : Rn) (A B : Int) : Int := r.toNs.cutE A B
def Rn.cutD (r : Rn) (A B : Int) (b : Bool) : Rn := if r.cutE A B = 0 then r.cut A.toNat B.toNat b else r
theorem rcutD {w : World} {r : Rn} {v u : Value} (hR : RnAt w r v u) (ok : RnOk r) (A B : Int) (b : Bool) :
    Calls Try.prog 38 #[.agg (rcl r v u).toArray, .int .i64 A, .int .i64 B, .bool b] w (fun e w' => ∃ u', e = .returned (.tuple #[.agg (rcl (r.cutD A B b) v u').toArray, .int .i64 (r.cutE A B)]) ∧ RnAt w' (r.cutD A B b) v u' ∧ Kp [] w w') := by
  by_cases hE : ¬ (0 ≤ A ∧ A < (r.parties : Int)) ∨ ¬ (0 ≤ B ∧ B < (r.parties : Int))
  · have e28 : r.cutE A B = 28 := by unfold Rn.cutE Ns.cutE; exact if_pos hE
    have ed : r.cutD A B b = r := by unfold Rn.cutD; rw [if_neg (by rw [e28]; decide)]
    refine (rcut_bad hR A B b hE).mono (fun e w' h => ?_)
    obtain ⟨he, hk⟩ := h
    rw [ed, e28]
    exact ⟨u, he, hR.kp0 hk, hk⟩
  · have e0 : r.cutE A B = 0 := by unfold Rn.cutE Ns.cutE; exact if_neg hE
    obtain ⟨A, rfl⟩ : ∃ k : Nat, A = (k : Int) := ⟨A.toNat, by omega⟩
    obtain ⟨B, rfl⟩ : ∃ k : Nat, B = (k : Int) := ⟨B.toNat, by omega⟩
    have ed : r.cutD A B b = r.cut A B b := by unfold Rn.cutD; rw [if_pos e0]; rfl
    refine (rcut_good hR ok A B b (by omega) (by omega)).mono (fun e w' h => ?_)
    rw [ed, e0]
    exact h
theorem Rel.sendD {i : Nat} {s : Ns} {r : Rn} (h : Rel i s r) {A B : Int} {bs : List UInt8} {later : List Int} : Rel (i + 1) (s.sendD A B bs later) (r.sendD A B bs later) := by
  unfold Ns.sendD Rn.sendD
  rw [h.sendE]
  by_cases hE : s.sendE A B bs.length later = 0
  · rw [if_pos hE, if_pos hE]
    obtain ⟨a1, a2, a3, a4⟩ := sendE_dec hE
    obtain ⟨A, rfl⟩ : ∃ k : Nat, A = (k : Int) := ⟨A.toNat, by omega⟩
    obtain ⟨B, rfl⟩ : ∃ k : Nat, B = (k : Int) := ⟨B.toNat, by omega⟩
    exact h.send hE
  · rw [if_neg hE, if_neg hE]
    exact h.up (by omega)
theorem Rel.cutE {i : Nat} {s : Ns} {r : Rn} (h : Rel i s r) (A B : Int) : r.cutE A B = s.cutE A B := by
  unfold Rn.cutE Ns.cutE
  show (if ¬ (0 ≤ A ∧ A < (r.parties : Int)) ∨ ¬ (0 ≤ B ∧ B < (r.parties : Int)) then (28 : Int) else 0) = _
  rw [← h.p]
theorem Rel.cutD {i : Nat} {s : Ns} {r : Rn} (h : Rel i s r) {A B : Int} {b : Bool} : Rel (i + 1) (s.cutD A B b) (r.cutD A B b) := by
  unfold Ns.cutD Rn.cutD
  rw [h.cutE]
  by_cases hE : ¬ (0 ≤ A ∧ A < (s.parties : Int)) ∨ ¬ (0 ≤ B ∧ B < (s.parties : Int))
  · have e28 : s.cutE A B = 28 := by unfold Ns.cutE; rw [if_pos hE]
    rw [if_neg (by rw [e28]; decide), if_neg (by rw [e28]; decide)]
    exact h.up (by omega)
  · have e0 : s.cutE A B = 0 := by unfold Ns.cutE; rw [if_neg hE]
    rw [if_pos e0, if_pos e0]
    exact h.cutS (by omega) (by omega) b
theorem dd_rows {w : World} {b : Nat} {x : Dd} (h : Blk w b (.cells (dcl x).toArray 58)) : Row w b 0 [bv x.what] ∧ Row w b 1 [.int .i64 x.A] ∧ Row w b 2 [.int .i64 x.B] ∧ Row w b 3 [sv x.bs] ∧ Row w b 4 [.slice x.a x.later.length x.c] :=
  ⟨Row.of h [] [.int .i64 x.A, .int .i64 x.B, sv x.bs, .slice x.a x.later.length x.c] rfl rfl, Row.of h [bv x.what] [.int .i64 x.B, sv x.bs, .slice x.a x.later.length x.c] rfl rfl, Row.of h [bv x.what, .int .i64 x.A] [sv x.bs, .slice x.a x.later.length x.c] rfl rfl,
    Row.of h [bv x.what, .int .i64 x.A, .int .i64 x.B] [.slice x.a x.later.length x.c] rfl rfl, Row.of h [bv x.what, .int .i64 x.A, .int .i64 x.B, sv x.bs] [] rfl rfl⟩
theorem build35d (w : World) (f t : Int) (a : Option Addr) (n c : Nat) : (Instr.build 35 #[(0, Value.int .i64 f), (1, Value.int .i64 t), (2, Value.slice a n c)]).run Try.prog w = .ok (.agg #[.int .i64 f, .int .i64 t, .slice a n c]) w := by kernel_rfl
/-- What a call of the reference promises. -/
def gR (r : Rn) (k : Int) (u : Value) : GD := ⟨Value, undef, fun v => .tuple #[.agg (rcl r v u).toArray, .int .i64 k], fun v w => RnAt w r v u⟩
theorem gR_stab {r : Rn} {k : Int} {u : Value} (x : (gR r k u).X) : Stab [] ((gR r k u).phi x) := fun w w' hk h => RnAt.kp0 h hk
def gR' (r : Rn) (k : Int) (v : Value) : GD := ⟨Value, undef, fun u => .tuple #[.agg (rcl r v u).toArray, .int .i64 k], fun u w => RnAt w r v u⟩
theorem gR'_stab {r : Rn} {k : Int} {v : Value} (x : (gR' r k v).X) : Stab [] ((gR' r k v).phi x) := fun w w' hk h => RnAt.kp0 h hk
end Go.Proofs.Ytfelaicoedlejaa
/-
  A deed is done on both: the walk.
-/
namespace Go.Proofs.Ytfelaicoedlejaa
set_option linter.unusedVariables false

/-- What a deed makes of a net. -/
def Ns.doD (s : Ns) (d : Dd) : Ns := if (d.what.toNat : Int) % 4 = 0 then s.sendD d.A d.B d.bs d.later else if (d.what.toNat : Int) % 4 = 1 then s.step else s.cutD d.A d.B (decide ((d.what.toNat : Int) % 4 = 2))
attribute [local irreducible] CG NG SG Vals Der Row Blk MapIs IterAt DerX sv
set_option maxHeartbeats 32000000 in
theorem do_spec {Φ : Fr} {w0 w : World} {bt bm : Nat} {s : Ns} (h : At Φ w0 w bt bm s) {bw : Nat} {r : Rn} {v u : Value} (hB : Blk w bw (.cells (rcl r v u).toArray 47)) (hbw : w0.heap.size ≤ bw) (hR : RnAt w r v u) {i : Nat} (rel : Rel i s r) (hi : i ≤ 150) (d : Dd) (hd : d.bs.length ≤ 100 ∧ d.later.length ≤ 20) (hSd : SlI w0 d.a d.later) :
    Calls Try.prog 23 #[.pointer (some ⟨bt, 0, none⟩), .pointer (some ⟨bw, 0, none⟩), .agg (dcl d).toArray] w (fun e w' => ∃ r' v' u', e = .returned (.bool true) ∧ At Φ w0 w' bt bm (s.doD d) ∧ Blk w' bw (.cells (rcl r' v' u').toArray 47) ∧ RnAt w' r' v' u' ∧ Rel (i + 1) (s.doD d) r') := by
  refine enter3 Try.func23 rfl Try.ntmps23 rfl ?_
  have ok := rel.ok (by omega)
  have hn1 := rel.nle
  have hn2 := rel.sent
  have hn3 := rel.len
  have hone := hR.one
  obtain ⟨hd1, hd2⟩ := hd
  repeat (first|apply CG.seq|apply CG.region|apply SG.nil|apply NG.next|apply CG.skip|apply CG.block|apply CG.ret|apply CG.exit|apply CG.scope|apply NG.ret_then|apply NG.ret_block|apply NG.ret_scope|apply NG.exit_then|refine NG.exit_block rfl ?_|refine NG.exit_other rfl ?_|apply NG.exit_scope|apply NG.normal_block|apply NG.normal_scope|refine SG.val rfl rfl rfl rfl (by first|((first|apply qmv|apply qas|apply qlc|apply qla|apply qfa|apply qnc|apply qic|apply qix|apply qpk|apply qls|apply qei|apply qni|apply qed|apply qnd|apply qad|apply qln|apply qle|apply qgt|apply qge|apply qlk|apply qlv|apply qxt|apply qsb|apply qnt|apply qep|apply qnp|apply qeb|apply qnb|apply qx2|apply qx4|apply qcv|apply qlm|apply qfr|apply qto|apply qmx|apply qen|apply qsn|apply qx8|apply qx7|apply qx6|apply qx5|apply qx4|apply qx3|apply qx2|apply qx1|apply qx0)<;>(first|exact rfl|exact Ar.mk (by omega)|assumption|exact dct (by assumption)|exact dcf (by assumption)|exact dct (by omega)|exact dcf (by omega)|exact List.not_mem_nil|exact dc_length _|exact nc_length _|exact rc_length _ _ _|exact ec_length _|exact nm1 (by omega)|exact nm2 (by omega) (by omega)|exact dct rfl|exact dct (by decide)|exact dcf (by decide)|exact (Int.toNat_of_nonneg (by omega)).symm|exact dcu|exact lk1 (by assumption)|exact lk0 (by assumption)|exact lkb|fail))|fail) ?_)
  refine SG.box rfl rfl rfl (by exact rho_of rfl) (fun b5 w1 hk1 hb5 hB5 => ?_)
  have hB5 : Blk w1 b5 (.cells (dcl d).toArray 58) := hB5
  have h1 := h.kp0 hk1
  have hB1 := hB.kp0 hk1
  have hR1 := hR.kp0 hk1
  obtain ⟨r0, r1, r2, r3, r4⟩ := dd_rows hB5
  have hw4 : (d.what.toNat : Int) % 4 = 0 ∨ (d.what.toNat : Int) % 4 = 1 ∨ (¬ (d.what.toNat : Int) % 4 = 0 ∧ ¬ (d.what.toNat : Int) % 4 = 1) := by omega
  rcases hw4 with k0 | k0 | ⟨k0, k1⟩
  · have eD : s.doD d = s.sendD d.A d.B d.bs d.later := by unfold Ns.doD; rw [if_pos k0]
    rw [eD]
    repeat (first|apply CG.seq|apply CG.region|apply SG.nil|apply NG.next|apply CG.skip|apply CG.block|apply CG.ret|apply CG.exit|apply CG.scope|apply NG.ret_then|apply NG.ret_block|apply NG.ret_scope|apply NG.exit_then|refine NG.exit_block rfl ?_|refine NG.exit_other rfl ?_|apply NG.exit_scope|apply NG.normal_block|apply NG.normal_scope|refine SG.val rfl rfl rfl rfl (by first|((first|apply qmv|apply qas|apply qlc|apply qla|apply qfa|apply qnc|apply qic|apply qix|apply qpk|apply qls|apply qei|apply qni|apply qed|apply qnd|apply qad|apply qln|apply qle|apply qgt|apply qge|apply qlk|apply qlv|apply qxt|apply qsb|apply qnt|apply qep|apply qnp|apply qeb|apply qnb|apply qx2|apply qx4|apply qcv|apply qlm|apply qfr|apply qto|apply qmx|apply qen|apply qsn|apply qx8|apply qx7|apply qx6|apply qx5|apply qx4|apply qx3|apply qx2|apply qx1|apply qx0)<;>(first|exact rfl|exact Ar.mk (by omega)|assumption|exact dct (by assumption)|exact dcf (by assumption)|exact dct (by omega)|exact dcf (by omega)|exact List.not_mem_nil|exact dc_length _|exact nc_length _|exact rc_length _ _ _|exact ec_length _|exact nm1 (by omega)|exact nm2 (by omega) (by omega)|exact dct rfl|exact dct (by decide)|exact dcf (by decide)|exact (Int.toNat_of_nonneg (by omega)).symm|exact dcu|exact lk1 (by assumption)|exact lk0 (by assumption)|exact lkb|fail))|fail) ?_)
    refine CG.cond_t rfl (by exact rho_of rfl) rfl ?_
    repeat (first|apply CG.seq|apply CG.region|apply SG.nil|apply NG.next|apply CG.skip|apply CG.block|apply CG.ret|apply CG.exit|apply CG.scope|apply NG.ret_then|apply NG.ret_block|apply NG.ret_scope|apply NG.exit_then|refine NG.exit_block rfl ?_|refine NG.exit_other rfl ?_|apply NG.exit_scope|apply NG.normal_block|apply NG.normal_scope|refine SG.val rfl rfl rfl rfl (by first|((first|apply qmv|apply qas|apply qlc|apply qla|apply qfa|apply qnc|apply qic|apply qix|apply qpk|apply qls|apply qei|apply qni|apply qed|apply qnd|apply qad|apply qln|apply qle|apply qgt|apply qge|apply qlk|apply qlv|apply qxt|apply qsb|apply qnt|apply qep|apply qnp|apply qeb|apply qnb|apply qx2|apply qx4|apply qcv|apply qlm|apply qfr|apply qto|apply qmx|apply qen|apply qsn|apply qx8|apply qx7|apply qx6|apply qx5|apply qx4|apply qx3|apply qx2|apply qx1|apply qx0)<;>(first|exact rfl|exact Ar.mk (by omega)|assumption|exact dct (by assumption)|exact dcf (by assumption)|exact dct (by omega)|exact dcf (by omega)|exact List.not_mem_nil|exact dc_length _|exact nc_length _|exact rc_length _ _ _|exact ec_length _|exact nm1 (by omega)|exact nm2 (by omega) (by omega)|exact dct rfl|exact dct (by decide)|exact dcf (by decide)|exact (Int.toNat_of_nonneg (by omega)).symm|exact dcu|exact lk1 (by assumption)|exact lk0 (by assumption)|exact lkb|fail))|fail) ?_)
    refine CG.free mixed 14 [0, 1, 2, 3, 4, 5, 6, 10, 11, 7, 8, 9, 12, 13] [(7, gT d.bs (fun v => v)), (8, gT d.bs (fun v => .agg #[.int .i64 d.A, .int .i64 d.B, v])), (9, gE w1.heap.size 3), (12, gOP w1.heap.size 3 inc 1 d.later (fun v => v)), (13, gOP w1.heap.size 3 inc 1 d.later (fun v => .agg #[v]))] (by kernel_rfl) (by intro p hp y; simp at hp; rcases hp with rfl | rfl | rfl | rfl | rfl; exact gT_stab y; exact gT_stab y; exact gE_stab y; exact gOP_stab y; exact gOP_stab y) ?_
    repeat (refine DerX.val rfl rfl rfl rfl (by first|((first|apply qmv|apply qas|apply qlc|apply qla|apply qfa|apply qnc|apply qic|apply qix|apply qpk|apply qls|apply qei|apply qni|apply qed|apply qnd|apply qad|apply qln|apply qle|apply qgt|apply qge|apply qlk|apply qlv|apply qxt|apply qsb|apply qnt|apply qep|apply qnp|apply qeb|apply qnb|apply qx2|apply qx4|apply qcv|apply qlm|apply qfr|apply qto|apply qmx|apply qen|apply qsn|apply qx8|apply qx7|apply qx6|apply qx5|apply qx4|apply qx3|apply qx2|apply qx1|apply qx0)<;>(first|exact rfl|exact Ar.mk (by omega)|assumption|exact dct (by assumption)|exact dcf (by assumption)|exact dct (by omega)|exact dcf (by omega)|exact List.not_mem_nil|exact dc_length _|exact nc_length _|exact rc_length _ _ _|exact ec_length _|exact nm1 (by omega)|exact nm2 (by omega) (by omega)|exact dct rfl|exact dct (by decide)|exact dcf (by decide)|exact (Int.toNat_of_nonneg (by omega)).symm|exact dcu|exact lk1 (by assumption)|exact lk0 (by assumption)|exact lkb|fail))|fail) ?_)
    refine DerX.strB rfl rfl rfl rfl rfl (fun b7 c7 => ?_)
    refine DerX.wrapT b7 c7 rfl rfl rfl rfl (vals_build rfl (fun w => build35d w d.A d.B (some ⟨b7, 0, none⟩) d.bs.length c7)) rfl (fun w hk hF => hF _ (.head _) (by kernel_rfl)) (fun b8 c8 => ?_)
    refine DerX.empty rfl rfl rfl (Nat.le_refl _) (fun b9 => ?_)
    refine DerX.cloneP d.later inc_length inc_one rfl rfl rfl rfl (by exact rho_of rfl) (by exact rho_of rfl) rfl rfl rfl (by simp only [maxLen]; omega) (by show d.later.length * 8 ≤ _; omega) (fun w hk hF => ⟨(hSd.kp0 h1.kp).kp0 hk, hF _ (.head _) (by kernel_rfl)⟩) (fun a12 c12 => ?_)
    refine DerX.wrapP a12 c12 rfl rfl rfl rfl (vals_build rfl (fun w => build31 w a12 d.later.length c12)) rfl (fun w hk hF => hF _ (.head _) (by kernel_rfl)) (fun a13 c13 => ?_)
    refine DerX.tl (fun w2 hk2 hF => ?_)
    have hown : w2.ownsRow w1.heap.size 3 1 (.slice a13 d.later.length c13) d.later.length (flt inc d.later) := hF _ (.head _)
    have hS8 : Sl byc 1 w2 (some ⟨b8, 0, none⟩) d.bs := hF _ (.tail _ (.tail _ (.tail _ (.head _))))
    clear hF
    refine SG.call rfl rfl rfl (by repeat' (first | exact True.intro | exact rho_of rfl | refine And.intro ?_ ?_)) ((send1 (h1.kp0 hk2) (by omega) (by omega) (by omega) d.A d.B (some ⟨b8, 0, none⟩) c8 d.bs hS8 a13 c13 d.later (fun w' hk => sl_own inc_length (own_kt hown hk (by decide) (by decide))) (by omega) (by omega)).mono (fun e w3 hh => ?_))
    obtain ⟨he3, h3, hk3⟩ := hh
    refine ⟨_, he3, ?_⟩
    have hB3 := hk3.cells _ _ _ _ (by decide) (by decide) (hB1.kp0 hk2)
    have hB53 := hk3.cells _ _ _ _ (by decide) (by decide) (hB5.kp0 hk2)
    have hR3 := (hR1.kp0 hk2).kt hk3
    obtain ⟨r0, r1, r2, r3, r4⟩ := dd_rows hB53
    obtain ⟨_, _, _, _, q4⟩ := rows47 hB3
    repeat (first|apply CG.seq|apply CG.region|apply SG.nil|apply NG.next|apply CG.skip|apply CG.block|apply CG.ret|apply CG.exit|apply CG.scope|apply NG.ret_then|apply NG.ret_block|apply NG.ret_scope|apply NG.exit_then|refine NG.exit_block rfl ?_|refine NG.exit_other rfl ?_|apply NG.exit_scope|apply NG.normal_block|apply NG.normal_scope|refine SG.val rfl rfl rfl rfl (by first|((first|apply qmv|apply qas|apply qlc|apply qla|apply qfa|apply qnc|apply qic|apply qix|apply qpk|apply qls|apply qei|apply qni|apply qed|apply qnd|apply qad|apply qln|apply qle|apply qgt|apply qge|apply qlk|apply qlv|apply qxt|apply qsb|apply qnt|apply qep|apply qnp|apply qeb|apply qnb|apply qx2|apply qx4|apply qcv|apply qlm|apply qfr|apply qto|apply qmx|apply qen|apply qsn|apply qx8|apply qx7|apply qx6|apply qx5|apply qx4|apply qx3|apply qx2|apply qx1|apply qx0)<;>(first|exact rfl|exact Ar.mk (by omega)|assumption|exact dct (by assumption)|exact dcf (by assumption)|exact dct (by omega)|exact dcf (by omega)|exact List.not_mem_nil|exact dc_length _|exact nc_length _|exact rc_length _ _ _|exact ec_length _|exact nm1 (by omega)|exact nm2 (by omega) (by omega)|exact dct rfl|exact dct (by decide)|exact dcf (by decide)|exact (Int.toNat_of_nonneg (by omega)).symm|exact dcu|exact lk1 (by assumption)|exact lk0 (by assumption)|exact lkb|fail))|fail) ?_)
    refine CG.free mixed 17 [0, 1, 2, 3, 4, 5, 6, 7, 8, 9, 10, 11, 12, 13, 14, 15, 16] [(11, gR (r.sendD d.A d.B d.bs d.later) (r.sendE d.A d.B d.bs.length d.later) u), (15, gV w3.heap.size 47 4), (16, gP w3.heap.size 47)] (by kernel_rfl) (by intro p hp y; simp at hp; rcases hp with rfl | rfl | rfl; exact gR_stab y; exact gV_stab y; exact gP_stab y) ?_
    repeat (refine DerX.val rfl rfl rfl rfl (by first|((first|apply qmv|apply qas|apply qlc|apply qla|apply qfa|apply qnc|apply qic|apply qix|apply qpk|apply qls|apply qei|apply qni|apply qed|apply qnd|apply qad|apply qln|apply qle|apply qgt|apply qge|apply qlk|apply qlv|apply qxt|apply qsb|apply qnt|apply qep|apply qnp|apply qeb|apply qnb|apply qx2|apply qx4|apply qcv|apply qlm|apply qfr|apply qto|apply qmx|apply qen|apply qsn|apply qx8|apply qx7|apply qx6|apply qx5|apply qx4|apply qx3|apply qx2|apply qx1|apply qx0)<;>(first|exact rfl|exact Ar.mk (by omega)|assumption|exact dct (by assumption)|exact dcf (by assumption)|exact dct (by omega)|exact dcf (by omega)|exact List.not_mem_nil|exact dc_length _|exact nc_length _|exact rc_length _ _ _|exact ec_length _|exact nm1 (by omega)|exact nm2 (by omega) (by omega)|exact dct rfl|exact dct (by decide)|exact dcf (by decide)|exact (Int.toNat_of_nonneg (by omega)).symm|exact dcu|exact lk1 (by assumption)|exact lk0 (by assumption)|exact lkb|fail))|fail) ?_)
    refine DerX.callE (gR (r.sendD d.A d.B d.bs d.later) (r.sendE d.A d.B d.bs.length d.later) u) rfl rfl rfl rfl (by repeat' (first | exact True.intro | exact rho_of rfl | refine And.intro ?_ ?_)) (fun w hk _ => (rsend (hR3.kp0 hk) ok d.A d.B d.bs d.a d.c d.later ((hSd.kp0 h3.kp).kp0 hk) (by omega)).mono (fun e w' ⟨v', g1, g2, g3⟩ => ⟨v', g1, g2, g3⟩)) (fun v' => ?_)
    repeat (refine DerX.val rfl rfl rfl rfl (by first|((first|apply qmv|apply qas|apply qlc|apply qla|apply qfa|apply qnc|apply qic|apply qix|apply qpk|apply qls|apply qei|apply qni|apply qed|apply qnd|apply qad|apply qln|apply qle|apply qgt|apply qge|apply qlk|apply qlv|apply qxt|apply qsb|apply qnt|apply qep|apply qnp|apply qeb|apply qnb|apply qx2|apply qx4|apply qcv|apply qlm|apply qfr|apply qto|apply qmx|apply qen|apply qsn|apply qx8|apply qx7|apply qx6|apply qx5|apply qx4|apply qx3|apply qx2|apply qx1|apply qx0)<;>(first|exact rfl|exact Ar.mk (by omega)|assumption|exact dct (by assumption)|exact dcf (by assumption)|exact dct (by omega)|exact dcf (by omega)|exact List.not_mem_nil|exact dc_length _|exact nc_length _|exact rc_length _ _ _|exact ec_length _|exact nm1 (by omega)|exact nm2 (by omega) (by omega)|exact dct rfl|exact dct (by decide)|exact dcf (by decide)|exact (Int.toNat_of_nonneg (by omega)).symm|exact dcu|exact lk1 (by assumption)|exact lk0 (by assumption)|exact lkb|fail))|fail) ?_)
    refine DerX.allocV rfl rfl rfl rfl rfl (Nat.le_refl _) (fun b15 => ?_)
    refine DerX.storeV (l := rcl (r.sendD d.A d.B d.bs d.later) v' u) rfl rfl rfl rfl (by kernel_rfl) (by exact rho_of rfl) (by exact rho_of rfl) rfl (Nat.le_refl _) (fun w hk hF => ⟨hF _ (.head _) (by kernel_rfl), RnAt.one (w := w) (hF _ (.tail _ (.head _)) (by kernel_rfl))⟩) ?_ ?_
    · intro p hp hne y w w' cs g1 g2 g3 g4 g5
      simp only [List.mem_cons, List.not_mem_nil, or_false] at hp
      rcases hp with rfl | rfl | rfl
      · exact RnAt.kpb g5 g1 g3
      · exact gV_keep rfl g3 g4 g5
      · exact absurd rfl hne
    refine DerX.tl (fun w4 hk4 hF => ?_)
    have hB16 : w3.heap.size ≤ b15 ∧ Blk w4 b15 (.cells (rcl (r.sendD d.A d.B d.bs d.later) v' u).toArray 47) := hF _ (.head _)
    have hR4 : RnAt w4 (r.sendD d.A d.B d.bs d.later) v' u := hF _ (.tail _ (.tail _ (.head _)))
    clear hF
    obtain ⟨_, _, _, _, q4⟩ := rows47 hB16.2
    have hB4 := hB3.kp0 hk4
    repeat (first|apply CG.seq|apply CG.region|apply SG.nil|apply NG.next|apply CG.skip|apply CG.block|apply CG.ret|apply CG.exit|apply CG.scope|apply NG.ret_then|apply NG.ret_block|apply NG.ret_scope|apply NG.exit_then|refine NG.exit_block rfl ?_|refine NG.exit_other rfl ?_|apply NG.exit_scope|apply NG.normal_block|apply NG.normal_scope|refine SG.val rfl rfl rfl rfl (by first|((first|apply qmv|apply qas|apply qlc|apply qla|apply qfa|apply qnc|apply qic|apply qix|apply qpk|apply qls|apply qei|apply qni|apply qed|apply qnd|apply qad|apply qln|apply qle|apply qgt|apply qge|apply qlk|apply qlv|apply qxt|apply qsb|apply qnt|apply qep|apply qnp|apply qeb|apply qnb|apply qx2|apply qx4|apply qcv|apply qlm|apply qfr|apply qto|apply qmx|apply qen|apply qsn|apply qx8|apply qx7|apply qx6|apply qx5|apply qx4|apply qx3|apply qx2|apply qx1|apply qx0)<;>(first|exact rfl|exact Ar.mk (by omega)|assumption|exact dct (by assumption)|exact dcf (by assumption)|exact dct (by omega)|exact dcf (by omega)|exact List.not_mem_nil|exact dc_length _|exact nc_length _|exact rc_length _ _ _|exact ec_length _|exact nm1 (by omega)|exact nm2 (by omega) (by omega)|exact dct rfl|exact dct (by decide)|exact dcf (by decide)|exact (Int.toNat_of_nonneg (by omega)).symm|exact dcu|exact lk1 (by assumption)|exact lk0 (by assumption)|exact lkb|fail))|fail) ?_)
    refine SG.setAll (old := rcl r v u) (l := rcl (r.sendD d.A d.B d.bs d.later) v' u) rfl rfl (by exact rho_of rfl) (by exact rho_of rfl) hB4 rfl rfl hR4.one (fun w5 hk5 hB5' => ?_)
    have eE : r.sendE d.A d.B d.bs.length d.later = s.sendE d.A d.B d.bs.length d.later := rel.sendE _ _ _ _
    rw [eE]
    repeat (first|apply CG.seq|apply CG.region|apply SG.nil|apply NG.next|apply CG.skip|apply CG.block|apply CG.ret|apply CG.exit|apply CG.scope|apply NG.ret_then|apply NG.ret_block|apply NG.ret_scope|apply NG.exit_then|refine NG.exit_block rfl ?_|refine NG.exit_other rfl ?_|apply NG.exit_scope|apply NG.normal_block|apply NG.normal_scope|refine SG.val rfl rfl rfl rfl (by first|((first|apply qmv|apply qas|apply qlc|apply qla|apply qfa|apply qnc|apply qic|apply qix|apply qpk|apply qls|apply qei|apply qni|apply qed|apply qnd|apply qad|apply qln|apply qle|apply qgt|apply qge|apply qlk|apply qlv|apply qxt|apply qsb|apply qnt|apply qep|apply qnp|apply qeb|apply qnb|apply qx2|apply qx4|apply qcv|apply qlm|apply qfr|apply qto|apply qmx|apply qen|apply qsn|apply qx8|apply qx7|apply qx6|apply qx5|apply qx4|apply qx3|apply qx2|apply qx1|apply qx0)<;>(first|exact rfl|exact Ar.mk (by omega)|assumption|exact dct (by assumption)|exact dcf (by assumption)|exact dct (by omega)|exact dcf (by omega)|exact List.not_mem_nil|exact dc_length _|exact nc_length _|exact rc_length _ _ _|exact ec_length _|exact nm1 (by omega)|exact nm2 (by omega) (by omega)|exact dct rfl|exact dct (by decide)|exact dcf (by decide)|exact (Int.toNat_of_nonneg (by omega)).symm|exact dcu|exact lk1 (by assumption)|exact lk0 (by assumption)|exact lkb|fail))|fail) ?_)
    refine ret1 (Or.inl rfl) Try.results23 (by first | exact ResV.tmp rfl | exact ResV.agg rfl rfl (by assumption) (by first | exact dc_length _ | exact nc_length _ | exact rc_length _ _ _ | exact ec_length _ | rfl) | exact ResV.cell rfl rfl (by assumption)) ?_
    exact ⟨_, _, _, rfl, (h3.kp0 hk4).kpb hB4 (by omega) (by decide) (by decide) (by decide) hk5, hB5', hR4.kpb hB4 hk5, rel.sendD⟩
  · have k0' : ¬ (d.what.toNat : Int) % 4 = 0 := by omega
    have eD : s.doD d = s.step := by unfold Ns.doD; rw [if_neg k0', if_pos k0]
    rw [eD]
    repeat (first|apply CG.seq|apply CG.region|apply SG.nil|apply NG.next|apply CG.skip|apply CG.block|apply CG.ret|apply CG.exit|apply CG.scope|apply NG.ret_then|apply NG.ret_block|apply NG.ret_scope|apply NG.exit_then|refine NG.exit_block rfl ?_|refine NG.exit_other rfl ?_|apply NG.exit_scope|apply NG.normal_block|apply NG.normal_scope|refine SG.val rfl rfl rfl rfl (by first|((first|apply qmv|apply qas|apply qlc|apply qla|apply qfa|apply qnc|apply qic|apply qix|apply qpk|apply qls|apply qei|apply qni|apply qed|apply qnd|apply qad|apply qln|apply qle|apply qgt|apply qge|apply qlk|apply qlv|apply qxt|apply qsb|apply qnt|apply qep|apply qnp|apply qeb|apply qnb|apply qx2|apply qx4|apply qcv|apply qlm|apply qfr|apply qto|apply qmx|apply qen|apply qsn|apply qx8|apply qx7|apply qx6|apply qx5|apply qx4|apply qx3|apply qx2|apply qx1|apply qx0)<;>(first|exact rfl|exact Ar.mk (by omega)|assumption|exact dct (by assumption)|exact dcf (by assumption)|exact dct (by omega)|exact dcf (by omega)|exact List.not_mem_nil|exact dc_length _|exact nc_length _|exact rc_length _ _ _|exact ec_length _|exact nm1 (by omega)|exact nm2 (by omega) (by omega)|exact dct rfl|exact dct (by decide)|exact dcf (by decide)|exact (Int.toNat_of_nonneg (by omega)).symm|exact dcu|exact lk1 (by assumption)|exact lk0 (by assumption)|exact lkb|fail))|fail) ?_)
    refine CG.cond_f rfl (by exact rho_of rfl) rfl ?_
    repeat (first|apply CG.seq|apply CG.region|apply SG.nil|apply NG.next|apply CG.skip|apply CG.block|apply CG.ret|apply CG.exit|apply CG.scope|apply NG.ret_then|apply NG.ret_block|apply NG.ret_scope|apply NG.exit_then|refine NG.exit_block rfl ?_|refine NG.exit_other rfl ?_|apply NG.exit_scope|apply NG.normal_block|apply NG.normal_scope|refine SG.val rfl rfl rfl rfl (by first|((first|apply qmv|apply qas|apply qlc|apply qla|apply qfa|apply qnc|apply qic|apply qix|apply qpk|apply qls|apply qei|apply qni|apply qed|apply qnd|apply qad|apply qln|apply qle|apply qgt|apply qge|apply qlk|apply qlv|apply qxt|apply qsb|apply qnt|apply qep|apply qnp|apply qeb|apply qnb|apply qx2|apply qx4|apply qcv|apply qlm|apply qfr|apply qto|apply qmx|apply qen|apply qsn|apply qx8|apply qx7|apply qx6|apply qx5|apply qx4|apply qx3|apply qx2|apply qx1|apply qx0)<;>(first|exact rfl|exact Ar.mk (by omega)|assumption|exact dct (by assumption)|exact dcf (by assumption)|exact dct (by omega)|exact dcf (by omega)|exact List.not_mem_nil|exact dc_length _|exact nc_length _|exact rc_length _ _ _|exact ec_length _|exact nm1 (by omega)|exact nm2 (by omega) (by omega)|exact dct rfl|exact dct (by decide)|exact dcf (by decide)|exact (Int.toNat_of_nonneg (by omega)).symm|exact dcu|exact lk1 (by assumption)|exact lk0 (by assumption)|exact lkb|fail))|fail) ?_)
    refine CG.cond_t rfl (by exact rho_of rfl) rfl ?_
    repeat (first|apply CG.seq|apply CG.region|apply SG.nil|apply NG.next|apply CG.skip|apply CG.block|apply CG.ret|apply CG.exit|apply CG.scope|apply NG.ret_then|apply NG.ret_block|apply NG.ret_scope|apply NG.exit_then|refine NG.exit_block rfl ?_|refine NG.exit_other rfl ?_|apply NG.exit_scope|apply NG.normal_block|apply NG.normal_scope|refine SG.val rfl rfl rfl rfl (by first|((first|apply qmv|apply qas|apply qlc|apply qla|apply qfa|apply qnc|apply qic|apply qix|apply qpk|apply qls|apply qei|apply qni|apply qed|apply qnd|apply qad|apply qln|apply qle|apply qgt|apply qge|apply qlk|apply qlv|apply qxt|apply qsb|apply qnt|apply qep|apply qnp|apply qeb|apply qnb|apply qx2|apply qx4|apply qcv|apply qlm|apply qfr|apply qto|apply qmx|apply qen|apply qsn|apply qx8|apply qx7|apply qx6|apply qx5|apply qx4|apply qx3|apply qx2|apply qx1|apply qx0)<;>(first|exact rfl|exact Ar.mk (by omega)|assumption|exact dct (by assumption)|exact dcf (by assumption)|exact dct (by omega)|exact dcf (by omega)|exact List.not_mem_nil|exact dc_length _|exact nc_length _|exact rc_length _ _ _|exact ec_length _|exact nm1 (by omega)|exact nm2 (by omega) (by omega)|exact dct rfl|exact dct (by decide)|exact dcf (by decide)|exact (Int.toNat_of_nonneg (by omega)).symm|exact dcu|exact lk1 (by assumption)|exact lk0 (by assumption)|exact lkb|fail))|fail) ?_)
    refine SG.call rfl rfl rfl (by repeat' (first | exact True.intro | exact rho_of rfl | refine And.intro ?_ ?_)) ((step_at h1 (by omega) (by omega) rel.inn).mono (fun e w2 hh => ?_))
    obtain ⟨v2, l2, he2, ho2, hl2, hb2, h2, hk2⟩ := hh
    refine ⟨_, he2, ?_⟩
    have hB2 := hk2.cells _ _ _ _ (by decide) (by decide) hB1
    have hR2 := hR1.kt hk2
    obtain ⟨_, _, _, _, q4⟩ := rows47 hB2
    have hl2' : l2.length ≤ 2000 := by
      have := congrArg List.length hl2
      rw [List.length_map, List.length_map] at this
      rw [this]
      refine Nat.le_trans (List.length_filter_le _ _) (Nat.le_trans (List.length_filter_le _ _) ?_)
      omega
    repeat (first|apply CG.seq|apply CG.region|apply SG.nil|apply NG.next|apply CG.skip|apply CG.block|apply CG.ret|apply CG.exit|apply CG.scope|apply NG.ret_then|apply NG.ret_block|apply NG.ret_scope|apply NG.exit_then|refine NG.exit_block rfl ?_|refine NG.exit_other rfl ?_|apply NG.exit_scope|apply NG.normal_block|apply NG.normal_scope|refine SG.val rfl rfl rfl rfl (by first|((first|apply qmv|apply qas|apply qlc|apply qla|apply qfa|apply qnc|apply qic|apply qix|apply qpk|apply qls|apply qei|apply qni|apply qed|apply qnd|apply qad|apply qln|apply qle|apply qgt|apply qge|apply qlk|apply qlv|apply qxt|apply qsb|apply qnt|apply qep|apply qnp|apply qeb|apply qnb|apply qx2|apply qx4|apply qcv|apply qlm|apply qfr|apply qto|apply qmx|apply qen|apply qsn|apply qx8|apply qx7|apply qx6|apply qx5|apply qx4|apply qx3|apply qx2|apply qx1|apply qx0)<;>(first|exact rfl|exact Ar.mk (by omega)|assumption|exact dct (by assumption)|exact dcf (by assumption)|exact dct (by omega)|exact dcf (by omega)|exact List.not_mem_nil|exact dc_length _|exact nc_length _|exact rc_length _ _ _|exact ec_length _|exact nm1 (by omega)|exact nm2 (by omega) (by omega)|exact dct rfl|exact dct (by decide)|exact dcf (by decide)|exact (Int.toNat_of_nonneg (by omega)).symm|exact dcu|exact lk1 (by assumption)|exact lk0 (by assumption)|exact lkb|fail))|fail) ?_)
    refine SG.call rfl rfl rfl (by repeat' (first | exact True.intro | exact rho_of rfl | refine And.intro ?_ ?_)) ((rstep hR2 ok).mono (fun e w3 hh => ?_))
    obtain ⟨v3, o3, he3, hR3, ho3, hk3⟩ := hh
    refine ⟨_, he3, ?_⟩
    have hB3 := hB2.kp0 hk3
    repeat (first|apply CG.seq|apply CG.region|apply SG.nil|apply NG.next|apply CG.skip|apply CG.block|apply CG.ret|apply CG.exit|apply CG.scope|apply NG.ret_then|apply NG.ret_block|apply NG.ret_scope|apply NG.exit_then|refine NG.exit_block rfl ?_|refine NG.exit_other rfl ?_|apply NG.exit_scope|apply NG.normal_block|apply NG.normal_scope|refine SG.val rfl rfl rfl rfl (by first|((first|apply qmv|apply qas|apply qlc|apply qla|apply qfa|apply qnc|apply qic|apply qix|apply qpk|apply qls|apply qei|apply qni|apply qed|apply qnd|apply qad|apply qln|apply qle|apply qgt|apply qge|apply qlk|apply qlv|apply qxt|apply qsb|apply qnt|apply qep|apply qnp|apply qeb|apply qnb|apply qx2|apply qx4|apply qcv|apply qlm|apply qfr|apply qto|apply qmx|apply qen|apply qsn|apply qx8|apply qx7|apply qx6|apply qx5|apply qx4|apply qx3|apply qx2|apply qx1|apply qx0)<;>(first|exact rfl|exact Ar.mk (by omega)|assumption|exact dct (by assumption)|exact dcf (by assumption)|exact dct (by omega)|exact dcf (by omega)|exact List.not_mem_nil|exact dc_length _|exact nc_length _|exact rc_length _ _ _|exact ec_length _|exact nm1 (by omega)|exact nm2 (by omega) (by omega)|exact dct rfl|exact dct (by decide)|exact dcf (by decide)|exact (Int.toNat_of_nonneg (by omega)).symm|exact dcu|exact lk1 (by assumption)|exact lk0 (by assumption)|exact lkb|fail))|fail) ?_)
    refine SG.alloc rfl rfl rfl (fun b11 w4 hk4 hb11 hB4 => ?_)
    refine SG.setAll (old := rcl (Rn.new 0) nilS nilS) (l := rcl r.step v3 u) rfl rfl (by exact rho_of rfl) (by exact rho_of rfl) hB4 rfl rfl hR3.one (fun w5 hk5 hB5' => ?_)
    have hk35 : Kp [] w3 w5 := hk4.trans_new hk5 (new1 hb11)
    have hB5w := hB3.kp0 hk35
    have hR5 := hR3.kp0 hk35
    obtain ⟨_, _, _, _, q5⟩ := rows47 hB5'
    repeat (first|apply CG.seq|apply CG.region|apply SG.nil|apply NG.next|apply CG.skip|apply CG.block|apply CG.ret|apply CG.exit|apply CG.scope|apply NG.ret_then|apply NG.ret_block|apply NG.ret_scope|apply NG.exit_then|refine NG.exit_block rfl ?_|refine NG.exit_other rfl ?_|apply NG.exit_scope|apply NG.normal_block|apply NG.normal_scope|refine SG.val rfl rfl rfl rfl (by first|((first|apply qmv|apply qas|apply qlc|apply qla|apply qfa|apply qnc|apply qic|apply qix|apply qpk|apply qls|apply qei|apply qni|apply qed|apply qnd|apply qad|apply qln|apply qle|apply qgt|apply qge|apply qlk|apply qlv|apply qxt|apply qsb|apply qnt|apply qep|apply qnp|apply qeb|apply qnb|apply qx2|apply qx4|apply qcv|apply qlm|apply qfr|apply qto|apply qmx|apply qen|apply qsn|apply qx8|apply qx7|apply qx6|apply qx5|apply qx4|apply qx3|apply qx2|apply qx1|apply qx0)<;>(first|exact rfl|exact Ar.mk (by omega)|assumption|exact dct (by assumption)|exact dcf (by assumption)|exact dct (by omega)|exact dcf (by omega)|exact List.not_mem_nil|exact dc_length _|exact nc_length _|exact rc_length _ _ _|exact ec_length _|exact nm1 (by omega)|exact nm2 (by omega) (by omega)|exact dct rfl|exact dct (by decide)|exact dcf (by decide)|exact (Int.toNat_of_nonneg (by omega)).symm|exact dcu|exact lk1 (by assumption)|exact lk0 (by assumption)|exact lkb|fail))|fail) ?_)
    refine SG.setAll (old := rcl r v u) (l := rcl r.step v3 u) rfl rfl (by exact rho_of rfl) (by exact rho_of rfl) hB5w rfl rfl hR5.one (fun w6 hk6 hB6 => ?_)
    have ho2 := own_kp (own_kp0 (own_kp0 ho2 hk3) hk35) hk6 (fun z hz hm => by
      rw [List.mem_singleton] at hm
      subst hm
      obtain ⟨cs, hc⟩ := own_blk (own_kp0 (own_kp0 ho2 hk3) hk35) hz
      exact ne_ty (by decide) hB5w hc rfl)
    have ho3 := own_kp (own_kp0 ho3 hk35) hk6 (fun z hz hm => by
      rw [List.mem_singleton] at hm
      subst hm
      obtain ⟨cs, hc⟩ := own_blk (own_kp0 ho3 hk35) hz
      exact ne_ty (by decide) hB5w hc rfl)
    have hby : ∀ x ∈ l2, Sl byc 1 w6 x.a x.bs := fun x hx => by
      have hb := ((hb2 x hx).1.kp hk3 (fun _ _ _ => List.not_mem_nil)).kp hk35 (fun _ _ _ => List.not_mem_nil)
      exact ByAt.sl (fun i u hu => by
        obtain ⟨z, off, cs, g1, g2, g3⟩ := hb i u hu
        exact ⟨z, off, cs, g1, g2.kp hk6 (nm1 (ne_ty (by decide) hB5w g2)), g3⟩)
    obtain ⟨p2, c2, rfl, hS2⟩ := SlF.own lcl_length ho2 rfl
    obtain ⟨p3, c3, rfl, hS3⟩ := SlF.own cpl_length ho3 rfl
    repeat (first|apply CG.seq|apply CG.region|apply SG.nil|apply NG.next|apply CG.skip|apply CG.block|apply CG.ret|apply CG.exit|apply CG.scope|apply NG.ret_then|apply NG.ret_block|apply NG.ret_scope|apply NG.exit_then|refine NG.exit_block rfl ?_|refine NG.exit_other rfl ?_|apply NG.exit_scope|apply NG.normal_block|apply NG.normal_scope|refine SG.val rfl rfl rfl rfl (by first|((first|apply qmv|apply qas|apply qlc|apply qla|apply qfa|apply qnc|apply qic|apply qix|apply qpk|apply qls|apply qei|apply qni|apply qed|apply qnd|apply qad|apply qln|apply qle|apply qgt|apply qge|apply qlk|apply qlv|apply qxt|apply qsb|apply qnt|apply qep|apply qnp|apply qeb|apply qnb|apply qx2|apply qx4|apply qcv|apply qlm|apply qfr|apply qto|apply qmx|apply qen|apply qsn|apply qx8|apply qx7|apply qx6|apply qx5|apply qx4|apply qx3|apply qx2|apply qx1|apply qx0)<;>(first|exact rfl|exact Ar.mk (by omega)|assumption|exact dct (by assumption)|exact dcf (by assumption)|exact dct (by omega)|exact dcf (by omega)|exact List.not_mem_nil|exact dc_length _|exact nc_length _|exact rc_length _ _ _|exact ec_length _|exact nm1 (by omega)|exact nm2 (by omega) (by omega)|exact dct rfl|exact dct (by decide)|exact dcf (by decide)|exact (Int.toNat_of_nonneg (by omega)).symm|exact dcu|exact lk1 (by assumption)|exact lk0 (by assumption)|exact lkb|fail))|fail) ?_)
    refine SG.ret rfl rfl rfl (by repeat' (first | exact True.intro | exact rho_of rfl | refine And.intro ?_ ?_)) (alike_spec c2 c3 hS2.sl hS3.sl hby (by rw [hl2, rel.out]) (by omega)) (fun w7 hk7 => ?_)
    repeat (first|apply CG.seq|apply CG.region|apply SG.nil|apply NG.next|apply CG.skip|apply CG.block|apply CG.ret|apply CG.exit|apply CG.scope|apply NG.ret_then|apply NG.ret_block|apply NG.ret_scope|apply NG.exit_then|refine NG.exit_block rfl ?_|refine NG.exit_other rfl ?_|apply NG.exit_scope|apply NG.normal_block|apply NG.normal_scope|refine SG.val rfl rfl rfl rfl (by first|((first|apply qmv|apply qas|apply qlc|apply qla|apply qfa|apply qnc|apply qic|apply qix|apply qpk|apply qls|apply qei|apply qni|apply qed|apply qnd|apply qad|apply qln|apply qle|apply qgt|apply qge|apply qlk|apply qlv|apply qxt|apply qsb|apply qnt|apply qep|apply qnp|apply qeb|apply qnb|apply qx2|apply qx4|apply qcv|apply qlm|apply qfr|apply qto|apply qmx|apply qen|apply qsn|apply qx8|apply qx7|apply qx6|apply qx5|apply qx4|apply qx3|apply qx2|apply qx1|apply qx0)<;>(first|exact rfl|exact Ar.mk (by omega)|assumption|exact dct (by assumption)|exact dcf (by assumption)|exact dct (by omega)|exact dcf (by omega)|exact List.not_mem_nil|exact dc_length _|exact nc_length _|exact rc_length _ _ _|exact ec_length _|exact nm1 (by omega)|exact nm2 (by omega) (by omega)|exact dct rfl|exact dct (by decide)|exact dcf (by decide)|exact (Int.toNat_of_nonneg (by omega)).symm|exact dcu|exact lk1 (by assumption)|exact lk0 (by assumption)|exact lkb|fail))|fail) ?_)
    refine ret1 (Or.inl rfl) Try.results23 (by first | exact ResV.tmp rfl | exact ResV.agg rfl rfl (by assumption) (by first | exact dc_length _ | exact nc_length _ | exact rc_length _ _ _ | exact ec_length _ | rfl) | exact ResV.cell rfl rfl (by assumption)) ?_
    exact ⟨_, _, _, rfl, (((h2.kp0 hk3).kp0 hk35).kpb hB5w (by omega) (by decide) (by decide) (by decide) hk6).kp0 hk7, hB6.kp0 hk7, (hR5.kpb hB5w hk6).kp0 hk7, rel.step⟩
  · have eD : s.doD d = s.cutD d.A d.B (decide ((d.what.toNat : Int) % 4 = 2)) := by unfold Ns.doD; rw [if_neg k0, if_neg k1]
    rw [eD]
    repeat (first|apply CG.seq|apply CG.region|apply SG.nil|apply NG.next|apply CG.skip|apply CG.block|apply CG.ret|apply CG.exit|apply CG.scope|apply NG.ret_then|apply NG.ret_block|apply NG.ret_scope|apply NG.exit_then|refine NG.exit_block rfl ?_|refine NG.exit_other rfl ?_|apply NG.exit_scope|apply NG.normal_block|apply NG.normal_scope|refine SG.val rfl rfl rfl rfl (by first|((first|apply qmv|apply qas|apply qlc|apply qla|apply qfa|apply qnc|apply qic|apply qix|apply qpk|apply qls|apply qei|apply qni|apply qed|apply qnd|apply qad|apply qln|apply qle|apply qgt|apply qge|apply qlk|apply qlv|apply qxt|apply qsb|apply qnt|apply qep|apply qnp|apply qeb|apply qnb|apply qx2|apply qx4|apply qcv|apply qlm|apply qfr|apply qto|apply qmx|apply qen|apply qsn|apply qx8|apply qx7|apply qx6|apply qx5|apply qx4|apply qx3|apply qx2|apply qx1|apply qx0)<;>(first|exact rfl|exact Ar.mk (by omega)|assumption|exact dct (by assumption)|exact dcf (by assumption)|exact dct (by omega)|exact dcf (by omega)|exact List.not_mem_nil|exact dc_length _|exact nc_length _|exact rc_length _ _ _|exact ec_length _|exact nm1 (by omega)|exact nm2 (by omega) (by omega)|exact dct rfl|exact dct (by decide)|exact dcf (by decide)|exact (Int.toNat_of_nonneg (by omega)).symm|exact dcu|exact lk1 (by assumption)|exact lk0 (by assumption)|exact lkb|fail))|fail) ?_)
    refine CG.cond_f rfl (by exact rho_of rfl) rfl ?_
    repeat (first|apply CG.seq|apply CG.region|apply SG.nil|apply NG.next|apply CG.skip|apply CG.block|apply CG.ret|apply CG.exit|apply CG.scope|apply NG.ret_then|apply NG.ret_block|apply NG.ret_scope|apply NG.exit_then|refine NG.exit_block rfl ?_|refine NG.exit_other rfl ?_|apply NG.exit_scope|apply NG.normal_block|apply NG.normal_scope|refine SG.val rfl rfl rfl rfl (by first|((first|apply qmv|apply qas|apply qlc|apply qla|apply qfa|apply qnc|apply qic|apply qix|apply qpk|apply qls|apply qei|apply qni|apply qed|apply qnd|apply qad|apply qln|apply qle|apply qgt|apply qge|apply qlk|apply qlv|apply qxt|apply qsb|apply qnt|apply qep|apply qnp|apply qeb|apply qnb|apply qx2|apply qx4|apply qcv|apply qlm|apply qfr|apply qto|apply qmx|apply qen|apply qsn|apply qx8|apply qx7|apply qx6|apply qx5|apply qx4|apply qx3|apply qx2|apply qx1|apply qx0)<;>(first|exact rfl|exact Ar.mk (by omega)|assumption|exact dct (by assumption)|exact dcf (by assumption)|exact dct (by omega)|exact dcf (by omega)|exact List.not_mem_nil|exact dc_length _|exact nc_length _|exact rc_length _ _ _|exact ec_length _|exact nm1 (by omega)|exact nm2 (by omega) (by omega)|exact dct rfl|exact dct (by decide)|exact dcf (by decide)|exact (Int.toNat_of_nonneg (by omega)).symm|exact dcu|exact lk1 (by assumption)|exact lk0 (by assumption)|exact lkb|fail))|fail) ?_)
    refine CG.cond_f rfl (by exact rho_of rfl) rfl ?_
    repeat (first|apply CG.seq|apply CG.region|apply SG.nil|apply NG.next|apply CG.skip|apply CG.block|apply CG.ret|apply CG.exit|apply CG.scope|apply NG.ret_then|apply NG.ret_block|apply NG.ret_scope|apply NG.exit_then|refine NG.exit_block rfl ?_|refine NG.exit_other rfl ?_|apply NG.exit_scope|apply NG.normal_block|apply NG.normal_scope|refine SG.val rfl rfl rfl rfl (by first|((first|apply qmv|apply qas|apply qlc|apply qla|apply qfa|apply qnc|apply qic|apply qix|apply qpk|apply qls|apply qei|apply qni|apply qed|apply qnd|apply qad|apply qln|apply qle|apply qgt|apply qge|apply qlk|apply qlv|apply qxt|apply qsb|apply qnt|apply qep|apply qnp|apply qeb|apply qnb|apply qx2|apply qx4|apply qcv|apply qlm|apply qfr|apply qto|apply qmx|apply qen|apply qsn|apply qx8|apply qx7|apply qx6|apply qx5|apply qx4|apply qx3|apply qx2|apply qx1|apply qx0)<;>(first|exact rfl|exact Ar.mk (by omega)|assumption|exact dct (by assumption)|exact dcf (by assumption)|exact dct (by omega)|exact dcf (by omega)|exact List.not_mem_nil|exact dc_length _|exact nc_length _|exact rc_length _ _ _|exact ec_length _|exact nm1 (by omega)|exact nm2 (by omega) (by omega)|exact dct rfl|exact dct (by decide)|exact dcf (by decide)|exact (Int.toNat_of_nonneg (by omega)).symm|exact dcu|exact lk1 (by assumption)|exact lk0 (by assumption)|exact lkb|fail))|fail) ?_)
    refine SG.call rfl rfl rfl (by repeat' (first | exact True.intro | exact rho_of rfl | refine And.intro ?_ ?_)) ((cut1 h1 d.A d.B (decide ((d.what.toNat : Int) % 4 = 2)) rel.p16).mono (fun e w3 hh => ?_))
    obtain ⟨he3, h3, hk3⟩ := hh
    refine ⟨_, he3, ?_⟩
    have hB3 := hk3.cells _ _ _ _ (by decide) (by decide) hB1
    have hB53 := hk3.cells _ _ _ _ (by decide) (by decide) hB5
    have hR3 := hR1.kt hk3
    obtain ⟨r0, r1, r2, r3, r4⟩ := dd_rows hB53
    obtain ⟨_, _, _, _, q4⟩ := rows47 hB3
    repeat (first|apply CG.seq|apply CG.region|apply SG.nil|apply NG.next|apply CG.skip|apply CG.block|apply CG.ret|apply CG.exit|apply CG.scope|apply NG.ret_then|apply NG.ret_block|apply NG.ret_scope|apply NG.exit_then|refine NG.exit_block rfl ?_|refine NG.exit_other rfl ?_|apply NG.exit_scope|apply NG.normal_block|apply NG.normal_scope|refine SG.val rfl rfl rfl rfl (by first|((first|apply qmv|apply qas|apply qlc|apply qla|apply qfa|apply qnc|apply qic|apply qix|apply qpk|apply qls|apply qei|apply qni|apply qed|apply qnd|apply qad|apply qln|apply qle|apply qgt|apply qge|apply qlk|apply qlv|apply qxt|apply qsb|apply qnt|apply qep|apply qnp|apply qeb|apply qnb|apply qx2|apply qx4|apply qcv|apply qlm|apply qfr|apply qto|apply qmx|apply qen|apply qsn|apply qx8|apply qx7|apply qx6|apply qx5|apply qx4|apply qx3|apply qx2|apply qx1|apply qx0)<;>(first|exact rfl|exact Ar.mk (by omega)|assumption|exact dct (by assumption)|exact dcf (by assumption)|exact dct (by omega)|exact dcf (by omega)|exact List.not_mem_nil|exact dc_length _|exact nc_length _|exact rc_length _ _ _|exact ec_length _|exact nm1 (by omega)|exact nm2 (by omega) (by omega)|exact dct rfl|exact dct (by decide)|exact dcf (by decide)|exact (Int.toNat_of_nonneg (by omega)).symm|exact dcu|exact lk1 (by assumption)|exact lk0 (by assumption)|exact lkb|fail))|fail) ?_)
    refine CG.free mixed 17 [0, 1, 2, 3, 4, 5, 6, 7, 8, 9, 10, 11, 12, 13, 14, 15, 16] [(11, gR' (r.cutD d.A d.B (decide ((d.what.toNat : Int) % 4 = 2))) (r.cutE d.A d.B) v), (15, gV w3.heap.size 47 4), (16, gP w3.heap.size 47)] (by kernel_rfl) (by intro p hp y; simp at hp; rcases hp with rfl | rfl | rfl; exact gR'_stab y; exact gV_stab y; exact gP_stab y) ?_
    repeat (refine DerX.val rfl rfl rfl rfl (by first|((first|apply qmv|apply qas|apply qlc|apply qla|apply qfa|apply qnc|apply qic|apply qix|apply qpk|apply qls|apply qei|apply qni|apply qed|apply qnd|apply qad|apply qln|apply qle|apply qgt|apply qge|apply qlk|apply qlv|apply qxt|apply qsb|apply qnt|apply qep|apply qnp|apply qeb|apply qnb|apply qx2|apply qx4|apply qcv|apply qlm|apply qfr|apply qto|apply qmx|apply qen|apply qsn|apply qx8|apply qx7|apply qx6|apply qx5|apply qx4|apply qx3|apply qx2|apply qx1|apply qx0)<;>(first|exact rfl|exact Ar.mk (by omega)|assumption|exact dct (by assumption)|exact dcf (by assumption)|exact dct (by omega)|exact dcf (by omega)|exact List.not_mem_nil|exact dc_length _|exact nc_length _|exact rc_length _ _ _|exact ec_length _|exact nm1 (by omega)|exact nm2 (by omega) (by omega)|exact dct rfl|exact dct (by decide)|exact dcf (by decide)|exact (Int.toNat_of_nonneg (by omega)).symm|exact dcu|exact lk1 (by assumption)|exact lk0 (by assumption)|exact lkb|fail))|fail) ?_)
    refine DerX.callE (gR' (r.cutD d.A d.B (decide ((d.what.toNat : Int) % 4 = 2))) (r.cutE d.A d.B) v) rfl rfl rfl rfl (by repeat' (first | exact True.intro | exact rho_of rfl | refine And.intro ?_ ?_)) (fun w hk _ => (rcutD (hR3.kp0 hk) ok d.A d.B (decide ((d.what.toNat : Int) % 4 = 2))).mono (fun e w' ⟨u', g1, g2, g3⟩ => ⟨u', g1, g2, g3⟩)) (fun u' => ?_)
    repeat (refine DerX.val rfl rfl rfl rfl (by first|((first|apply qmv|apply qas|apply qlc|apply qla|apply qfa|apply qnc|apply qic|apply qix|apply qpk|apply qls|apply qei|apply qni|apply qed|apply qnd|apply qad|apply qln|apply qle|apply qgt|apply qge|apply qlk|apply qlv|apply qxt|apply qsb|apply qnt|apply qep|apply qnp|apply qeb|apply qnb|apply qx2|apply qx4|apply qcv|apply qlm|apply qfr|apply qto|apply qmx|apply qen|apply qsn|apply qx8|apply qx7|apply qx6|apply qx5|apply qx4|apply qx3|apply qx2|apply qx1|apply qx0)<;>(first|exact rfl|exact Ar.mk (by omega)|assumption|exact dct (by assumption)|exact dcf (by assumption)|exact dct (by omega)|exact dcf (by omega)|exact List.not_mem_nil|exact dc_length _|exact nc_length _|exact rc_length _ _ _|exact ec_length _|exact nm1 (by omega)|exact nm2 (by omega) (by omega)|exact dct rfl|exact dct (by decide)|exact dcf (by decide)|exact (Int.toNat_of_nonneg (by omega)).symm|exact dcu|exact lk1 (by assumption)|exact lk0 (by assumption)|exact lkb|fail))|fail) ?_)
    refine DerX.allocV rfl rfl rfl rfl rfl (Nat.le_refl _) (fun b15 => ?_)
    refine DerX.storeV (l := rcl (r.cutD d.A d.B (decide ((d.what.toNat : Int) % 4 = 2))) v u') rfl rfl rfl rfl (by kernel_rfl) (by exact rho_of rfl) (by exact rho_of rfl) rfl (Nat.le_refl _) (fun w hk hF => ⟨hF _ (.head _) (by kernel_rfl), RnAt.one (w := w) (hF _ (.tail _ (.head _)) (by kernel_rfl))⟩) ?_ ?_
    · intro p hp hne y w w' cs g1 g2 g3 g4 g5
      simp only [List.mem_cons, List.not_mem_nil, or_false] at hp
      rcases hp with rfl | rfl | rfl
      · exact RnAt.kpb g5 g1 g3
      · exact gV_keep rfl g3 g4 g5
      · exact absurd rfl hne
    refine DerX.tl (fun w4 hk4 hF => ?_)
    have hB16 : w3.heap.size ≤ b15 ∧ Blk w4 b15 (.cells (rcl (r.cutD d.A d.B (decide ((d.what.toNat : Int) % 4 = 2))) v u').toArray 47) := hF _ (.head _)
    have hR4 : RnAt w4 (r.cutD d.A d.B (decide ((d.what.toNat : Int) % 4 = 2))) v u' := hF _ (.tail _ (.tail _ (.head _)))
    clear hF
    obtain ⟨_, _, _, _, q4⟩ := rows47 hB16.2
    have hB4 := hB3.kp0 hk4
    repeat (first|apply CG.seq|apply CG.region|apply SG.nil|apply NG.next|apply CG.skip|apply CG.block|apply CG.ret|apply CG.exit|apply CG.scope|apply NG.ret_then|apply NG.ret_block|apply NG.ret_scope|apply NG.exit_then|refine NG.exit_block rfl ?_|refine NG.exit_other rfl ?_|apply NG.exit_scope|apply NG.normal_block|apply NG.normal_scope|refine SG.val rfl rfl rfl rfl (by first|((first|apply qmv|apply qas|apply qlc|apply qla|apply qfa|apply qnc|apply qic|apply qix|apply qpk|apply qls|apply qei|apply qni|apply qed|apply qnd|apply qad|apply qln|apply qle|apply qgt|apply qge|apply qlk|apply qlv|apply qxt|apply qsb|apply qnt|apply qep|apply qnp|apply qeb|apply qnb|apply qx2|apply qx4|apply qcv|apply qlm|apply qfr|apply qto|apply qmx|apply qen|apply qsn|apply qx8|apply qx7|apply qx6|apply qx5|apply qx4|apply qx3|apply qx2|apply qx1|apply qx0)<;>(first|exact rfl|exact Ar.mk (by omega)|assumption|exact dct (by assumption)|exact dcf (by assumption)|exact dct (by omega)|exact dcf (by omega)|exact List.not_mem_nil|exact dc_length _|exact nc_length _|exact rc_length _ _ _|exact ec_length _|exact nm1 (by omega)|exact nm2 (by omega) (by omega)|exact dct rfl|exact dct (by decide)|exact dcf (by decide)|exact (Int.toNat_of_nonneg (by omega)).symm|exact dcu|exact lk1 (by assumption)|exact lk0 (by assumption)|exact lkb|fail))|fail) ?_)
    refine SG.setAll (old := rcl r v u) (l := rcl (r.cutD d.A d.B (decide ((d.what.toNat : Int) % 4 = 2))) v u') rfl rfl (by exact rho_of rfl) (by exact rho_of rfl) hB4 rfl rfl hR4.one (fun w5 hk5 hB5' => ?_)
    have eE : r.cutE d.A d.B = s.cutE d.A d.B := rel.cutE _ _
    rw [eE]
    repeat (first|apply CG.seq|apply CG.region|apply SG.nil|apply NG.next|apply CG.skip|apply CG.block|apply CG.ret|apply CG.exit|apply CG.scope|apply NG.ret_then|apply NG.ret_block|apply NG.ret_scope|apply NG.exit_then|refine NG.exit_block rfl ?_|refine NG.exit_other rfl ?_|apply NG.exit_scope|apply NG.normal_block|apply NG.normal_scope|refine SG.val rfl rfl rfl rfl (by first|((first|apply qmv|apply qas|apply qlc|apply qla|apply qfa|apply qnc|apply qic|apply qix|apply qpk|apply qls|apply qei|apply qni|apply qed|apply qnd|apply qad|apply qln|apply qle|apply qgt|apply qge|apply qlk|apply qlv|apply qxt|apply qsb|apply qnt|apply qep|apply qnp|apply qeb|apply qnb|apply qx2|apply qx4|apply qcv|apply qlm|apply qfr|apply qto|apply qmx|apply qen|apply qsn|apply qx8|apply qx7|apply qx6|apply qx5|apply qx4|apply qx3|apply qx2|apply qx1|apply qx0)<;>(first|exact rfl|exact Ar.mk (by omega)|assumption|exact dct (by assumption)|exact dcf (by assumption)|exact dct (by omega)|exact dcf (by omega)|exact List.not_mem_nil|exact dc_length _|exact nc_length _|exact rc_length _ _ _|exact ec_length _|exact nm1 (by omega)|exact nm2 (by omega) (by omega)|exact dct rfl|exact dct (by decide)|exact dcf (by decide)|exact (Int.toNat_of_nonneg (by omega)).symm|exact dcu|exact lk1 (by assumption)|exact lk0 (by assumption)|exact lkb|fail))|fail) ?_)
    refine ret1 (Or.inl rfl) Try.results23 (by first | exact ResV.tmp rfl | exact ResV.agg rfl rfl (by assumption) (by first | exact dc_length _ | exact nc_length _ | exact rc_length _ _ _ | exact ec_length _ | rfl) | exact ResV.cell rfl rfl (by assumption)) ?_
    exact ⟨_, _, _, rfl, (h3.kp0 hk4).kpb hB4 (by omega) (by decide) (by decide) (by decide) hk5, hB5', hR4.kpb hB4 hk5, rel.cutD⟩
end Go.Proofs.Ytfelaicoedlejaa
/-
  The numbers of the copies on their way rise.
-/
namespace Go.Proofs.Ytfelaicoedlejaa
set_option linter.unusedVariables false

structure NumOk (s : Ns) : Prop where
  len : s.nums.length = s.pend.length
  up : s.nums.Pairwise (· < ·)
  lt : ∀ x ∈ s.nums, x < s.sent
theorem numOk_new (n : Nat) : NumOk (Ns.new n) := ⟨rfl, List.Pairwise.nil, fun x hx => by cases hx⟩
theorem range_up (c n : Nat) : ((List.range n).map (fun j => c + j)).Pairwise (· < ·) := by
  rw [List.pairwise_map]
  exact List.pairwise_lt_range.imp (fun h => by omega)
theorem NumOk.sendAll {s : Ns} (h : NumOk s) (fr to : Nat) (bs : List UInt8) (later : List Int) : NumOk (s.sendAll fr to bs later) := by
  refine ⟨by simp [Ns.sendAll, h.len], ?_, fun x hx => ?_⟩
  · show (s.nums ++ (List.range later.length).map (fun j => s.sent + j)).Pairwise (· < ·)
    rw [List.pairwise_append]
    refine ⟨h.up, range_up _ _, fun a ha b hb => ?_⟩
    have := h.lt a ha
    obtain ⟨j, _, rfl⟩ := List.mem_map.1 hb
    omega
  · have hx : x ∈ s.nums ++ (List.range later.length).map (fun j => s.sent + j) := hx
    show x < s.sent + later.length
    rcases List.mem_append.1 hx with hx | hx
    · have := h.lt x hx
      omega
    · obtain ⟨j, hj, rfl⟩ := List.mem_map.1 hx
      have := List.mem_range.1 hj
      omega
theorem NumOk.step {s : Ns} (h : NumOk s) : NumOk s.step := by
  have hsub : s.step.nums.Sublist s.nums := by
    have hz : (s.pend.zip s.nums).map (fun c => c.2) = s.nums := List.map_snd_zip (by rw [h.len]; exact Nat.le_refl _)
    have h1 : (((s.pend.zip s.nums).filter (fun c => !decide ((c.1.due : Int) = s.now))).map (fun c => c.2)).Sublist ((s.pend.zip s.nums).map (fun c => c.2)) := List.filter_sublist.map _
    rw [hz] at h1
    exact h1
  exact ⟨by rw [step_pend h.len]; simp [Ns.step], h.up.sublist hsub, fun x hx => h.lt x (hsub.subset hx)⟩
theorem NumOk.setCut {s : Ns} (h : NumOk s) (f t : Nat) (b : Bool) : NumOk (s.setCut f t b) := ⟨h.len, h.up, h.lt⟩
theorem NumOk.doD {s : Ns} (h : NumOk s) (d : Dd) : NumOk (s.doD d) := by
  unfold Ns.doD
  split
  · unfold Ns.sendD
    split
    · exact h.sendAll _ _ _ _
    · exact h
  · split
    · exact h.step
    · unfold Ns.cutD
      split
      · exact h.setCut _ _ _
      · exact h
end Go.Proofs.Ytfelaicoedlejaa
/-
  A region that draws, in phases: some operations free, one that stands between, others free.
-/
namespace Go.Proofs.Ytfelaicoedlejaa
set_option linter.unusedVariables false

def chkY (n : Nat) (ops : List Oper) (ord gi : List Nat) (k0 k : Nat) : Bool :=
  ops.all (fun o => !isSelect o.op) && ops.all (fun o => o.dst.all (fun d => Nat.blt d n)) && nodupB (ops.filterMap (·.dst)) &&
  (List.range k).all (fun i => Nat.blt i k0 || ord.elem i) && nodupB ord && ordX ops gi [] ord && ord.all (fun i => Nat.blt i k && Nat.ble k0 i) && Nat.ble k ops.length &&
  ((List.range ops.length).all fun i => ((ops[i]?).map fun o => (edges o).all (fun e => Nat.blt e i)).getD false) &&
  ((List.range ops.length).all fun i => Nat.blt i k || (List.range k).all (fun j => Nat.blt j k0 || anc ops i j)) && gi.all (fun i => ord.elem i)

section
variable {P : Program} {n : Nat} {ops : List Oper} {Q : Exit → Act → World → Prop} {w0 : World} {L0 : Env} {G : List (Nat × GD)} {ord gi : List Nat} {k0 k : Nat}

structure ChkY (n : Nat) (ops : List Oper) (ord gi : List Nat) (k0 k : Nat) : Prop where
  sel : ∀ o ∈ ops, isSelect o.op = false
  dlt : ∀ o ∈ ops, ∀ d, o.dst = some d → d < n
  one : ∀ (i j : Nat) (oi oj : Oper) (t : Nat), ops[i]? = some oi → ops[j]? = some oj → oi.dst = some t → oj.dst = some t → i = j
  cover : ∀ i, k0 ≤ i → i < k → i ∈ ord
  nodup : ord.Nodup
  ok : ordX ops gi [] ord = true
  lt : ∀ i ∈ ord, i < k
  ge : ∀ i ∈ ord, k0 ≤ i
  le : k ≤ ops.length
  ed : ∀ (i : Nat) (o : Oper), ops[i]? = some o → ∀ e ∈ edges o, e < i
  tl : ∀ i, i < ops.length → k ≤ i → ∀ j, k0 ≤ j → j < k → anc ops i j = true
  gi : ∀ i ∈ gi, i ∈ ord
theorem ChkY.of (h : chkY n ops ord gi k0 k = true) : ChkY n ops ord gi k0 k := by
  simp only [chkY, Bool.and_eq_true] at h
  obtain ⟨⟨⟨⟨⟨⟨⟨⟨⟨⟨h1, h2⟩, h3⟩, h4⟩, h5⟩, h6⟩, h7⟩, h8⟩, h9⟩, h10⟩, h11⟩ := h
  refine ⟨fun o ho => ?_, fun o ho d hd => ?_, nodup_filterMap_inj ops (nodup_of_B _ h3), fun i hi0 hi => ?_, nodup_of_B _ h5, h6, fun i hi => ?_, fun i hi => ?_, by simpa [Nat.ble_eq] using h8, fun i o ho e he => ?_, fun i hi hk j hj0 hj => ?_, fun i hi => ?_⟩
  · simpa using List.all_eq_true.1 h1 o ho
  · have := List.all_eq_true.1 h2 o ho
    rw [hd] at this
    simpa [Nat.blt_eq] using this
  · have := List.all_eq_true.1 h4 i (by simpa using hi)
    simp only [Bool.or_eq_true, Nat.blt_eq, List.elem_eq_mem, decide_eq_true_eq] at this
    rcases this with h | h
    · omega
    · exact h
  · have := List.all_eq_true.1 h7 i hi
    simp only [Bool.and_eq_true, Nat.blt_eq] at this
    exact this.1
  · have := List.all_eq_true.1 h7 i hi
    simp only [Bool.and_eq_true, Nat.ble_eq] at this
    exact this.2
  · have := List.all_eq_true.1 h9 i (by simpa using (List.getElem?_eq_some_iff.1 ho).1)
    rw [ho] at this
    simp only [Option.map_some, Option.getD_some] at this
    simpa [Nat.blt_eq] using List.all_eq_true.1 this e he
  · have := List.all_eq_true.1 h10 i (by simpa using hi)
    simp only [Bool.or_eq_true, Nat.blt_eq] at this
    rcases this with h | h
    · omega
    · have := List.all_eq_true.1 h j (by simpa using hj)
      simp only [Bool.or_eq_true, Nat.blt_eq] at this
      rcases this with h | h
      · omega
      · exact h
  · have := List.all_eq_true.1 h11 i hi
    rw [List.elem_eq_mem] at this
    exact of_decide_eq_true this

/-- What is so on the way. -/
structure StY (P : Program) (n : Nat) (ops : List Oper) (k0 : Nat) (w0 : World) (L0 : Env) (G : List (Nat × GD)) (K : Env → List Fact → Prop) (ord : List Nat) (D : Nat → Bool) (V : Nat → Value) (ξ : (i : Nat) → (gdOf G i).X) (a : Act) (w : World) : Prop where
  closed : ∀ (i : Nat) (o : Oper), ops[i]? = some o → D i = true → ∀ e ∈ edges o, D e = true
  size : a.tmps.size = n
  defers : a.defers = []
  slot : ∀ (i : Nat) (o : Oper) (d : Nat), k0 ≤ i → ops[i]? = some o → D i = true → o.dst = some d → a.tmps[d]? = some (gave G V ξ i)
  old : ∀ t v, look L0 t = some v → (∀ (i : Nat) (o : Oper), k0 ≤ i → ops[i]? = some o → D i = true → o.dst ≠ some t) → a.tmps[t]? = some v
  kp : Kp [] w0 w
  ph : ∀ i, isGh G i = true → D i = true → (gdOf G i).phi (ξ i) w
  live : Live P w0 ops G K D V ξ ord L0 []

theorem StY.looks {K : Env → List Fact → Prop} {D : Nat → Bool} {V : Nat → Value} {ξ : (i : Nat) → (gdOf G i).X} {a : Act} {w : World} (c : ChkY n ops ord gi k0 k) (hst : StY P n ops k0 w0 L0 G K ord D V ξ a w) (htl : ∀ i, i < ops.length → k ≤ i → D i = false)
    {r : Nat} {o : Oper} {A B : List Nat} {L' : Env} (he : ord = A ++ r :: B) (ho : ops[r]? = some o) (hdr : D r = false) (hanc : ∀ j, anc ops r j = true → D j = true) (hway : Way ops G L0 D V ξ (A.reverse ++ []) L') :
    ∀ t ∈ lks ops o, ∀ v, look L' t = some v → a.tmps[t]? = some v := by
  intro t ht v hv
  obtain ⟨g1, _⟩ := ordX_spec ord [] c.ok A r B he o ho
  rcases hway t v hv with ⟨j, hj, h1, h2⟩ | ⟨h1, h2⟩
  · have hjA : j ∈ A := by simpa using hj
    have hdj := hanc j ((g1 t ht).1 j (Or.inl hjA) h1)
    unfold dstOf at h1
    cases hoj : ops[j]? with
    | none => rw [hoj] at h1; simp at h1
    | some oj =>
      rw [hoj] at h1
      simp only [Option.bind_some] at h1
      rw [hst.slot j oj t (c.ge j (by rw [he]; exact List.mem_append_left _ hjA)) hoj hdj h1, h2 hdj]
  · refine hst.old t v h2 (fun i oi hi0 hoi hdi e => ?_)
    have hil := (List.getElem?_eq_some_iff.1 hoi).1
    have hik : i < k := by
      by_cases h : i < k
      · exact h
      · rw [htl i hil (by omega)] at hdi; cases hdi
    have hio := c.cover i hi0 hik
    have hdi' : dstOf ops i = some t := by simp [dstOf, hoi, e]
    rw [he] at hio
    rcases List.mem_append.1 hio with hA | hB
    · exact h1 i (by simpa using hA) hdi'
    · rcases List.mem_cons.1 hB with rfl | hB
      · rw [hdr] at hdi; cases hdi
      · have h3 := (g1 t ht).2 i hB hdi'
        have := anc_closed hst.closed i oi hoi (hst.closed i oi hoi hdi) r h3
        rw [hdr] at this
        cases this

/-- One is done. -/
theorem StY.did {K : Env → List Fact → Prop} {D : Nat → Bool} {V V' : Nat → Value} {ξ ξ' : (i : Nat) → (gdOf G i).X} {a : Act} {w w' : World} (c : ChkY n ops ord gi k0 k) (hst : StY P n ops k0 w0 L0 G K ord D V ξ a w) {r : Nat} {o : Oper} {v : Value} (hr0 : k0 ≤ r) (ho : ops[r]? = some o) (hed : ∀ e ∈ edges o, D e = true)
    (hk : Goes w0 G r w w') (hstab : ∀ i x, Stab [] ((gdOf G i).phi x)) (hv : gave G V' ξ' r = v) (hoth : ∀ i, i ≠ r → gave G V' ξ' i = gave G V ξ i) (hx : ∀ i, i ≠ r → ξ' i = ξ i) (hr : isGh G r = true → (gdOf G r).phi (ξ' r) w') (hlive : Live P w0 ops G K (setD D r) V' ξ' ord L0 []) :
    StY P n ops k0 w0 L0 G K ord (setD D r) V' ξ' (a.put o.dst v) w' := by
  refine ⟨fun i oi hoi hdi e he => ?_, ?_, ?_, fun i oi d hi0 hoi hdi hd => ?_, fun t u hu hno => ?_, (hk.elim (fun h => hst.kp.trans h) (fun h => h.1)), fun i hg hdi => ?_, hlive⟩
  · by_cases hir : i = r
    · subst hir
      rw [ho] at hoi
      cases hoi
      exact setD_of (hed e he)
    · rw [setD_ne hir] at hdi
      exact setD_of (hst.closed i oi hoi hdi e he)
  · cases hdd : o.dst with
    | none => exact hst.size
    | some d => simp [Act.put, hst.size]
  · cases hdd : o.dst <;> exact hst.defers
  · by_cases hir : i = r
    · subst hir
      rw [ho] at hoi
      cases hoi
      rw [hd, hv]
      exact put_here hst.size (c.dlt o (List.mem_of_getElem? ho) d hd)
    · rw [setD_ne hir] at hdi
      rw [hoth i hir]
      exact put_slot hst.size d _ (hst.slot i oi d hi0 hoi hdi hd) (fun e => hir (c.one i r oi o d hoi ho hd e))
  · refine put_slot hst.size t u (hst.old t u hu (fun i oi hi0 hoi hdi => hno i oi hi0 hoi (setD_of hdi))) (hno r o hr0 ho setD_same)
  · by_cases hir : i = r
    · subst hir
      exact hr hg
    · rw [setD_ne hir] at hdi
      rw [hx i hir]
      exact hk.elim (fun h => hstab i _ w w' h (hst.ph i hg hdi)) (fun h => h.2 i _ hir (hst.ph i hg hdi))

/-- The first k are done. -/
def lst (N k : Nat) : Array Bool := ((List.range N).map (fun i => decide (i < k))).toArray
theorem lst_size (N k : Nat) : (lst N k).size = N := by simp [lst]
theorem lst_getD {N k i : Nat} (h : i < N) : (lst N k).getD i true = decide (i < k) := by
  simp [lst, Array.getD_eq_getD_getElem?, h]
theorem lst_eq {N k : Nat} {l : Array Bool} (hs : l.size = N) (h : ∀ i, i < N → l.getD i true = decide (i < k)) : l = lst N k := by
  apply Array.ext
  · rw [hs, lst_size]
  · intro i h1 h2
    have := h i (by omega)
    rw [Array.getD_eq_getD_getElem?, Array.getElem?_eq_getElem h1] at this
    have h3 := lst_getD (k := k) (show i < N by omega)
    rw [Array.getD_eq_getD_getElem?, Array.getElem?_eq_getElem h2] at h3
    simp only [Option.getD_some] at this h3
    rw [this, h3]
/-- The region, its first k done. -/
def RG (P : Program) (n : Nat) (ops : List Oper) (Q : Exit → Act → World → Prop) (k : Nat) (L : Env) (w : World) : Prop := ∀ a, Fits n a L → Go.wpAny P .any ops.toArray Q (ops.length - k) (lst ops.length k) a w
def KY (n : Nat) (w0 : World) (P : Program) (ops : List Oper) (Q : Exit → Act → World → Prop) (k : Nat) (L : Env) (Γ : List Fact) : Prop :=
  ∀ w', Kp [] w0 w' → (∀ p ∈ Γ, p.2 w') → RG P n ops Q k L w'
theorem cnt_of {listed : Array Bool} (hle : k ≤ ops.length) (hdec : ∀ i, i < ops.length → listed.getD i true = decide (i < k)) : (List.range ops.length).countP (fun i => !listed.getD i true) = ops.length - k := by
  have e1 : (List.range ops.length).countP (fun i => !listed.getD i true) = (List.range ops.length).countP (fun i => !decide (i < k)) := by
    apply List.countP_congr
    intro i hi
    rw [hdec i (by simpa using hi)]
  rw [e1]
  have : ops.length = k + (ops.length - k) := by omega
  rw [this, List.range_add, List.countP_append, List.countP_map]
  have h1 : (List.range k).countP (fun i => !decide (i < k)) = 0 := by
    rw [List.countP_eq_zero]; intro i hi; simp at hi; simp [hi]
  have h2 : (List.range (ops.length - k)).countP ((fun i => !decide (i < k)) ∘ fun x => k + x) = (List.range (ops.length - k)).length := by
    rw [List.countP_eq_length]; intro i hi; simp
  rw [h1, h2]
  simp

theorem StY.wpAny (c : ChkY n ops ord (G.map (·.1)) k0 k) (hstab : ∀ i x, Stab [] ((gdOf G i).phi x)) : ∀ (fuel : Nat) (listed : Array Bool) (V : Nat → Value) (ξ : (i : Nat) → (gdOf G i).X) (a : Act) (w : World),
    listed.size = ops.length → StY P n ops k0 w0 L0 G (KY n w0 P ops Q k) ord (fun j => listed.getD j true) V ξ a w → (∀ i, i < ops.length → k ≤ i → listed.getD i true = false) → (∀ i, i < k0 → listed.getD i true = true) →
    (List.range ops.length).countP (fun i => !listed.getD i true) = fuel → Go.wpAny P .any ops.toArray Q fuel listed a w := by
  have hle := c.le
  have hfin : ∀ (fuel : Nat) (listed : Array Bool) (V : Nat → Value) (ξ : (i : Nat) → (gdOf G i).X) (a : Act) (w : World), listed.size = ops.length → StY P n ops k0 w0 L0 G (KY n w0 P ops Q k) ord (fun j => listed.getD j true) V ξ a w → (∀ i, i < ops.length → k ≤ i → listed.getD i true = false) → (∀ i, i < k → listed.getD i true = true) → (List.range ops.length).countP (fun i => !listed.getD i true) = fuel → Go.wpAny P .any ops.toArray Q fuel listed a w := by
    intro fuel listed V ξ a w hsz hst htl hpre hcnt
    have hdec : ∀ i, i < ops.length → listed.getD i true = decide (i < k) := by
      intro i hi
      by_cases hik : i < k
      · rw [hpre i hik]; simp [hik]
      · rw [htl i hi (by omega)]; simp [hik]
    rw [cnt_of hle hdec] at hcnt
    subst hcnt
    have hl := lst_eq hsz hdec
    obtain ⟨L', Γ', h1, h2, h3⟩ := Live.done (L0 := L0) (pre := []) hst.ph (fun i hi => hpre i (c.lt i hi)) Way.nil (by simp) hst.live
    have := h3 w hst.kp h2 a ⟨fun t v hv => ?_, hst.size, hst.defers⟩
    · rw [hl]; exact this
    rcases h1 t v hv with ⟨j, hj, g1, g2⟩ | ⟨g1, g2⟩
    · have hjo : j ∈ ord := by simpa using hj
      have hdj := hpre j (c.lt j hjo)
      unfold dstOf at g1
      cases hoj : ops[j]? with
      | none => rw [hoj] at g1; simp at g1
      | some oj =>
        rw [hoj] at g1
        simp only [Option.bind_some] at g1
        rw [hst.slot j oj t (c.ge j hjo) hoj hdj g1, g2 hdj]
    · refine hst.old t v g2 (fun i oi hi0 hoi hdi e => ?_)
      have hil := (List.getElem?_eq_some_iff.1 hoi).1
      have hik : i < k := by
        by_cases h : i < k
        · exact h
        · simp only [htl i hil (by omega)] at hdi; cases hdi
      exact g1 i (by simpa using c.cover i hi0 hik) (by simp [dstOf, hoi, e])
  intro fuel
  induction fuel with
  | zero =>
    intro listed V ξ a w hsz hst htl hlo hcnt
    have hall : ∀ i, i < ops.length → listed.getD i true = true := fun i hi => by
      rw [List.countP_eq_zero] at hcnt
      simpa using hcnt i (by simpa using hi)
    exact hfin 0 listed V ξ a w hsz hst htl (fun i hi => hall i (by omega)) hcnt
  | succ fuel ih =>
    intro listed V ξ a w hsz hst htl hlo hcnt
    by_cases hpre : ∀ i, i < k → listed.getD i true = true
    · exact hfin _ listed V ξ a w hsz hst htl hpre hcnt
    · constructor
      · intro hr
        exfalso
        apply hpre
        intro i
        induction i using Nat.strongRecOn with
        | _ i ihi =>
          intro hik
          cases hd : listed.getD i true with
          | true => rfl
          | false =>
            exfalso
            have : i ∈ Region.ready .any ops.toArray listed := by
              refine (ready_iff hsz).2 ⟨ops[i], by simp, hd, fun e he => ?_⟩
              have hei := c.ed i ops[i] (by simp) e he
              have := ihi e hei (by omega)
              simp only [Array.getD_eq_getD_getElem?] at this ⊢
              rw [Array.getElem?_eq_getElem (by omega)] at this ⊢
              exact this
            rw [hr] at this
            cases this
      · intro i hi
        obtain ⟨o, ho, hnd, hed'⟩ := (ready_iff hsz).1 hi
        have hil : i < ops.length := (List.getElem?_eq_some_iff.1 ho).1
        have hed : ∀ e ∈ edges o, listed.getD e true = true := by
          intro e he
          have := hed' e he
          simp only [Array.getD_eq_getD_getElem?] at this ⊢
          cases h : listed[e]? with
          | none => rfl
          | some b => rw [h] at this; exact this
        have hanc : ∀ j, anc ops i j = true → listed.getD j true = true := anc_closed hst.closed i o ho hed
        have hsz' : (listed.setIfInBounds i true).size = ops.length := by simp [hsz]
        have hset : (fun j => (listed.setIfInBounds i true).getD j true) = setD (fun j => listed.getD j true) i := funext fun j => getD_set (by omega)
        by_cases hik : i < k
        · have htl' : ∀ j, j < ops.length → k ≤ j → (listed.setIfInBounds i true).getD j true = false := by
            intro j hj hkj
            rw [getD_set (by omega), setD_ne (by omega)]
            exact htl j hj hkj
          have hcnt' : (List.range ops.length).countP (fun j => !(listed.setIfInBounds i true).getD j true) = fuel := by
            have key : ∀ (l : List Nat), l.Nodup → i ∈ l → l.countP (fun j => !listed.getD j true) = l.countP (fun j => !(listed.setIfInBounds i true).getD j true) + 1 := by
              intro l
              induction l with
              | nil => intro _ h; cases h
              | cons y l ihl =>
                intro hnl hm
                rw [List.nodup_cons] at hnl
                rw [List.countP_cons, List.countP_cons]
                by_cases e : y = i
                · subst e
                  have hsame : l.countP (fun j => !listed.getD j true) = l.countP (fun j => !(listed.setIfInBounds y true).getD j true) := by
                    apply List.countP_congr
                    intro j hj
                    rw [getD_set (by omega), setD_ne (show j ≠ y from fun e1 => hnl.1 (e1 ▸ hj))]
                  rw [hsame, getD_set (by omega), setD_same, hnd]
                  simp
                · have hm' : i ∈ l := by
                    rcases List.mem_cons.1 hm with h | h
                    · exact absurd h.symm e
                    · exact h
                  rw [ihl hnl.2 hm', getD_set (by omega), setD_ne e]
                  omega
            have := key (List.range ops.length) List.nodup_range (by simpa using hil)
            omega
          have hi0 : k0 ≤ i := by
            by_cases h : k0 ≤ i
            · exact h
            · rw [hlo i (by omega)] at hnd; cases hnd
          have hlo' : ∀ j, j < k0 → (listed.setIfInBounds i true).getD j true = true := fun j hj => by
            rw [getD_set (by omega)]
            exact setD_of (hlo j hj)
          have hio := c.cover i hi0 hik
          cases hg : isGh G i with
          | false =>
            have hgd : ∀ g A B, ord = A ++ g :: B → i ∈ B → isGh G g = true → listed.getD g true = true := by
              intro g A B he hb hgg
              have hgo : g ∈ ord := by rw [he]; simp
              have hgl : g < ops.length := Nat.lt_of_lt_of_le (c.lt g hgo) hle
              obtain ⟨_, g2⟩ := ordX_spec ord [] c.ok A g B he ops[g] (by simp [hgl])
              rcases g2 (by rw [← isGh_iff]; exact hgg) i hb with h | h
              · rw [← isGh_iff, hg] at h; cases h
              · exact hanc g h
            obtain ⟨o', L', Γ', A, B, e1, e2, e3, e4, e5⟩ := Live.plain (D := fun j => listed.getD j true) hg hnd c.nodup hio hgd Way.nil (by simp) hst.ph hst.live
            have heo : o = o' := Option.some.inj (ho.symm.trans e2)
            subst heo
            have hlk := hst.looks c htl e1 ho hnd hanc e3
            rcases e5 with ⟨hw, hl⟩ | ⟨hw, v, hkn, hrun, hl⟩
            · refine wpOp_of ho (wanted_of hlk hw) (fun h => by cases h) (fun _ => ?_)
              refine ih _ (updV V i undef) ξ _ w hsz' ?_ htl' hlo' hcnt'
              rw [hset]
              exact hst.did c hi0 ho hed (Or.inl (Kp.refl _ _)) hstab (by simp [gave, hg, updV]) (fun j hj => gave_updV hj) (fun j hj => rfl) (fun h => by rw [hg] at h; cases h) hl
            · refine wpOp_of ho (wanted_of hlk hw) (fun _ => ?_) (fun h => by cases h)
              have hr := hrun w hst.kp (fun p hp ha => e4 p hp (hanc p.1 ha))
              have hr' := OpRun.congr (c.sel o (List.mem_of_getElem? ho)) (eval_of hlk hkn) hr
              refine hr'.wp (fun v' w' ⟨h1, h2⟩ => ?_)
              subst h1
              refine ih _ (updV V i v') ξ _ w' hsz' ?_ htl' hlo' hcnt'
              rw [hset]
              exact hst.did c hi0 ho hed (Or.inl h2) hstab (by simp [gave, hg, updV]) (fun j hj => gave_updV hj) (fun j hj => rfl) (fun h => by rw [hg] at h; cases h) hl
          | true =>
            obtain ⟨o', L', Γ', A, B, e1, e2, e3, e4, hw, hkn, hea⟩ := Live.effect (D := fun j => listed.getD j true) hg hnd hanc hst.ph c.nodup hio Way.nil (by simp) hst.live
            have heo : o = o' := Option.some.inj (ho.symm.trans e2)
            subst heo
            have hlk := hst.looks c htl e1 ho hnd hanc e3
            refine wpOp_of ho (wanted_of hlk hw) (fun _ => ?_) (fun h => by cases h)
            rcases hea with ⟨hrun, hl⟩ | ⟨_, x, hrun, hl⟩
            · have hr := hrun w hst.kp (fun p hp ha => e4 p hp (hanc p.1 ha))
              have hr' := OpRun.congr (c.sel o (List.mem_of_getElem? ho)) (eval_of hlk hkn) hr
              refine hr'.wp (fun v' w' ⟨x, h1, h2, h3⟩ => ?_)
              subst h1
              refine ih _ V (updX ξ i x) _ w' hsz' ?_ htl' hlo' hcnt'
              rw [hset]
              exact hst.did c hi0 ho hed h3 hstab (by simp [gave, hg, updX_same]) (fun j hj => gave_updX hj) (fun j hj => updX_ne hj) (fun _ => by rw [updX_same]; exact h2) (hl x)
            · have hr := hrun w hst.kp (fun p hp ha => e4 p hp (hanc p.1 ha))
              have hr' := OpRun.congr (c.sel o (List.mem_of_getElem? ho)) (eval_of hlk hkn) hr
              refine hr'.wp (fun v' w' ⟨h1, h2, h3⟩ => ?_)
              subst h1
              refine ih _ V (updX ξ i x) _ w' hsz' ?_ htl' hlo' hcnt'
              rw [hset]
              exact hst.did c hi0 ho hed h3 hstab (by simp [gave, hg, updX_same]) (fun j hj => gave_updX hj) (fun j hj => updX_ne hj) (fun _ => by rw [updX_same]; exact h2) hl
        · exfalso
          apply hpre
          intro j hj
          by_cases hj0 : k0 ≤ j
          · exact hanc j (c.tl i hil (by omega) j hj0 hj)
          · exact hlo j (by omega)


theorem gd_stab (hstab : ∀ p ∈ G, ∀ x, Stab [] (p.2.phi x)) : ∀ i x, Stab [] ((gdOf G i).phi x) := by
  have : ∀ (G : List (Nat × GD)), (∀ p ∈ G, ∀ x, Stab [] (p.2.phi x)) → ∀ i, ∀ x, Stab [] ((gdOf G i).phi x) := by
    intro G
    induction G with
    | nil => intro _ i x w w' _ _; exact trivial
    | cons p G ih =>
      intro h i
      obtain ⟨j, d⟩ := p
      have e : gdOf ((j, d) :: G) i = (if Nat.beq j i = true then d else gdOf G i) := by
        unfold gdOf
        simp only [gdLook]
        cases Nat.beq j i <;> rfl
      by_cases hb : Nat.beq j i = true
      · rw [e, if_pos hb]
        exact h (j, d) (by simp)
      · rw [e, if_neg hb]
        exact ih (fun q hq => h q (by simp [hq])) i
  exact this G hstab
/-- Operations k0 .. k - 1, in whatever order. -/
theorem RG.free {w : World} {L : Env} (k : Nat) (ord : List Nat) (G : List (Nat × GD)) (hc : chkY n ops ord (G.map (·.1)) k0 k = true) (hkk : Nat.ble k0 k = true) (hstab : ∀ p ∈ G, ∀ x, Stab [] (p.2.phi x))
    (h : DerX P w ops G (KY n w P ops Q k) ord L []) : RG P n ops Q k0 L w := by
  intro a ha
  have c := ChkY.of hc
  have hle := c.le
  have hkk' : k0 ≤ k := by simpa [Nat.ble_eq] using hkk
  have hD : ∀ j, (lst ops.length k0).getD j true = (decide (j < k0) || !decide (j < ops.length)) := by
    intro j
    by_cases hj : j < ops.length
    · rw [lst_getD hj]; simp [hj]
    · have : (lst ops.length k0)[j]? = none := Array.getElem?_eq_none (by rw [lst_size]; omega)
      rw [Array.getD_eq_getD_getElem?, this]; simp [hj]
  refine StY.wpAny (w0 := w) (L0 := L) (G := G) c (gd_stab hstab) _ _ (fun _ => undef) (fun i => (gdOf G i).x0) a w (lst_size _ _) ?_ ?_ ?_ (cnt_of (k := k0) (by omega) (fun i hi => lst_getD hi))
  · refine ⟨fun i o ho hd e he => ?_, ha.size, ha.defers, fun i o d hi0 ho hd hdd => ?_, fun t v hv _ => ha.slot t v hv, Kp.refl _ _, fun i hg hd => ?_, ?_⟩
    · have hil := (List.getElem?_eq_some_iff.1 ho).1
      have hei := c.ed i o ho e he
      rw [hD] at hd ⊢
      simp [hil] at hd
      simp
      omega
    · have hil := (List.getElem?_eq_some_iff.1 ho).1
      rw [hD] at hd
      simp [hil] at hd
      omega
    · rw [isGh_iff, List.elem_eq_mem] at hg
      have hio := c.gi i (of_decide_eq_true hg)
      have h1 := c.lt i hio
      have h2 := c.ge i hio
      rw [hD] at hd
      have : i < ops.length := by omega
      simp [this] at hd
      omega
    · refine Live.congr (fun i hi => ⟨?_, rfl, rfl⟩) h
      have h1 := c.lt i hi
      have h2 := c.ge i hi
      have h3 : i < ops.length := by omega
      have h4 : ¬ i < k0 := by omega
      show false = _
      rw [hD]
      simp [h3, h4]
  · intro i hi hki
    rw [hD]
    simp [hi]
    omega
  · intro i hi
    rw [hD]
    simp [hi]
/-- One that stands between. -/
theorem RG.op {w : World} {L : Env} {o : Oper} (ho : ops[k]? = some o) (hb : ((List.range ops.length).all fun i => Nat.ble i k || anc ops i k) = true) (hed : (List.range ops.length).all (fun i => ((ops[i]?).map fun o => (edges o).all (fun e => Nat.blt e i)).getD false) = true) (hd : o.dst.all (fun d => Nat.blt d n) = true) (hs : isSelect o.op = false) (hw : want ops L o = some true) (hk : o.op.operands.toList.all (known L) = true)
    (hr : OpRun P (rho L) o w (fun v w' => RG P n ops Q (k + 1) (addD o.dst v L) w')) : RG P n ops Q k L w := by
  intro a ha
  have hkl : k < ops.length := (List.getElem?_eq_some_iff.1 ho).1
  have hsz := lst_size ops.length k
  have hed' : ∀ (i : Nat) (o : Oper), ops[i]? = some o → ∀ e ∈ edges o, e < i := fun i o ho e he => by
    have := List.all_eq_true.1 hed i (by simpa using (List.getElem?_eq_some_iff.1 ho).1)
    rw [ho] at this
    simp only [Option.map_some, Option.getD_some] at this
    simpa [Nat.blt_eq] using List.all_eq_true.1 this e he
  have hcl : ∀ (i : Nat) (o : Oper), ops[i]? = some o → (lst ops.length k).getD i true = true → ∀ e ∈ edges o, (lst ops.length k).getD e true = true := fun i o ho hi e he => by
    have hil := (List.getElem?_eq_some_iff.1 ho).1
    have hei := hed' i o ho e he
    rw [lst_getD hil] at hi
    rw [lst_getD (by omega)]
    simp at hi ⊢
    omega
  have hm : ops.length - k = (ops.length - (k + 1)) + 1 := by omega
  rw [hm]
  have hread : k ∈ Region.ready .any ops.toArray (lst ops.length k) := by
    refine (ready_iff hsz).2 ⟨o, ho, ?_, fun e he => ?_⟩
    · rw [lst_getD hkl]; simp
    · have hek := hed' k _ ho e he
      have := lst_getD (N := ops.length) (k := k) (i := e) (by omega)
      simp only [Array.getD_eq_getD_getElem?] at this ⊢
      rw [Array.getElem?_eq_getElem (by omega)] at this ⊢
      simp at this ⊢
      rw [this]
      simp [hek]
  refine ⟨fun hr => (by rw [hr] at hread; cases hread), fun i hi => ?_⟩
  obtain ⟨o', ho', h1, h2⟩ := (ready_iff hsz).1 hi
  have hil := (List.getElem?_eq_some_iff.1 ho').1
  have hge : k ≤ i := by
    rw [lst_getD hil] at h1
    simpa using h1
  have hik : i = k := by
    by_cases e : i = k
    · exact e
    · exfalso
      have hanc : anc ops i k = true := by
        have := List.all_eq_true.1 hb i (by simpa using hil)
        simp only [Bool.or_eq_true, Nat.ble_eq] at this
        rcases this with h | h
        · omega
        · exact h
      have := anc_closed hcl i o' ho' (fun e he => by
        have := h2 e he
        simp only [Array.getD_eq_getD_getElem?] at this ⊢
        cases h : (lst ops.length k)[e]? with
        | none => rfl
        | some b => rw [h] at this; exact this) k hanc
      rw [lst_getD hkl] at this
      simp at this
  subst hik
  have hoo : o = o' := Option.some.inj (ho.symm.trans ho')
  subst hoo
  have hlk : ∀ t ∈ lks ops o, ∀ v, look L t = some v → a.tmps[t]? = some v := fun t _ v hv => ha.slot t v hv
  have hset : (lst ops.length i).setIfInBounds i true = lst ops.length (i + 1) := by
    apply lst_eq (by simp [hsz])
    intro j hj
    rw [getD_set (by omega)]
    by_cases hji : j = i
    · subst hji; rw [setD_same]; simp
    · rw [setD_ne hji, lst_getD hj]
      by_cases h : j < i
      · simp [h]; omega
      · have : ¬ j < i + 1 := by omega
        simp [h, this]
  refine wpOp_of ho (wanted_of hlk hw) (fun _ => ?_) (fun h => by cases h)
  refine (OpRun.congr hs (eval_of hlk hk) hr).wp (fun v w' hg => ?_)
  rw [hset]
  refine hg _ ?_
  cases hdd : o.dst with
  | none => exact ha
  | some d =>
    rw [hdd] at hd
    exact ha.put d v (by simpa [Nat.blt_eq] using hd)

/-- The rest in text order. -/
theorem RG.tail {w : World} {L : Env} (hed : (List.range ops.length).all (fun i => ((ops[i]?).map fun o => (edges o).all (fun e => Nat.blt e i)).getD false) = true) (hc : ((List.range ops.length).all fun i => Nat.blt i k || (List.range i).all (fun j => anc ops i j)) = true) (hkl : Nat.ble k ops.length = true)
    (h : SG P n ops Q (ops.drop k) L w) : RG P n ops Q k L w := by
  intro a ha
  have hkl' : k ≤ ops.length := by simpa [Nat.ble_eq] using hkl
  have hed' : ∀ (i : Nat) (o : Oper), ops[i]? = some o → ∀ e ∈ edges o, e < i := fun i o ho e he => by
    have := List.all_eq_true.1 hed i (by simpa using (List.getElem?_eq_some_iff.1 ho).1)
    rw [ho] at this
    simp only [Option.map_some, Option.getD_some] at this
    simpa [Nat.blt_eq] using List.all_eq_true.1 this e he
  refine wpAny_tail hed' _ k _ a w (by omega) (lst_size _ _) (fun i hi hk j hj => ?_) (fun i o ho hi e he => ?_) (fun i hi => lst_getD hi) (h a ha)
  · have := List.all_eq_true.1 hc i (by simpa using hi)
    simp only [Bool.or_eq_true, Nat.blt_eq] at this
    rcases this with h | h
    · omega
    · exact List.all_eq_true.1 h j (by simpa using hj)
  · have hil := (List.getElem?_eq_some_iff.1 ho).1
    have hei := hed' i o ho e he
    rw [lst_getD hil] at hi
    rw [lst_getD (by omega)]
    simp at hi ⊢
    omega
/-- A region that draws, by phases. -/
theorem CG.phases {w : World} {L : Env} {id : Nat} (hm : P.follows .mixedOrders = true) (h : ∀ w', Kp [] w w' → RG P n ops Q 0 L w') : CG P n (.region id ops.toArray true) Q L w := by
  intro a ha
  refine wp_region_any hm ?_
  have e : Array.replicate ops.toArray.size false = lst ops.length 0 := lst_eq (by simp) (fun i hi => by simp [Array.getD_eq_getD_getElem?, hi])
  rw [e]
  have := h _ ((Kp.refl [] w).drew) a ha
  simpa using this
theorem DerX.ph {w0 : World} {L : Env} {Γ : List Fact} (h : ∀ w', Kp [] w0 w' → (∀ p ∈ Γ, p.2 w') → RG P n ops Q k L w') : DerX P w0 ops G (KY n w0 P ops Q k) [] L Γ := h

end
end Go.Proofs.Ytfelaicoedlejaa
/-
  Nets of so many parties behind deeds: both say the same.
-/
namespace Go.Proofs.Ytfelaicoedlejaa
set_option linter.unusedVariables false

theorem RG.call {P : Program} {m k : Nat} {ops : List Oper} {Q : Exit → Act → World → Prop} {L : Env} {w : World} {ty : TypeId} {pos : String} {af : Array Edge} {g : Option (Nat × Bool)} {d : Nat} {f : FuncId} [Fnc P f] {args : List Operand} {vs : List Value} {tys : Array TypeId}
    (ho : ops[k]? = some ⟨some d, .call ⟨.value (.func f), args.toArray, tys⟩, ty, pos, af, g⟩) (hb : ((List.range ops.length).all fun i => Nat.ble i k || anc ops i k) = true) (hed : (List.range ops.length).all (fun i => ((ops[i]?).map fun o => (edges o).all (fun e => Nat.blt e i)).getD false) = true)
    (hd : Nat.blt d m = true) (hw : want ops L ⟨some d, .call ⟨.value (.func f), args.toArray, tys⟩, ty, pos, af, g⟩ = some true) (hk : (Op.call ⟨.value (.func f), args.toArray, tys⟩).operands.toList.all (known L) = true) (he : Evs L args vs)
    (hc : Calls P f vs.toArray w (fun e w' => ∃ v, e = .returned v ∧ RG P m ops Q (k + 1) ((d, v) :: L) w')) : RG P m ops Q k L w :=
  RG.op ho hb hed (by simpa using hd) rfl hw hk (orun_call (by rw [he.arr]; exact hc))

attribute [local irreducible] CG NG SG Vals Der Row Blk MapIs IterAt DerX sv RG
set_option maxHeartbeats 32000000 in
theorem both_good (w : World) (n : Nat) (hn1 : 1 ≤ n) (hn2 : n ≤ 16) (a : Option Addr) (c : Nat) (l : List Dd) (hS : Sl dcl 5 w a l) (hSl : ∀ d ∈ l, SlI w d.a d.later) (hf : ∀ d ∈ l, d.bs.length ≤ 100 ∧ d.later.length ≤ 20) (hl : l.length ≤ 60) :
    Calls Try.prog 17 #[.int .i64 n, .slice a l.length c] w (fun e w' => ∃ bt bm s r v u, e = .returned (.tuple #[.pointer (some ⟨bt, 0, none⟩), .agg (rcl r v u).toArray, .bool true]) ∧ At Fr.none w w' bt bm s ∧ RnAt w' r v u ∧ Rel l.length s r ∧ NumOk s) := by
  refine enter2 Try.func17 rfl Try.ntmps17 rfl ?_
  repeat (first|apply CG.seq|apply CG.region|apply SG.nil|apply NG.next|apply CG.skip|apply CG.block|apply CG.ret|apply CG.exit|apply CG.scope|apply NG.ret_then|apply NG.ret_block|apply NG.ret_scope|apply NG.exit_then|refine NG.exit_block rfl ?_|refine NG.exit_other rfl ?_|apply NG.exit_scope|apply NG.normal_block|apply NG.normal_scope|refine SG.val rfl rfl rfl rfl (by first|((first|apply qmv|apply qas|apply qlc|apply qla|apply qfa|apply qnc|apply qic|apply qix|apply qpk|apply qls|apply qei|apply qni|apply qed|apply qnd|apply qad|apply qln|apply qle|apply qgt|apply qge|apply qlk|apply qlv|apply qxt|apply qsb|apply qnt|apply qep|apply qnp|apply qeb|apply qnb|apply qx2|apply qx4|apply qcv|apply qlm|apply qfr|apply qto|apply qmx|apply qen|apply qsn|apply qx8|apply qx7|apply qx6|apply qx5|apply qx4|apply qx3|apply qx2|apply qx1|apply qx0)<;>(first|exact rfl|exact Ar.mk (by omega)|assumption|exact dct (by assumption)|exact dcf (by assumption)|exact dct (by omega)|exact dcf (by omega)|exact List.not_mem_nil|exact dc_length _|exact nc_length _|exact rc_length _ _ _|exact ec_length _|exact nm1 (by omega)|exact nm2 (by omega) (by omega)|exact dct rfl|exact dct (by decide)|exact dcf (by decide)|exact (Int.toNat_of_nonneg (by omega)).symm|exact dcu|exact lk1 (by assumption)|exact lk0 (by assumption)|exact lkb|fail))|fail) ?_)
  refine SG.alloc rfl rfl rfl (fun b5 w1 hk1 hb5 hB5 => ?_)
  have hB5 : Blk w1 b5 (.cells (rcl (Rn.new 0) nilS nilS).toArray 47) := hB5
  repeat (first|apply CG.seq|apply CG.region|apply SG.nil|apply NG.next|apply CG.skip|apply CG.block|apply CG.ret|apply CG.exit|apply CG.scope|apply NG.ret_then|apply NG.ret_block|apply NG.ret_scope|apply NG.exit_then|refine NG.exit_block rfl ?_|refine NG.exit_other rfl ?_|apply NG.exit_scope|apply NG.normal_block|apply NG.normal_scope|refine SG.val rfl rfl rfl rfl (by first|((first|apply qmv|apply qas|apply qlc|apply qla|apply qfa|apply qnc|apply qic|apply qix|apply qpk|apply qls|apply qei|apply qni|apply qed|apply qnd|apply qad|apply qln|apply qle|apply qgt|apply qge|apply qlk|apply qlv|apply qxt|apply qsb|apply qnt|apply qep|apply qnp|apply qeb|apply qnb|apply qx2|apply qx4|apply qcv|apply qlm|apply qfr|apply qto|apply qmx|apply qen|apply qsn|apply qx8|apply qx7|apply qx6|apply qx5|apply qx4|apply qx3|apply qx2|apply qx1|apply qx0)<;>(first|exact rfl|exact Ar.mk (by omega)|assumption|exact dct (by assumption)|exact dcf (by assumption)|exact dct (by omega)|exact dcf (by omega)|exact List.not_mem_nil|exact dc_length _|exact nc_length _|exact rc_length _ _ _|exact ec_length _|exact nm1 (by omega)|exact nm2 (by omega) (by omega)|exact dct rfl|exact dct (by decide)|exact dcf (by decide)|exact (Int.toNat_of_nonneg (by omega)).symm|exact dcu|exact lk1 (by assumption)|exact lk0 (by assumption)|exact lkb|fail))|fail) ?_)
  refine SG.call rfl rfl rfl (by repeat' (first | exact True.intro | exact rho_of rfl | refine And.intro ?_ ?_)) ((new_at w1 n hn1 hn2).mono (fun e w2 hh => ?_))
  obtain ⟨bt, bm, he2, hA2⟩ := hh
  refine ⟨_, he2, ?_⟩
  repeat (first|apply CG.seq|apply CG.region|apply SG.nil|apply NG.next|apply CG.skip|apply CG.block|apply CG.ret|apply CG.exit|apply CG.scope|apply NG.ret_then|apply NG.ret_block|apply NG.ret_scope|apply NG.exit_then|refine NG.exit_block rfl ?_|refine NG.exit_other rfl ?_|apply NG.exit_scope|apply NG.normal_block|apply NG.normal_scope|refine SG.val rfl rfl rfl rfl (by first|((first|apply qmv|apply qas|apply qlc|apply qla|apply qfa|apply qnc|apply qic|apply qix|apply qpk|apply qls|apply qei|apply qni|apply qed|apply qnd|apply qad|apply qln|apply qle|apply qgt|apply qge|apply qlk|apply qlv|apply qxt|apply qsb|apply qnt|apply qep|apply qnp|apply qeb|apply qnb|apply qx2|apply qx4|apply qcv|apply qlm|apply qfr|apply qto|apply qmx|apply qen|apply qsn|apply qx8|apply qx7|apply qx6|apply qx5|apply qx4|apply qx3|apply qx2|apply qx1|apply qx0)<;>(first|exact rfl|exact Ar.mk (by omega)|assumption|exact dct (by assumption)|exact dcf (by assumption)|exact dct (by omega)|exact dcf (by omega)|exact List.not_mem_nil|exact dc_length _|exact nc_length _|exact rc_length _ _ _|exact ec_length _|exact nm1 (by omega)|exact nm2 (by omega) (by omega)|exact dct rfl|exact dct (by decide)|exact dcf (by decide)|exact (Int.toNat_of_nonneg (by omega)).symm|exact dcu|exact lk1 (by assumption)|exact lk0 (by assumption)|exact lkb|fail))|fail) ?_)
  refine SG.ret rfl rfl rfl (by repeat' (first | exact True.intro | exact rho_of rfl | refine And.intro ?_ ?_)) (rnew_good w2 n hn1 hn2) (fun w3 hk3 => ?_)
  repeat (first|apply CG.seq|apply CG.region|apply SG.nil|apply NG.next|apply CG.skip|apply CG.block|apply CG.ret|apply CG.exit|apply CG.scope|apply NG.ret_then|apply NG.ret_block|apply NG.ret_scope|apply NG.exit_then|refine NG.exit_block rfl ?_|refine NG.exit_other rfl ?_|apply NG.exit_scope|apply NG.normal_block|apply NG.normal_scope|refine SG.val rfl rfl rfl rfl (by first|((first|apply qmv|apply qas|apply qlc|apply qla|apply qfa|apply qnc|apply qic|apply qix|apply qpk|apply qls|apply qei|apply qni|apply qed|apply qnd|apply qad|apply qln|apply qle|apply qgt|apply qge|apply qlk|apply qlv|apply qxt|apply qsb|apply qnt|apply qep|apply qnp|apply qeb|apply qnb|apply qx2|apply qx4|apply qcv|apply qlm|apply qfr|apply qto|apply qmx|apply qen|apply qsn|apply qx8|apply qx7|apply qx6|apply qx5|apply qx4|apply qx3|apply qx2|apply qx1|apply qx0)<;>(first|exact rfl|exact Ar.mk (by omega)|assumption|exact dct (by assumption)|exact dcf (by assumption)|exact dct (by omega)|exact dcf (by omega)|exact List.not_mem_nil|exact dc_length _|exact nc_length _|exact rc_length _ _ _|exact ec_length _|exact nm1 (by omega)|exact nm2 (by omega) (by omega)|exact dct rfl|exact dct (by decide)|exact dcf (by decide)|exact (Int.toNat_of_nonneg (by omega)).symm|exact dcu|exact lk1 (by assumption)|exact lk0 (by assumption)|exact lkb|fail))|fail) ?_)
  refine SG.alloc rfl rfl rfl (fun b9 w4 hk4 hb9 hB4 => ?_)
  refine SG.setAll (old := rcl (Rn.new 0) nilS nilS) (l := rcl (Rn.new n) nilS nilS) rfl rfl (by exact rho_of rfl) (by exact rho_of rfl) hB4 rfl rfl rfl (fun w5 hk5 hB9 => ?_)
  have hk35 : Kp [] w3 w5 := hk4.trans_new hk5 (new1 hb9)
  have hA5 := (hA2.kp0 hk3).kp0 hk35
  have hB55 := ((hB5.kp0 hA2.kp).kp0 hk3).kp0 hk35
  repeat (first | first|apply CG.seq|apply CG.region|apply SG.nil|apply NG.next|apply CG.skip|apply CG.block|apply CG.ret|apply CG.exit|apply CG.scope|apply NG.ret_then|apply NG.ret_block|apply NG.ret_scope|apply NG.exit_then|refine NG.exit_block rfl ?_|refine NG.exit_other rfl ?_|apply NG.exit_scope|apply NG.normal_block|apply NG.normal_scope|refine SG.val rfl rfl rfl rfl (by first|((first|apply qmv|apply qas|apply qlc|apply qla|apply qfa|apply qnc|apply qic|apply qix|apply qpk|apply qls|apply qei|apply qni|apply qed|apply qnd|apply qad|apply qln|apply qle|apply qgt|apply qge|apply qlk|apply qlv|apply qxt|apply qsb|apply qnt|apply qep|apply qnp|apply qeb|apply qnb|apply qx2|apply qx4|apply qcv|apply qlm|apply qfr|apply qto|apply qmx|apply qen|apply qsn|apply qx8|apply qx7|apply qx6|apply qx5|apply qx4|apply qx3|apply qx2|apply qx1|apply qx0)<;>(first|exact rfl|exact Ar.mk (by omega)|assumption|exact dct (by assumption)|exact dcf (by assumption)|exact dct (by omega)|exact dcf (by omega)|exact List.not_mem_nil|exact dc_length _|exact nc_length _|exact rc_length _ _ _|exact ec_length _|exact nm1 (by omega)|exact nm2 (by omega) (by omega)|exact dct rfl|exact dct (by decide)|exact dcf (by decide)|exact (Int.toNat_of_nonneg (by omega)).symm|exact dcu|exact lk1 (by assumption)|exact lk0 (by assumption)|exact lkb|fail))|fail) ?_ | refine SG.skip rfl rfl ?_)
  refine CG.cond_f rfl (by exact rho_of rfl) rfl ?_
  repeat (first|apply CG.seq|apply CG.region|apply SG.nil|apply NG.next|apply CG.skip|apply CG.block|apply CG.ret|apply CG.exit|apply CG.scope|apply NG.ret_then|apply NG.ret_block|apply NG.ret_scope|apply NG.exit_then|refine NG.exit_block rfl ?_|refine NG.exit_other rfl ?_|apply NG.exit_scope|apply NG.normal_block|apply NG.normal_scope|refine SG.val rfl rfl rfl rfl (by first|((first|apply qmv|apply qas|apply qlc|apply qla|apply qfa|apply qnc|apply qic|apply qix|apply qpk|apply qls|apply qei|apply qni|apply qed|apply qnd|apply qad|apply qln|apply qle|apply qgt|apply qge|apply qlk|apply qlv|apply qxt|apply qsb|apply qnt|apply qep|apply qnp|apply qeb|apply qnb|apply qx2|apply qx4|apply qcv|apply qlm|apply qfr|apply qto|apply qmx|apply qen|apply qsn|apply qx8|apply qx7|apply qx6|apply qx5|apply qx4|apply qx3|apply qx2|apply qx1|apply qx0)<;>(first|exact rfl|exact Ar.mk (by omega)|assumption|exact dct (by assumption)|exact dcf (by assumption)|exact dct (by omega)|exact dcf (by omega)|exact List.not_mem_nil|exact dc_length _|exact nc_length _|exact rc_length _ _ _|exact ec_length _|exact nm1 (by omega)|exact nm2 (by omega) (by omega)|exact dct rfl|exact dct (by decide)|exact dcf (by decide)|exact (Int.toNat_of_nonneg (by omega)).symm|exact dcu|exact lk1 (by assumption)|exact lk0 (by assumption)|exact lkb|fail))|fail) ?_)
  refine CG.loop (X := Nat × Ns × Rn × Value × Value) (fun q => [(0, .int .i64 n), (1, .slice a l.length c), (5, .pointer (some ⟨b5, 0, none⟩)), (7, .pointer (some ⟨bt, 0, none⟩)), (9, .pointer (some ⟨b9, 0, none⟩)), (10, .bool true), (11, .int .i64 (q.1 : Int))])
    (fun q w' => q.1 ≤ l.length ∧ NumOk q.2.1 ∧ At Fr.none w1 w' bt bm q.2.1 ∧ Blk w' b9 (.cells (rcl q.2.2.1 q.2.2.2.1 q.2.2.2.2).toArray 47) ∧ RnAt w' q.2.2.1 q.2.2.2.1 q.2.2.2.2 ∧ Rel q.1 q.2.1 q.2.2.1) (fun q => l.length - q.1) (0, Ns.new n, Rn.new n, nilS, nilS)
    ⟨Nat.zero_le _, numOk_new n, hA5, hB9, ⟨own_nil, own_nil⟩, rel0 n hn2⟩ (by (repeat' (first | exact True.intro | exact rfl | refine And.intro ?_ ?_))) ?_
  rintro ⟨i, s, r, v, u⟩ w6 ⟨hi, hno6, hA6, hB96, hR6, hrel⟩
  replace hno6 : NumOk s := hno6
  replace hi : i ≤ l.length := hi
  replace hA6 : At Fr.none w1 w6 bt bm s := hA6
  replace hB96 : Blk w6 b9 (.cells (rcl r v u).toArray 47) := hB96
  replace hR6 : RnAt w6 r v u := hR6
  replace hrel : Rel i s r := hrel
  refine CG.to [(0, .int .i64 n), (1, .slice a l.length c), (5, .pointer (some ⟨b5, 0, none⟩)), (7, .pointer (some ⟨bt, 0, none⟩)), (9, .pointer (some ⟨b9, 0, none⟩)), (10, .bool true), (11, .int .i64 (i : Int))] (by (repeat' (first | exact True.intro | exact rfl | refine And.intro ?_ ?_))) ?_
  have hB56 := hB5.kp0 hA6.kp
  have e9 : w1.heap.size ≤ b9 := by have := hA2.kp.size; have := hk3.size; omega
  by_cases hlt : i < l.length
  · have g1 : (i : Int) < (l.length : Int) := by omega
    obtain ⟨ba, oa, rfl, hr⟩ := ((hS.kp0 hk1).kp0 hA6.kp).at hlt
    have hfd := hf _ (List.getElem_mem hlt)
    have hSd := (hSl _ (List.getElem_mem hlt)).kp0 hk1
    generalize l[i] = d at hr hfd hSd
    repeat (first | first|apply CG.seq|apply CG.region|apply SG.nil|apply NG.next|apply CG.skip|apply CG.block|apply CG.ret|apply CG.exit|apply CG.scope|apply NG.ret_then|apply NG.ret_block|apply NG.ret_scope|apply NG.exit_then|refine NG.exit_block rfl ?_|refine NG.exit_other rfl ?_|apply NG.exit_scope|apply NG.normal_block|apply NG.normal_scope|refine SG.val rfl rfl rfl rfl (by first|((first|apply qmv|apply qas|apply qlc|apply qla|apply qfa|apply qnc|apply qic|apply qix|apply qpk|apply qls|apply qei|apply qni|apply qed|apply qnd|apply qad|apply qln|apply qle|apply qgt|apply qge|apply qlk|apply qlv|apply qxt|apply qsb|apply qnt|apply qep|apply qnp|apply qeb|apply qnb|apply qx2|apply qx4|apply qcv|apply qlm|apply qfr|apply qto|apply qmx|apply qen|apply qsn|apply qx8|apply qx7|apply qx6|apply qx5|apply qx4|apply qx3|apply qx2|apply qx1|apply qx0)<;>(first|exact rfl|exact Ar.mk (by omega)|assumption|exact dct (by assumption)|exact dcf (by assumption)|exact dct (by omega)|exact dcf (by omega)|exact List.not_mem_nil|exact dc_length _|exact nc_length _|exact rc_length _ _ _|exact ec_length _|exact nm1 (by omega)|exact nm2 (by omega) (by omega)|exact dct rfl|exact dct (by decide)|exact dcf (by decide)|exact (Int.toNat_of_nonneg (by omega)).symm|exact dcu|exact lk1 (by assumption)|exact lk0 (by assumption)|exact lkb|fail))|fail) ?_ | refine SG.skip rfl rfl ?_)
    refine CG.cond_t rfl (by exact rho_of rfl) rfl ?_
    repeat (first|apply CG.seq|apply CG.region|apply SG.nil|apply NG.next|apply CG.skip|apply CG.block|apply CG.ret|apply CG.exit|apply CG.scope|apply NG.ret_then|apply NG.ret_block|apply NG.ret_scope|apply NG.exit_then|refine NG.exit_block rfl ?_|refine NG.exit_other rfl ?_|apply NG.exit_scope|apply NG.normal_block|apply NG.normal_scope|refine SG.val rfl rfl rfl rfl (by first|((first|apply qmv|apply qas|apply qlc|apply qla|apply qfa|apply qnc|apply qic|apply qix|apply qpk|apply qls|apply qei|apply qni|apply qed|apply qnd|apply qad|apply qln|apply qle|apply qgt|apply qge|apply qlk|apply qlv|apply qxt|apply qsb|apply qnt|apply qep|apply qnp|apply qeb|apply qnb|apply qx2|apply qx4|apply qcv|apply qlm|apply qfr|apply qto|apply qmx|apply qen|apply qsn|apply qx8|apply qx7|apply qx6|apply qx5|apply qx4|apply qx3|apply qx2|apply qx1|apply qx0)<;>(first|exact rfl|exact Ar.mk (by omega)|assumption|exact dct (by assumption)|exact dcf (by assumption)|exact dct (by omega)|exact dcf (by omega)|exact List.not_mem_nil|exact dc_length _|exact nc_length _|exact rc_length _ _ _|exact ec_length _|exact nm1 (by omega)|exact nm2 (by omega) (by omega)|exact dct rfl|exact dct (by decide)|exact dcf (by decide)|exact (Int.toNat_of_nonneg (by omega)).symm|exact dcu|exact lk1 (by assumption)|exact lk0 (by assumption)|exact lkb|fail))|fail) ?_)
    refine CG.phases mixed (fun w7 hk7 => ?_)
    have hr7 := hr.kp0 hk7
    refine RG.free 5 [0, 1, 2, 3, 4] [] (by kernel_rfl) rfl (by simp) ?_
    repeat (refine DerX.val rfl rfl rfl rfl (by first|((first|apply qmv|apply qas|apply qlc|apply qla|apply qfa|apply qnc|apply qic|apply qix|apply qpk|apply qls|apply qei|apply qni|apply qed|apply qnd|apply qad|apply qln|apply qle|apply qgt|apply qge|apply qlk|apply qlv|apply qxt|apply qsb|apply qnt|apply qep|apply qnp|apply qeb|apply qnb|apply qx2|apply qx4|apply qcv|apply qlm|apply qfr|apply qto|apply qmx|apply qen|apply qsn|apply qx8|apply qx7|apply qx6|apply qx5|apply qx4|apply qx3|apply qx2|apply qx1|apply qx0)<;>(first|exact rfl|exact Ar.mk (by omega)|assumption|exact dct (by assumption)|exact dcf (by assumption)|exact dct (by omega)|exact dcf (by omega)|exact List.not_mem_nil|exact dc_length _|exact nc_length _|exact rc_length _ _ _|exact ec_length _|exact nm1 (by omega)|exact nm2 (by omega) (by omega)|exact dct rfl|exact dct (by decide)|exact dcf (by decide)|exact (Int.toNat_of_nonneg (by omega)).symm|exact dcu|exact lk1 (by assumption)|exact lk0 (by assumption)|exact lkb|fail))|fail) ?_)
    refine DerX.ph (fun w8 hk8 _ => ?_)
    have k68 := hk7.trans hk8
    refine RG.call rfl (by kernel_rfl) (by kernel_rfl) rfl rfl rfl (by repeat' (first | exact True.intro | exact rho_of rfl | refine And.intro ?_ ?_)) ((do_spec (hA6.kp0 k68) (hB96.kp0 k68) e9 (hR6.kp0 k68) hrel (by omega) d hfd hSd).mono (fun e w9 hh => ?_))
    obtain ⟨r', v', u', he9, hA9, hB9', hR9, hrel9⟩ := hh
    obtain ⟨s', hs'⟩ : ∃ s', s' = s.doD d := ⟨_, rfl⟩
    rw [← hs'] at hA9 hrel9
    have hno9 : NumOk s' := by rw [hs']; exact hno6.doD d
    refine ⟨_, he9, ?_⟩
    obtain ⟨av, cv, rfl⟩ := own_slice hR9.way
    obtain ⟨q0, q1, q2, q3, q4⟩ := rows47 hB9'
    have hnow := hrel9.now
    have hway := congrArg List.length hrel9.way
    refine RG.free 20 [6, 7, 8, 9, 10, 11, 12, 13, 14, 15, 16, 17, 18, 19] [] (by kernel_rfl) rfl (by simp) ?_
    have hnow' : (s'.now : Int) = (r'.now : Int) := by rw [hnow]
    have hway' : (s'.pend.length : Int) = (r'.way.length : Int) := by rw [hway]
    repeat (first | refine DerX.val rfl rfl rfl rfl (by first|((first|apply qmv|apply qas|apply qlc|apply qla|apply qfa|apply qnc|apply qic|apply qix|apply qpk|apply qls|apply qei|apply qni|apply qed|apply qnd|apply qad|apply qln|apply qle|apply qgt|apply qge|apply qlk|apply qlv|apply qxt|apply qsb|apply qnt|apply qep|apply qnp|apply qeb|apply qnb|apply qx2|apply qx4|apply qcv|apply qlm|apply qfr|apply qto|apply qmx|apply qen|apply qsn|apply qx8|apply qx7|apply qx6|apply qx5|apply qx4|apply qx3|apply qx2|apply qx1|apply qx0)<;>(first|exact rfl|exact Ar.mk (by omega)|assumption|exact dct (by assumption)|exact dcf (by assumption)|exact dct (by omega)|exact dcf (by omega)|exact List.not_mem_nil|exact dc_length _|exact nc_length _|exact rc_length _ _ _|exact ec_length _|exact nm1 (by omega)|exact nm2 (by omega) (by omega)|exact dct rfl|exact dct (by decide)|exact dcf (by decide)|exact (Int.toNat_of_nonneg (by omega)).symm|exact dcu|exact lk1 (by assumption)|exact lk0 (by assumption)|exact lkb|fail))|fail) ?_ | refine DerX.skip rfl rfl rfl ?_)
    refine DerX.call rfl rfl rfl rfl (by repeat' (first | exact True.intro | exact rho_of rfl | refine And.intro ?_ ?_)) (fun w hk _ => now_at (hA9.kp0 hk)) ?_
    repeat (first | refine DerX.val rfl rfl rfl rfl (by first|((first|apply qmv|apply qas|apply qlc|apply qla|apply qfa|apply qnc|apply qic|apply qix|apply qpk|apply qls|apply qei|apply qni|apply qed|apply qnd|apply qad|apply qln|apply qle|apply qgt|apply qge|apply qlk|apply qlv|apply qxt|apply qsb|apply qnt|apply qep|apply qnp|apply qeb|apply qnb|apply qx2|apply qx4|apply qcv|apply qlm|apply qfr|apply qto|apply qmx|apply qen|apply qsn|apply qx8|apply qx7|apply qx6|apply qx5|apply qx4|apply qx3|apply qx2|apply qx1|apply qx0)<;>(first|exact rfl|exact Ar.mk (by omega)|assumption|exact dct (by assumption)|exact dcf (by assumption)|exact dct (by omega)|exact dcf (by omega)|exact List.not_mem_nil|exact dc_length _|exact nc_length _|exact rc_length _ _ _|exact ec_length _|exact nm1 (by omega)|exact nm2 (by omega) (by omega)|exact dct rfl|exact dct (by decide)|exact dcf (by decide)|exact (Int.toNat_of_nonneg (by omega)).symm|exact dcu|exact lk1 (by assumption)|exact lk0 (by assumption)|exact lkb|fail))|fail) ?_ | refine DerX.skip rfl rfl rfl ?_)
    refine DerX.call rfl rfl rfl rfl (by repeat' (first | exact True.intro | exact rho_of rfl | refine And.intro ?_ ?_)) (fun w hk _ => way_at (hA9.kp0 hk)) ?_
    repeat (first | refine DerX.val rfl rfl rfl rfl (by first|((first|apply qmv|apply qas|apply qlc|apply qla|apply qfa|apply qnc|apply qic|apply qix|apply qpk|apply qls|apply qei|apply qni|apply qed|apply qnd|apply qad|apply qln|apply qle|apply qgt|apply qge|apply qlk|apply qlv|apply qxt|apply qsb|apply qnt|apply qep|apply qnp|apply qeb|apply qnb|apply qx2|apply qx4|apply qcv|apply qlm|apply qfr|apply qto|apply qmx|apply qen|apply qsn|apply qx8|apply qx7|apply qx6|apply qx5|apply qx4|apply qx3|apply qx2|apply qx1|apply qx0)<;>(first|exact rfl|exact Ar.mk (by omega)|assumption|exact dct (by assumption)|exact dcf (by assumption)|exact dct (by omega)|exact dcf (by omega)|exact List.not_mem_nil|exact dc_length _|exact nc_length _|exact rc_length _ _ _|exact ec_length _|exact nm1 (by omega)|exact nm2 (by omega) (by omega)|exact dct rfl|exact dct (by decide)|exact dcf (by decide)|exact (Int.toNat_of_nonneg (by omega)).symm|exact dcu|exact lk1 (by assumption)|exact lk0 (by assumption)|exact lkb|fail))|fail) ?_ | refine DerX.skip rfl rfl rfl ?_)
    refine DerX.ph (fun w10 hk10 _ => ?_)
    refine RG.tail (by kernel_rfl) (by kernel_rfl) rfl ?_
    repeat (first | first|apply CG.seq|apply CG.region|apply SG.nil|apply NG.next|apply CG.skip|apply CG.block|apply CG.ret|apply CG.exit|apply CG.scope|apply NG.ret_then|apply NG.ret_block|apply NG.ret_scope|apply NG.exit_then|refine NG.exit_block rfl ?_|refine NG.exit_other rfl ?_|apply NG.exit_scope|apply NG.normal_block|apply NG.normal_scope|refine SG.val rfl rfl rfl rfl (by first|((first|apply qmv|apply qas|apply qlc|apply qla|apply qfa|apply qnc|apply qic|apply qix|apply qpk|apply qls|apply qei|apply qni|apply qed|apply qnd|apply qad|apply qln|apply qle|apply qgt|apply qge|apply qlk|apply qlv|apply qxt|apply qsb|apply qnt|apply qep|apply qnp|apply qeb|apply qnb|apply qx2|apply qx4|apply qcv|apply qlm|apply qfr|apply qto|apply qmx|apply qen|apply qsn|apply qx8|apply qx7|apply qx6|apply qx5|apply qx4|apply qx3|apply qx2|apply qx1|apply qx0)<;>(first|exact rfl|exact Ar.mk (by omega)|assumption|exact dct (by assumption)|exact dcf (by assumption)|exact dct (by omega)|exact dcf (by omega)|exact List.not_mem_nil|exact dc_length _|exact nc_length _|exact rc_length _ _ _|exact ec_length _|exact nm1 (by omega)|exact nm2 (by omega) (by omega)|exact dct rfl|exact dct (by decide)|exact dcf (by decide)|exact (Int.toNat_of_nonneg (by omega)).symm|exact dcu|exact lk1 (by assumption)|exact lk0 (by assumption)|exact lkb|fail))|fail) ?_ | refine SG.skip rfl rfl ?_)
    refine CG.cond_f rfl (by exact rho_of rfl) rfl ?_
    repeat (first|apply CG.seq|apply CG.region|apply SG.nil|apply NG.next|apply CG.skip|apply CG.block|apply CG.ret|apply CG.exit|apply CG.scope|apply NG.ret_then|apply NG.ret_block|apply NG.ret_scope|apply NG.exit_then|refine NG.exit_block rfl ?_|refine NG.exit_other rfl ?_|apply NG.exit_scope|apply NG.normal_block|apply NG.normal_scope|refine SG.val rfl rfl rfl rfl (by first|((first|apply qmv|apply qas|apply qlc|apply qla|apply qfa|apply qnc|apply qic|apply qix|apply qpk|apply qls|apply qei|apply qni|apply qed|apply qnd|apply qad|apply qln|apply qle|apply qgt|apply qge|apply qlk|apply qlv|apply qxt|apply qsb|apply qnt|apply qep|apply qnp|apply qeb|apply qnb|apply qx2|apply qx4|apply qcv|apply qlm|apply qfr|apply qto|apply qmx|apply qen|apply qsn|apply qx8|apply qx7|apply qx6|apply qx5|apply qx4|apply qx3|apply qx2|apply qx1|apply qx0)<;>(first|exact rfl|exact Ar.mk (by omega)|assumption|exact dct (by assumption)|exact dcf (by assumption)|exact dct (by omega)|exact dcf (by omega)|exact List.not_mem_nil|exact dc_length _|exact nc_length _|exact rc_length _ _ _|exact ec_length _|exact nm1 (by omega)|exact nm2 (by omega) (by omega)|exact dct rfl|exact dct (by decide)|exact dcf (by decide)|exact (Int.toNat_of_nonneg (by omega)).symm|exact dcu|exact lk1 (by assumption)|exact lk0 (by assumption)|exact lkb|fail))|fail) ?_)
    exact NG.round (i + 1, s', r', .slice av r'.way.length cv, u') (by (repeat' (first | exact True.intro | exact rfl | refine And.intro ?_ ?_))) ⟨by show i + 1 ≤ l.length; omega, hno9, hA9.kp0 hk10, hB9'.kp0 hk10, hR9.kp0 hk10, hrel9⟩ (by show l.length - (i + 1) < l.length - i; omega)
  have g1 : ¬ (i : Int) < (l.length : Int) := by omega
  have ei : i = l.length := by omega
  subst ei
  obtain ⟨q0, q1, q2, q3, q4⟩ := rows47 hB96
  repeat (first | first|apply CG.seq|apply CG.region|apply SG.nil|apply NG.next|apply CG.skip|apply CG.block|apply CG.ret|apply CG.exit|apply CG.scope|apply NG.ret_then|apply NG.ret_block|apply NG.ret_scope|apply NG.exit_then|refine NG.exit_block rfl ?_|refine NG.exit_other rfl ?_|apply NG.exit_scope|apply NG.normal_block|apply NG.normal_scope|refine SG.val rfl rfl rfl rfl (by first|((first|apply qmv|apply qas|apply qlc|apply qla|apply qfa|apply qnc|apply qic|apply qix|apply qpk|apply qls|apply qei|apply qni|apply qed|apply qnd|apply qad|apply qln|apply qle|apply qgt|apply qge|apply qlk|apply qlv|apply qxt|apply qsb|apply qnt|apply qep|apply qnp|apply qeb|apply qnb|apply qx2|apply qx4|apply qcv|apply qlm|apply qfr|apply qto|apply qmx|apply qen|apply qsn|apply qx8|apply qx7|apply qx6|apply qx5|apply qx4|apply qx3|apply qx2|apply qx1|apply qx0)<;>(first|exact rfl|exact Ar.mk (by omega)|assumption|exact dct (by assumption)|exact dcf (by assumption)|exact dct (by omega)|exact dcf (by omega)|exact List.not_mem_nil|exact dc_length _|exact nc_length _|exact rc_length _ _ _|exact ec_length _|exact nm1 (by omega)|exact nm2 (by omega) (by omega)|exact dct rfl|exact dct (by decide)|exact dcf (by decide)|exact (Int.toNat_of_nonneg (by omega)).symm|exact dcu|exact lk1 (by assumption)|exact lk0 (by assumption)|exact lkb|fail))|fail) ?_ | refine SG.skip rfl rfl ?_)
  refine CG.cond_f rfl (by exact rho_of rfl) rfl ?_
  repeat (first|apply CG.seq|apply CG.region|apply SG.nil|apply NG.next|apply CG.skip|apply CG.block|apply CG.ret|apply CG.exit|apply CG.scope|apply NG.ret_then|apply NG.ret_block|apply NG.ret_scope|apply NG.exit_then|refine NG.exit_block rfl ?_|refine NG.exit_other rfl ?_|apply NG.exit_scope|apply NG.normal_block|apply NG.normal_scope|refine SG.val rfl rfl rfl rfl (by first|((first|apply qmv|apply qas|apply qlc|apply qla|apply qfa|apply qnc|apply qic|apply qix|apply qpk|apply qls|apply qei|apply qni|apply qed|apply qnd|apply qad|apply qln|apply qle|apply qgt|apply qge|apply qlk|apply qlv|apply qxt|apply qsb|apply qnt|apply qep|apply qnp|apply qeb|apply qnb|apply qx2|apply qx4|apply qcv|apply qlm|apply qfr|apply qto|apply qmx|apply qen|apply qsn|apply qx8|apply qx7|apply qx6|apply qx5|apply qx4|apply qx3|apply qx2|apply qx1|apply qx0)<;>(first|exact rfl|exact Ar.mk (by omega)|assumption|exact dct (by assumption)|exact dcf (by assumption)|exact dct (by omega)|exact dcf (by omega)|exact List.not_mem_nil|exact dc_length _|exact nc_length _|exact rc_length _ _ _|exact ec_length _|exact nm1 (by omega)|exact nm2 (by omega) (by omega)|exact dct rfl|exact dct (by decide)|exact dcf (by decide)|exact (Int.toNat_of_nonneg (by omega)).symm|exact dcu|exact lk1 (by assumption)|exact lk0 (by assumption)|exact lkb|fail))|fail) ?_)
  refine CG.tail mixed 3 [0, 1, 2] (by kernel_rfl) ?_
  repeat (refine Der.val rfl rfl rfl (by first|((first|apply qmv|apply qas|apply qlc|apply qla|apply qfa|apply qnc|apply qic|apply qix|apply qpk|apply qls|apply qei|apply qni|apply qed|apply qnd|apply qad|apply qln|apply qle|apply qgt|apply qge|apply qlk|apply qlv|apply qxt|apply qsb|apply qnt|apply qep|apply qnp|apply qeb|apply qnb|apply qx2|apply qx4|apply qcv|apply qlm|apply qfr|apply qto|apply qmx|apply qen|apply qsn|apply qx8|apply qx7|apply qx6|apply qx5|apply qx4|apply qx3|apply qx2|apply qx1|apply qx0)<;>(first|exact rfl|exact Ar.mk (by omega)|assumption|exact dct (by assumption)|exact dcf (by assumption)|exact dct (by omega)|exact dcf (by omega)|exact List.not_mem_nil|exact dc_length _|exact nc_length _|exact rc_length _ _ _|exact ec_length _|exact nm1 (by omega)|exact nm2 (by omega) (by omega)|exact dct rfl|exact dct (by decide)|exact dcf (by decide)|exact (Int.toNat_of_nonneg (by omega)).symm|exact dcu|exact lk1 (by assumption)|exact lk0 (by assumption)|exact lkb|fail))|fail) ?_)
  refine Der.tl (fun w7 hk7 _ _ => ?_)
  refine SG.setAll (old := rcl (Rn.new 0) nilS nilS) (l := rcl r v u) rfl rfl (by exact rho_of rfl) (by exact rho_of rfl) (hB56.kp0 hk7) rfl rfl hR6.one (fun w8 hk8 hB8 => ?_)
  obtain ⟨_, _, _, _, hres⟩ := rows47 hB8
  repeat (first|apply CG.seq|apply CG.region|apply SG.nil|apply NG.next|apply CG.skip|apply CG.block|apply CG.ret|apply CG.exit|apply CG.scope|apply NG.ret_then|apply NG.ret_block|apply NG.ret_scope|apply NG.exit_then|refine NG.exit_block rfl ?_|refine NG.exit_other rfl ?_|apply NG.exit_scope|apply NG.normal_block|apply NG.normal_scope|refine SG.val rfl rfl rfl rfl (by first|((first|apply qmv|apply qas|apply qlc|apply qla|apply qfa|apply qnc|apply qic|apply qix|apply qpk|apply qls|apply qei|apply qni|apply qed|apply qnd|apply qad|apply qln|apply qle|apply qgt|apply qge|apply qlk|apply qlv|apply qxt|apply qsb|apply qnt|apply qep|apply qnp|apply qeb|apply qnb|apply qx2|apply qx4|apply qcv|apply qlm|apply qfr|apply qto|apply qmx|apply qen|apply qsn|apply qx8|apply qx7|apply qx6|apply qx5|apply qx4|apply qx3|apply qx2|apply qx1|apply qx0)<;>(first|exact rfl|exact Ar.mk (by omega)|assumption|exact dct (by assumption)|exact dcf (by assumption)|exact dct (by omega)|exact dcf (by omega)|exact List.not_mem_nil|exact dc_length _|exact nc_length _|exact rc_length _ _ _|exact ec_length _|exact nm1 (by omega)|exact nm2 (by omega) (by omega)|exact dct rfl|exact dct (by decide)|exact dcf (by decide)|exact (Int.toNat_of_nonneg (by omega)).symm|exact dcu|exact lk1 (by assumption)|exact lk0 (by assumption)|exact lkb|fail))|fail) ?_)
  refine ret3 (Or.inl rfl) Try.results17 (by first | exact ResV.tmp rfl | exact ResV.agg rfl rfl (by assumption) (by first | exact dc_length _ | exact nc_length _ | exact rc_length _ _ _ | exact ec_length _ | rfl) | exact ResV.cell rfl rfl (by assumption)) (ResV.agg rfl rfl hres rfl) (by first | exact ResV.tmp rfl | exact ResV.agg rfl rfl (by assumption) (by first | exact dc_length _ | exact nc_length _ | exact rc_length _ _ _ | exact ec_length _ | rfl) | exact ResV.cell rfl rfl (by assumption)) ?_
  have hA8 : At Fr.none w w8 bt bm s := by
    obtain ⟨h1, _, due, h2, h3, _⟩ := hA6.kp0 hk7
    exact ⟨(hk1.trans h1).trans_new hk8 (new1 hb5), trivial, due, h2.kp1 (hB56.kp0 hk7) (by decide) (by decide) (by decide) hk8, fun z hz => by have := h3 z hz; have := hk1.size; omega, fun z hz h => h⟩
  exact ⟨bt, bm, s, r, v, u, rfl, hA8, (hR6.kp0 hk7).kpb (hB56.kp0 hk7) hk8, hrel, hno6⟩
set_option maxHeartbeats 32000000 in
theorem both_bad (w : World) (n : Int) (hn : n < 1 ∨ 16 < n) (a : Option Addr) (c m : Nat) : Calls Try.prog 17 #[.int .i64 n, .slice a m c] w (fun e w' => e = .returned (.tuple #[.pointer none, .agg (rcl (Rn.new 0) nilS nilS).toArray, .bool true]) ∧ Kp [] w w') := by
  refine enter2 Try.func17 rfl Try.ntmps17 rfl ?_
  repeat (first|apply CG.seq|apply CG.region|apply SG.nil|apply NG.next|apply CG.skip|apply CG.block|apply CG.ret|apply CG.exit|apply CG.scope|apply NG.ret_then|apply NG.ret_block|apply NG.ret_scope|apply NG.exit_then|refine NG.exit_block rfl ?_|refine NG.exit_other rfl ?_|apply NG.exit_scope|apply NG.normal_block|apply NG.normal_scope|refine SG.val rfl rfl rfl rfl (by first|((first|apply qmv|apply qas|apply qlc|apply qla|apply qfa|apply qnc|apply qic|apply qix|apply qpk|apply qls|apply qei|apply qni|apply qed|apply qnd|apply qad|apply qln|apply qle|apply qgt|apply qge|apply qlk|apply qlv|apply qxt|apply qsb|apply qnt|apply qep|apply qnp|apply qeb|apply qnb|apply qx2|apply qx4|apply qcv|apply qlm|apply qfr|apply qto|apply qmx|apply qen|apply qsn|apply qx8|apply qx7|apply qx6|apply qx5|apply qx4|apply qx3|apply qx2|apply qx1|apply qx0)<;>(first|exact rfl|exact Ar.mk (by omega)|assumption|exact dct (by assumption)|exact dcf (by assumption)|exact dct (by omega)|exact dcf (by omega)|exact List.not_mem_nil|exact dc_length _|exact nc_length _|exact rc_length _ _ _|exact ec_length _|exact nm1 (by omega)|exact nm2 (by omega) (by omega)|exact dct rfl|exact dct (by decide)|exact dcf (by decide)|exact (Int.toNat_of_nonneg (by omega)).symm|exact dcu|exact lk1 (by assumption)|exact lk0 (by assumption)|exact lkb|fail))|fail) ?_)
  refine SG.alloc rfl rfl rfl (fun b5 w1 hk1 hb5 hB5 => ?_)
  have hB5 : Blk w1 b5 (.cells (rcl (Rn.new 0) nilS nilS).toArray 47) := hB5
  repeat (first|apply CG.seq|apply CG.region|apply SG.nil|apply NG.next|apply CG.skip|apply CG.block|apply CG.ret|apply CG.exit|apply CG.scope|apply NG.ret_then|apply NG.ret_block|apply NG.ret_scope|apply NG.exit_then|refine NG.exit_block rfl ?_|refine NG.exit_other rfl ?_|apply NG.exit_scope|apply NG.normal_block|apply NG.normal_scope|refine SG.val rfl rfl rfl rfl (by first|((first|apply qmv|apply qas|apply qlc|apply qla|apply qfa|apply qnc|apply qic|apply qix|apply qpk|apply qls|apply qei|apply qni|apply qed|apply qnd|apply qad|apply qln|apply qle|apply qgt|apply qge|apply qlk|apply qlv|apply qxt|apply qsb|apply qnt|apply qep|apply qnp|apply qeb|apply qnb|apply qx2|apply qx4|apply qcv|apply qlm|apply qfr|apply qto|apply qmx|apply qen|apply qsn|apply qx8|apply qx7|apply qx6|apply qx5|apply qx4|apply qx3|apply qx2|apply qx1|apply qx0)<;>(first|exact rfl|exact Ar.mk (by omega)|assumption|exact dct (by assumption)|exact dcf (by assumption)|exact dct (by omega)|exact dcf (by omega)|exact List.not_mem_nil|exact dc_length _|exact nc_length _|exact rc_length _ _ _|exact ec_length _|exact nm1 (by omega)|exact nm2 (by omega) (by omega)|exact dct rfl|exact dct (by decide)|exact dcf (by decide)|exact (Int.toNat_of_nonneg (by omega)).symm|exact dcu|exact lk1 (by assumption)|exact lk0 (by assumption)|exact lkb|fail))|fail) ?_)
  refine SG.ret rfl rfl rfl (by repeat' (first | exact True.intro | exact rho_of rfl | refine And.intro ?_ ?_)) (netnew_bad w1 n hn) (fun w2 hk2 => ?_)
  repeat (first|apply CG.seq|apply CG.region|apply SG.nil|apply NG.next|apply CG.skip|apply CG.block|apply CG.ret|apply CG.exit|apply CG.scope|apply NG.ret_then|apply NG.ret_block|apply NG.ret_scope|apply NG.exit_then|refine NG.exit_block rfl ?_|refine NG.exit_other rfl ?_|apply NG.exit_scope|apply NG.normal_block|apply NG.normal_scope|refine SG.val rfl rfl rfl rfl (by first|((first|apply qmv|apply qas|apply qlc|apply qla|apply qfa|apply qnc|apply qic|apply qix|apply qpk|apply qls|apply qei|apply qni|apply qed|apply qnd|apply qad|apply qln|apply qle|apply qgt|apply qge|apply qlk|apply qlv|apply qxt|apply qsb|apply qnt|apply qep|apply qnp|apply qeb|apply qnb|apply qx2|apply qx4|apply qcv|apply qlm|apply qfr|apply qto|apply qmx|apply qen|apply qsn|apply qx8|apply qx7|apply qx6|apply qx5|apply qx4|apply qx3|apply qx2|apply qx1|apply qx0)<;>(first|exact rfl|exact Ar.mk (by omega)|assumption|exact dct (by assumption)|exact dcf (by assumption)|exact dct (by omega)|exact dcf (by omega)|exact List.not_mem_nil|exact dc_length _|exact nc_length _|exact rc_length _ _ _|exact ec_length _|exact nm1 (by omega)|exact nm2 (by omega) (by omega)|exact dct rfl|exact dct (by decide)|exact dcf (by decide)|exact (Int.toNat_of_nonneg (by omega)).symm|exact dcu|exact lk1 (by assumption)|exact lk0 (by assumption)|exact lkb|fail))|fail) ?_)
  refine SG.ret rfl rfl rfl (by repeat' (first | exact True.intro | exact rho_of rfl | refine And.intro ?_ ?_)) (rnew_bad w2 n hn) (fun w3 hk3 => ?_)
  repeat (first|apply CG.seq|apply CG.region|apply SG.nil|apply NG.next|apply CG.skip|apply CG.block|apply CG.ret|apply CG.exit|apply CG.scope|apply NG.ret_then|apply NG.ret_block|apply NG.ret_scope|apply NG.exit_then|refine NG.exit_block rfl ?_|refine NG.exit_other rfl ?_|apply NG.exit_scope|apply NG.normal_block|apply NG.normal_scope|refine SG.val rfl rfl rfl rfl (by first|((first|apply qmv|apply qas|apply qlc|apply qla|apply qfa|apply qnc|apply qic|apply qix|apply qpk|apply qls|apply qei|apply qni|apply qed|apply qnd|apply qad|apply qln|apply qle|apply qgt|apply qge|apply qlk|apply qlv|apply qxt|apply qsb|apply qnt|apply qep|apply qnp|apply qeb|apply qnb|apply qx2|apply qx4|apply qcv|apply qlm|apply qfr|apply qto|apply qmx|apply qen|apply qsn|apply qx8|apply qx7|apply qx6|apply qx5|apply qx4|apply qx3|apply qx2|apply qx1|apply qx0)<;>(first|exact rfl|exact Ar.mk (by omega)|assumption|exact dct (by assumption)|exact dcf (by assumption)|exact dct (by omega)|exact dcf (by omega)|exact List.not_mem_nil|exact dc_length _|exact nc_length _|exact rc_length _ _ _|exact ec_length _|exact nm1 (by omega)|exact nm2 (by omega) (by omega)|exact dct rfl|exact dct (by decide)|exact dcf (by decide)|exact (Int.toNat_of_nonneg (by omega)).symm|exact dcu|exact lk1 (by assumption)|exact lk0 (by assumption)|exact lkb|fail))|fail) ?_)
  refine SG.alloc rfl rfl rfl (fun b9 w4 hk4 hb9 hB4 => ?_)
  refine SG.setAll (old := rcl (Rn.new 0) nilS nilS) (l := rcl (Rn.new 0) nilS nilS) rfl rfl (by exact rho_of rfl) (by exact rho_of rfl) hB4 rfl rfl rfl (fun w5 hk5 hB9 => ?_)
  have hk35 : Kp [] w3 w5 := hk4.trans_new hk5 (new1 hb9)
  have hB55 := ((hB5.kp0 hk2).kp0 hk3).kp0 hk35
  obtain ⟨_, _, _, _, q4⟩ := rows47 hB9
  repeat (first | first|apply CG.seq|apply CG.region|apply SG.nil|apply NG.next|apply CG.skip|apply CG.block|apply CG.ret|apply CG.exit|apply CG.scope|apply NG.ret_then|apply NG.ret_block|apply NG.ret_scope|apply NG.exit_then|refine NG.exit_block rfl ?_|refine NG.exit_other rfl ?_|apply NG.exit_scope|apply NG.normal_block|apply NG.normal_scope|refine SG.val rfl rfl rfl rfl (by first|((first|apply qmv|apply qas|apply qlc|apply qla|apply qfa|apply qnc|apply qic|apply qix|apply qpk|apply qls|apply qei|apply qni|apply qed|apply qnd|apply qad|apply qln|apply qle|apply qgt|apply qge|apply qlk|apply qlv|apply qxt|apply qsb|apply qnt|apply qep|apply qnp|apply qeb|apply qnb|apply qx2|apply qx4|apply qcv|apply qlm|apply qfr|apply qto|apply qmx|apply qen|apply qsn|apply qx8|apply qx7|apply qx6|apply qx5|apply qx4|apply qx3|apply qx2|apply qx1|apply qx0)<;>(first|exact rfl|exact Ar.mk (by omega)|assumption|exact dct (by assumption)|exact dcf (by assumption)|exact dct (by omega)|exact dcf (by omega)|exact List.not_mem_nil|exact dc_length _|exact nc_length _|exact rc_length _ _ _|exact ec_length _|exact nm1 (by omega)|exact nm2 (by omega) (by omega)|exact dct rfl|exact dct (by decide)|exact dcf (by decide)|exact (Int.toNat_of_nonneg (by omega)).symm|exact dcu|exact lk1 (by assumption)|exact lk0 (by assumption)|exact lkb|fail))|fail) ?_ | refine SG.skip rfl rfl ?_)
  refine CG.cond_f rfl (by exact rho_of rfl) rfl ?_
  repeat (first|apply CG.seq|apply CG.region|apply SG.nil|apply NG.next|apply CG.skip|apply CG.block|apply CG.ret|apply CG.exit|apply CG.scope|apply NG.ret_then|apply NG.ret_block|apply NG.ret_scope|apply NG.exit_then|refine NG.exit_block rfl ?_|refine NG.exit_other rfl ?_|apply NG.exit_scope|apply NG.normal_block|apply NG.normal_scope|refine SG.val rfl rfl rfl rfl (by first|((first|apply qmv|apply qas|apply qlc|apply qla|apply qfa|apply qnc|apply qic|apply qix|apply qpk|apply qls|apply qei|apply qni|apply qed|apply qnd|apply qad|apply qln|apply qle|apply qgt|apply qge|apply qlk|apply qlv|apply qxt|apply qsb|apply qnt|apply qep|apply qnp|apply qeb|apply qnb|apply qx2|apply qx4|apply qcv|apply qlm|apply qfr|apply qto|apply qmx|apply qen|apply qsn|apply qx8|apply qx7|apply qx6|apply qx5|apply qx4|apply qx3|apply qx2|apply qx1|apply qx0)<;>(first|exact rfl|exact Ar.mk (by omega)|assumption|exact dct (by assumption)|exact dcf (by assumption)|exact dct (by omega)|exact dcf (by omega)|exact List.not_mem_nil|exact dc_length _|exact nc_length _|exact rc_length _ _ _|exact ec_length _|exact nm1 (by omega)|exact nm2 (by omega) (by omega)|exact dct rfl|exact dct (by decide)|exact dcf (by decide)|exact (Int.toNat_of_nonneg (by omega)).symm|exact dcu|exact lk1 (by assumption)|exact lk0 (by assumption)|exact lkb|fail))|fail) ?_)
  refine CG.loop (X := Unit) (fun q => [(0, .int .i64 n), (1, .slice a m c), (5, .pointer (some ⟨b5, 0, none⟩)), (7, .pointer none), (9, .pointer (some ⟨b9, 0, none⟩)), (10, .bool false), (11, .int .i64 0)]) (fun q w' => w' = w5) (fun _ => 0) () rfl (by (repeat' (first | exact True.intro | exact rfl | refine And.intro ?_ ?_))) ?_
  rintro _ w6 rfl
  have hcase : (0 : Int) < (m : Int) ∨ ¬ (0 : Int) < (m : Int) := by omega
  rcases hcase with g1 | g1
  all_goals
    repeat (first | first|apply CG.seq|apply CG.region|apply SG.nil|apply NG.next|apply CG.skip|apply CG.block|apply CG.ret|apply CG.exit|apply CG.scope|apply NG.ret_then|apply NG.ret_block|apply NG.ret_scope|apply NG.exit_then|refine NG.exit_block rfl ?_|refine NG.exit_other rfl ?_|apply NG.exit_scope|apply NG.normal_block|apply NG.normal_scope|refine SG.val rfl rfl rfl rfl (by first|((first|apply qmv|apply qas|apply qlc|apply qla|apply qfa|apply qnc|apply qic|apply qix|apply qpk|apply qls|apply qei|apply qni|apply qed|apply qnd|apply qad|apply qln|apply qle|apply qgt|apply qge|apply qlk|apply qlv|apply qxt|apply qsb|apply qnt|apply qep|apply qnp|apply qeb|apply qnb|apply qx2|apply qx4|apply qcv|apply qlm|apply qfr|apply qto|apply qmx|apply qen|apply qsn|apply qx8|apply qx7|apply qx6|apply qx5|apply qx4|apply qx3|apply qx2|apply qx1|apply qx0)<;>(first|exact rfl|exact Ar.mk (by omega)|assumption|exact dct (by assumption)|exact dcf (by assumption)|exact dct (by omega)|exact dcf (by omega)|exact List.not_mem_nil|exact dc_length _|exact nc_length _|exact rc_length _ _ _|exact ec_length _|exact nm1 (by omega)|exact nm2 (by omega) (by omega)|exact dct rfl|exact dct (by decide)|exact dcf (by decide)|exact (Int.toNat_of_nonneg (by omega)).symm|exact dcu|exact lk1 (by assumption)|exact lk0 (by assumption)|exact lkb|fail))|fail) ?_ | refine SG.skip rfl rfl ?_)
    refine CG.cond_f rfl (by exact rho_of rfl) rfl ?_
    repeat (first|apply CG.seq|apply CG.region|apply SG.nil|apply NG.next|apply CG.skip|apply CG.block|apply CG.ret|apply CG.exit|apply CG.scope|apply NG.ret_then|apply NG.ret_block|apply NG.ret_scope|apply NG.exit_then|refine NG.exit_block rfl ?_|refine NG.exit_other rfl ?_|apply NG.exit_scope|apply NG.normal_block|apply NG.normal_scope|refine SG.val rfl rfl rfl rfl (by first|((first|apply qmv|apply qas|apply qlc|apply qla|apply qfa|apply qnc|apply qic|apply qix|apply qpk|apply qls|apply qei|apply qni|apply qed|apply qnd|apply qad|apply qln|apply qle|apply qgt|apply qge|apply qlk|apply qlv|apply qxt|apply qsb|apply qnt|apply qep|apply qnp|apply qeb|apply qnb|apply qx2|apply qx4|apply qcv|apply qlm|apply qfr|apply qto|apply qmx|apply qen|apply qsn|apply qx8|apply qx7|apply qx6|apply qx5|apply qx4|apply qx3|apply qx2|apply qx1|apply qx0)<;>(first|exact rfl|exact Ar.mk (by omega)|assumption|exact dct (by assumption)|exact dcf (by assumption)|exact dct (by omega)|exact dcf (by omega)|exact List.not_mem_nil|exact dc_length _|exact nc_length _|exact rc_length _ _ _|exact ec_length _|exact nm1 (by omega)|exact nm2 (by omega) (by omega)|exact dct rfl|exact dct (by decide)|exact dcf (by decide)|exact (Int.toNat_of_nonneg (by omega)).symm|exact dcu|exact lk1 (by assumption)|exact lk0 (by assumption)|exact lkb|fail))|fail) ?_)
    refine CG.tail mixed 3 [0, 1, 2] (by kernel_rfl) ?_
    repeat (refine Der.val rfl rfl rfl (by first|((first|apply qmv|apply qas|apply qlc|apply qla|apply qfa|apply qnc|apply qic|apply qix|apply qpk|apply qls|apply qei|apply qni|apply qed|apply qnd|apply qad|apply qln|apply qle|apply qgt|apply qge|apply qlk|apply qlv|apply qxt|apply qsb|apply qnt|apply qep|apply qnp|apply qeb|apply qnb|apply qx2|apply qx4|apply qcv|apply qlm|apply qfr|apply qto|apply qmx|apply qen|apply qsn|apply qx8|apply qx7|apply qx6|apply qx5|apply qx4|apply qx3|apply qx2|apply qx1|apply qx0)<;>(first|exact rfl|exact Ar.mk (by omega)|assumption|exact dct (by assumption)|exact dcf (by assumption)|exact dct (by omega)|exact dcf (by omega)|exact List.not_mem_nil|exact dc_length _|exact nc_length _|exact rc_length _ _ _|exact ec_length _|exact nm1 (by omega)|exact nm2 (by omega) (by omega)|exact dct rfl|exact dct (by decide)|exact dcf (by decide)|exact (Int.toNat_of_nonneg (by omega)).symm|exact dcu|exact lk1 (by assumption)|exact lk0 (by assumption)|exact lkb|fail))|fail) ?_)
    refine Der.tl (fun w7 hk7 _ _ => ?_)
    refine SG.setAll (old := rcl (Rn.new 0) nilS nilS) (l := rcl (Rn.new 0) nilS nilS) rfl rfl (by exact rho_of rfl) (by exact rho_of rfl) (hB55.kp0 hk7) rfl rfl rfl (fun w8 hk8 hB8 => ?_)
    obtain ⟨_, _, _, _, hres⟩ := rows47 hB8
    repeat (first|apply CG.seq|apply CG.region|apply SG.nil|apply NG.next|apply CG.skip|apply CG.block|apply CG.ret|apply CG.exit|apply CG.scope|apply NG.ret_then|apply NG.ret_block|apply NG.ret_scope|apply NG.exit_then|refine NG.exit_block rfl ?_|refine NG.exit_other rfl ?_|apply NG.exit_scope|apply NG.normal_block|apply NG.normal_scope|refine SG.val rfl rfl rfl rfl (by first|((first|apply qmv|apply qas|apply qlc|apply qla|apply qfa|apply qnc|apply qic|apply qix|apply qpk|apply qls|apply qei|apply qni|apply qed|apply qnd|apply qad|apply qln|apply qle|apply qgt|apply qge|apply qlk|apply qlv|apply qxt|apply qsb|apply qnt|apply qep|apply qnp|apply qeb|apply qnb|apply qx2|apply qx4|apply qcv|apply qlm|apply qfr|apply qto|apply qmx|apply qen|apply qsn|apply qx8|apply qx7|apply qx6|apply qx5|apply qx4|apply qx3|apply qx2|apply qx1|apply qx0)<;>(first|exact rfl|exact Ar.mk (by omega)|assumption|exact dct (by assumption)|exact dcf (by assumption)|exact dct (by omega)|exact dcf (by omega)|exact List.not_mem_nil|exact dc_length _|exact nc_length _|exact rc_length _ _ _|exact ec_length _|exact nm1 (by omega)|exact nm2 (by omega) (by omega)|exact dct rfl|exact dct (by decide)|exact dcf (by decide)|exact (Int.toNat_of_nonneg (by omega)).symm|exact dcu|exact lk1 (by assumption)|exact lk0 (by assumption)|exact lkb|fail))|fail) ?_)
    refine ret3 (Or.inl rfl) Try.results17 (by first | exact ResV.tmp rfl | exact ResV.agg rfl rfl (by assumption) (by first | exact dc_length _ | exact nc_length _ | exact rc_length _ _ _ | exact ec_length _ | rfl) | exact ResV.cell rfl rfl (by assumption)) (ResV.agg rfl rfl hres rfl) (by first | exact ResV.tmp rfl | exact ResV.agg rfl rfl (by assumption) (by first | exact dc_length _ | exact nc_length _ | exact rc_length _ _ _ | exact ec_length _ | rfl) | exact ResV.cell rfl rfl (by assumption)) ?_
    exact ⟨rfl, ((((hk1.trans hk2).trans hk3).trans hk35).trans hk7).trans_new hk8 (new1 hb5)⟩
end Go.Proofs.Ytfelaicoedlejaa
/-
  slices.SortFunc, laid at this seat; printed by a program.
-/
namespace Go.Proofs.Ytfelaicoedlejaa
open Go.Proofs Go.Shelf
set_option linter.unusedVariables false

def sortRen : Go.Shelf.Ren := ⟨fun | 6 => 40 | 15 => 46 | 14 => 45 | 28 => 56 | 29 => 57 | 20 => 48 | 21 => 49 | 22 => 50 | 23 => 51 | 24 => 52 | 25 => 53 | 26 => 54 | 27 => 55 | 46 => 58 | 47 => 59 | 48 => 60 | 49 => 61 | 50 => 62 | 57 => 63 | n => n, fun | 22 => 78 | 24 => 77 | 25 => 95 | 3 => 3 | 39 => 103 | 0 => 0 | 53 => 113 | 55 => 115 | 4 => 4 | 46 => 106 | 45 => 105 | 50 => 110 | 5 => 5 | 9 => 9 | 66 => 116 | 70 => 120 | 76 => 122 | 77 => 123 | n => n, fun n => n⟩
theorem sortL : SlLaysF0.n6 Try.prog sortRen where
  mixed := by kernel_rfl
  f6 := ⟨"slices.SortFunc[[]baize/net.parcel,baize/net.parcel]", by decide, Try.func40.trans (congrArg some (by kernel_rfl))⟩
  f14 := ⟨"slices.pdqsortCmpFunc[baize/net.parcel]", by decide, Try.func45.trans (congrArg some (by kernel_rfl))⟩
  f15 := Try.func46.trans (congrArg some (by kernel_rfl))
  f20 := ⟨"slices.insertionSortCmpFunc[baize/net.parcel]", by decide, Try.func48.trans (congrArg some (by kernel_rfl))⟩
  f21 := ⟨"slices.heapSortCmpFunc[baize/net.parcel]", by decide, Try.func49.trans (congrArg some (by kernel_rfl))⟩
  f22 := ⟨"slices.breakPatternsCmpFunc[baize/net.parcel]", by decide, Try.func50.trans (congrArg some (by kernel_rfl))⟩
  f23 := ⟨"slices.choosePivotCmpFunc[baize/net.parcel]", by decide, Try.func51.trans (congrArg some (by kernel_rfl))⟩
  f24 := ⟨"slices.reverseRangeCmpFunc[baize/net.parcel]", by decide, Try.func52.trans (congrArg some (by kernel_rfl))⟩
  f25 := ⟨"slices.partialInsertionSortCmpFunc[baize/net.parcel]", by decide, Try.func53.trans (congrArg some (by kernel_rfl))⟩
  f26 := ⟨"slices.partitionEqualCmpFunc[baize/net.parcel]", by decide, Try.func54.trans (congrArg some (by kernel_rfl))⟩
  f27 := ⟨"slices.partitionCmpFunc[baize/net.parcel]", by decide, Try.func55.trans (congrArg some (by kernel_rfl))⟩
  f28 := Try.func56.trans (congrArg some (by kernel_rfl))
  f29 := Try.func57.trans (congrArg some (by kernel_rfl))
  f46 := ⟨"slices.siftDownCmpFunc[baize/net.parcel]", by decide, Try.func58.trans (congrArg some (by kernel_rfl))⟩
  f47 := Try.func59.trans (congrArg some (by kernel_rfl))
  f48 := Try.func60.trans (congrArg some (by kernel_rfl))
  f49 := ⟨"slices.medianAdjacentCmpFunc[baize/net.parcel]", by decide, Try.func61.trans (congrArg some (by kernel_rfl))⟩
  f50 := ⟨"slices.medianCmpFunc[baize/net.parcel]", by decide, Try.func62.trans (congrArg some (by kernel_rfl))⟩
  f57 := ⟨"slices.order2CmpFunc[baize/net.parcel]", by decide, Try.func63.trans (congrArg some (by kernel_rfl))⟩
  t0 := Try.underlying0
  a0 := Try.isAgg0
  z0 := Try.sizeOf0
  v0 := Try.zeroValue0
  t3 := Try.underlying3
  a3 := Try.isAgg3
  z3 := Try.sizeOf3
  v3 := Try.zeroValue3
  t4 := Try.underlying4
  a4 := Try.isAgg4
  z4 := Try.sizeOf4
  v4 := Try.zeroValue4
  t5 := Try.underlying5
  a5 := Try.isAgg5
  z5 := Try.sizeOf5
  v5 := Try.zeroValue5
  t9 := Try.underlying9
  a9 := Try.isAgg9
  z9 := Try.sizeOf9
  v9 := Try.zeroValue9
  t22 := Try.underlying78
  a22 := Try.isAgg78
  z22 := Try.sizeOf78
  v22 := Try.zeroValue78
  t25 := Try.underlying95
  a25 := Try.isAgg95
  z25 := Try.sizeOf95
  v25 := Try.zeroValue95
  t39 := Try.underlying103
  a39 := Try.isAgg103
  z39 := Try.sizeOf103
  v39 := Try.zeroValue103
  t45 := Try.underlying105
  a45 := Try.isAgg105
  z45 := Try.sizeOf105
  v45 := Try.zeroValue105
  t46 := Try.underlying106
  a46 := Try.isAgg106
  z46 := Try.sizeOf106
  v46 := Try.zeroValue106
  t50 := Try.underlying110
  a50 := Try.isAgg110
  z50 := Try.sizeOf110
  v50 := Try.zeroValue110
  t53 := Try.underlying113
  a53 := Try.isAgg113
  z53 := Try.sizeOf113
  v53 := Try.zeroValue113
  t55 := Try.underlying115
  a55 := Try.isAgg115
  z55 := Try.sizeOf115
  v55 := Try.zeroValue115
  t66 := Try.underlying116
  a66 := Try.isAgg116
  z66 := Try.sizeOf116
  v66 := Try.zeroValue116
  t70 := Try.underlying120
  a70 := Try.isAgg120
  z70 := Try.sizeOf120
  v70 := Try.zeroValue120
  t76 := Try.underlying122
  a76 := Try.isAgg122
  z76 := Try.sizeOf122
  v76 := Try.zeroValue122
  t77 := Try.underlying123
  a77 := Try.isAgg123
  z77 := Try.sizeOf123
  v77 := Try.zeroValue123
end Go.Proofs.Ytfelaicoedlejaa
/-
  slices.SortFunc on an owned row, by the kit's contract.
-/
namespace Go.Proofs.Ytfelaicoedlejaa
open Go.Proofs Go.Shelf Go.Sort
set_option linter.unusedVariables false

theorem Kp.grown {w w' : World} (h : Kp [] w w') : ∃ q os', w' = grow (w.drewN q) os' := by
  refine ⟨w'.drawn - w.drawn, w'.heap.extract w.heap.size w'.heap.size, ?_⟩
  obtain ⟨h1, h2, h3, h4, h5, h6, h7⟩ := h
  obtain ⟨hp, tp, dr, os, out⟩ := w
  obtain ⟨hp', tp', dr', os', out'⟩ := w'
  simp only at h1 h2 h3 h4 h5 h7
  subst h3
  subst h4
  subst h5
  have e1 : hp' = hp ++ hp'.extract hp.size hp'.size := by
    apply Array.ext_getElem?
    intro i
    rw [Array.getElem?_append]
    by_cases hi : i < hp.size
    · rw [if_pos hi]
      exact h2 i hi (by simp)
    · rw [if_neg hi, Array.getElem?_extract]
      by_cases hi2 : i < hp'.size
      · rw [if_pos (by omega), show hp.size + (i - hp.size) = i by omega]
      · rw [if_neg (by omega), Array.getElem?_eq_none (by omega)]
  have e2 : dr' = dr + (dr' - dr) := by omega
  simp only [grow, World.drewN, World.mk.injEq, true_and, and_true]
  exact ⟨e1, e2⟩
theorem Kp.grow (w : World) (os : Array Obj) : Kp [] w (grow w os) := by
  refine ⟨by simp, fun b hb _ => ?_, rfl, rfl, rfl, fun a ha => ?_, Nat.le_refl _⟩
  · show (w.heap ++ os)[b]? = _
    rw [Array.getElem?_append, if_pos hb]
  · refine frozen_same ?_
    show (w.heap ++ os)[a.block]? = _
    rw [Array.getElem?_append, if_pos ha]
theorem Kp.ahead (w : World) (n : Nat) : Kp [] w (Go.Sort.ahead w n) := ⟨Nat.le_refl _, fun _ _ _ => rfl, rfl, rfl, rfl, fun _ _ => rfl, Nat.le_add_right _ _⟩
theorem mapBlock_set {w : World} {g : Nat} {cs : Array Value} {T : TypeId} {fz : Nat × Nat} (h : Blk w g (.cells cs T fz)) (f : Array Value → Array Value) : mapBlock w g f = { w with heap := w.heap.setIfInBounds g (.cells (f cs) T fz) } := by
  unfold mapBlock
  congr 1
  apply Array.ext_getElem?
  intro i
  rw [Array.getElem?_modify, Array.getElem?_setIfInBounds]
  by_cases e : g = i
  · subst e
    rw [if_pos rfl, if_pos rfl, if_pos h.lt]
    have h' : w.heap[g]? = some (.cells cs T fz) := h
    rw [h']
    rfl
  · rw [if_neg e, if_neg e]

section
variable {α : Type} [Inhabited α] {enc : α → List Value} {k : Nat}
theorem flt_get (hk0 : 0 < k) (hk : ∀ x, (enc x).length = k) : ∀ (l : List α) (t : Nat), t < l.length * k → (flt enc l)[t]? = some ((enc l.toArray[t / k]!)[t % k]!) := by
  intro l
  induction l with
  | nil => intro t h; simp at h
  | cons x l ih =>
    intro t h
    have e : flt enc (x :: l) = enc x ++ flt enc l := by simp [flt]
    rw [e]
    by_cases ht : t < k
    · rw [List.getElem?_append_left (by rw [hk]; exact ht), Nat.div_eq_of_lt ht, Nat.mod_eq_of_lt ht]
      have : t < (enc x).length := by rw [hk]; exact ht
      simp [this]
    · rw [List.getElem?_append_right (by rw [hk]; omega), hk]
      have h' : t - k < l.length * k := by
        simp only [List.length_cons, Nat.add_mul, Nat.one_mul] at h
        omega
      rw [ih (t - k) h']
      have d1 : t / k = (t - k) / k + 1 := by
        rw [Nat.div_eq_sub_div hk0 (by omega)]
      have d2 : t % k = (t - k) % k := by rw [Nat.mod_eq_sub_mod (by omega)]
      rw [d1, d2]
      simp
theorem flatK_toList (hk0 : 0 < k) (hk : ∀ x, (enc x).length = k) (l : List α) : (flatK enc k l.toArray).toList = flt enc l := by
  apply List.ext_getElem?
  intro t
  by_cases ht : t < l.length * k
  · rw [flt_get hk0 hk l t ht]
    have hs : t < (flatK enc k l.toArray).size := by simpa using ht
    have := get_flatK enc k l.toArray t (by simpa using ht)
    rw [getElem!_pos _ t hs] at this
    rw [Array.getElem?_toList, Array.getElem?_eq_getElem hs, this]
  · rw [List.getElem?_eq_none (by simpa using Nat.le_of_not_lt ht), List.getElem?_eq_none (by rw [flt_length hk]; omega)]

theorem sort_own {P : Program} {ρ : Ren} (L : SlLaysF0.n6 P ρ) (aE : ∀ w, (isAgg (ρ.t 24)).run P w = .ok true w) (zE : ∀ w, (Go.sizeOf (ρ.t 24)).run P w = .ok k w) (hk0 : 0 < k) (hk : ∀ x, (enc x).length = k) (hone : ∀ x, allOne (enc x) = true)
    (cf : α → α → Int) (hO : SWO (ltOf cf)) (g : Nat) (eg : ∀ args w, (callFunc g args).run P w = .ok (.enter g args) w)
    (hcmp : ∀ x y W, Calls P g #[.agg (enc x).toArray, .agg (enc y).toArray] W (fun e w' => e = .returned (.int .i64 (cf x y)) ∧ Kp [] W w'))
    {w : World} {base : Nat} {T : TypeId} {v : Value} {l : List α} (ho : w.ownsRow base T k v l.length (flt enc l)) (hsz : l.length < 4611686018427387904) :
    Calls P (ρ.f 6) #[v, .func (.func g) #[] #[]] w (fun e w' => e = .returned (.tuple #[]) ∧ Kp (ownB v) w w' ∧ ∃ l', l'.Perm l ∧ l'.Pairwise (fun x y => ltOf cf y x = false) ∧ w'.ownsRow base T k v l.length (flt enc l')) := by
  have h1 : ∀ x, ∀ v ∈ enc x, v.oneCell' = true := fun x u hu => by rw [one_iff]; exact List.all_eq_true.1 (hone x) u hu
  have ho' := ho
  obtain ⟨hlen, ⟨rfl, h0⟩ | ⟨b, cap, cur, rfl, hb, hh, hc1, hc2, hc3, hc4⟩⟩ := ho
  · have hl : l = [] := by cases l with
      | nil => rfl
      | cons x l => simp at h0
    subst hl
    exact (AnyF.slices_SortFunc_none L none 0 _ w).mono (fun e w' ⟨he, hw⟩ => ⟨he, by rw [hw]; exact Kp.refl _ _, [], List.Perm.refl _, List.Pairwise.nil, by rw [hw]; exact ho'⟩)
  have hB : Blk w b (.cells cur T (0, 0)) := hh
  have hcur : ∀ t, t < l.length * k → cur[t]? = some ((enc l.toArray[t / k]!)[t % k]!) := fun t ht => by
    rw [← flt_get hk0 hk l t ht, ← hc4, List.getElem?_take_of_lt ht, Array.getElem?_toList]
  have hcell : ∀ (d : Array α), True := fun _ => trivial
  have hH : HoldsK enc k w b 0 l.toArray := fun j hj => by
    have hj' : j < l.length * k := by simpa using hj
    refine ⟨?_, frozen_soft (o := .cells cur T (0, 0)) hh rfl⟩
    unfold World.cell?
    simp only [hh, Nat.zero_add]
    rw [get_flatK enc k l.toArray j (by simpa using hj')]
    simpa using hcur j hj'
  have hcl : CmpLays P g #[] enc k cf b 0 l.toArray.size w := fun m os dk hdk x y => (hcmp x y _).mono (fun e w' ⟨he, hw⟩ => ⟨he, hw.grown⟩)
  have hc := AnyQ.slices_SortFunc L k aE zE enc hk h1 cf hO g #[] b 0 cap l.toArray w eg hcl hH hB.lt (by simpa using hsz)
  refine (show Calls P (ρ.f 6) #[.slice (some ⟨b, 0, none⟩) l.length cap, .func (.func g) #[] #[]] w _ from hc).mono (fun e w' hh' => ?_)
  obtain ⟨he, d', n, os, ⟨hp1, hp2, hp3⟩, hs, rfl⟩ := hh'
  have hd' : d'.size = l.length := by simpa using hp1
  have hperm : d'.toList.Perm l := by
    have e1 : (d'.extract 0 l.toArray.size).toList = d'.toList := by
      have : l.toArray.size = d'.size := hp1.symm
      rw [this]
      simp
    have e2 : (l.toArray.extract 0 l.toArray.size).toList = l := by simp
    rw [e1, e2] at hp3
    exact hp3
  have hBa : Blk (Go.Sort.ahead w n) b (.cells cur T (0, 0)) := hh
  have hset : putRowK enc k (Go.Sort.ahead w n) b 0 d' = { Go.Sort.ahead w n with heap := (Go.Sort.ahead w n).heap.setIfInBounds b (.cells (putCells id 0 (flatK enc k d') cur) T (0, 0)) } := mapBlock_set hBa _
  have hk1 : Kp [b] (Go.Sort.ahead w n) (putRowK enc k (Go.Sort.ahead w n) b 0 d') := by
    rw [hset]
    exact Kp.set _ hBa rfl rfl
  refine ⟨he, ?_, d'.toList, hperm, ?_, ?_⟩
  · show Kp [b] w _
    exact ((Kp.ahead w n).any.trans hk1).trans (Kp.grow _ _).any
  · rw [List.pairwise_iff_getElem]
    intro i j hi hj hij
    have := hs i j (Nat.zero_le _) hij (by simp at hj ⊢; omega)
    rw [getElem!_pos d' i (by simpa using hi), getElem!_pos d' j (by simpa using hj)] at this
    simpa using this
  · have hlist : d'.toList.length = l.length := by simpa using hd'
    refine ⟨by rw [flt_length hk, hlist], Or.inr ⟨b, cap, putCells id 0 (flatK enc k d') cur, rfl, hb, ?_, hc1, hc2, by simp [putCells, hc3], ?_⟩⟩
    · have : Blk (putRowK enc k (Go.Sort.ahead w n) b 0 d') b (.cells (putCells id 0 (flatK enc k d') cur) T (0, 0)) := by
        rw [hset]
        show ((Go.Sort.ahead w n).heap.setIfInBounds b _)[b]? = _
        rw [Array.getElem?_setIfInBounds, if_pos rfl, if_pos hBa.lt]
      exact this.kp0 (Kp.grow _ _)
    · have hcs : l.length * k ≤ cur.size := by rw [hc3]; exact Nat.mul_le_mul_right k hc1
      rw [← flatK_toList hk0 hk d'.toList]
      apply List.ext_getElem?
      intro t
      by_cases ht : t < l.length * k
      · have htc : t < cur.size := by omega
        have htf : t < (flatK enc k d').size := by simp [hd']; exact ht
        rw [List.getElem?_take_of_lt ht, Array.getElem?_toList, Array.getElem?_toList]
        simp only [putCells, Array.getElem?_mapIdx, Array.getElem?_eq_getElem htc, Option.map_some, Nat.zero_le, true_and, Nat.zero_add, Nat.sub_zero, id_eq]
        rw [if_pos htf, getElem!_pos _ t htf, Array.toArray_toList, Array.getElem?_eq_getElem htf]
      · rw [List.getElem?_eq_none (by simp; omega), List.getElem?_eq_none (by simp [hd']; omega)]
end
end Go.Proofs.Ytfelaicoedlejaa
/-
  Parcels compared and sorted by the order in which they were sent; bytes compared.
-/
namespace Go.Proofs.Ytfelaicoedlejaa
open Go.Proofs Go.Shelf Go.Sort
set_option linter.unusedVariables false

def cmpI (a b : Int) : Int := if a < b then -1 else if b < a then 1 else 0
def cfP (p q : Pc) : Int := cmpI p.sent q.sent
theorem cfP_lt (p q : Pc) : ltOf cfP p q = decide (p.sent < q.sent) := by
  unfold ltOf cfP cmpI
  by_cases h1 : (p.sent : Int) < (q.sent : Int)
  · rw [if_pos h1]
    rw [decide_eq_true (show p.sent < q.sent by omega)]
    rfl
  · rw [if_neg h1, decide_eq_false (show ¬ p.sent < q.sent by omega)]
    by_cases h2 : (q.sent : Int) < (p.sent : Int)
    · rw [if_pos h2]; rfl
    · rw [if_neg h2]; rfl
theorem cfP_swo : SWO (ltOf cfP) where
  irrefl x := by rw [cfP_lt]; simp
  trans x y z h1 h2 := by rw [cfP_lt] at *; simp at *; omega
  ntrans x y z h1 h2 := by rw [cfP_lt] at *; simp at *; omega
instance : Inhabited Pc := ⟨⟨⟨0, 0, [], 0⟩, none, 0, 0⟩⟩

attribute [local irreducible] CG NG SG Vals Der Row Blk MapIs IterAt DerX
set_option maxHeartbeats 8000000 in
theorem nan_spec (w : World) (a : Int) : Ret Try.prog 47 #[.int .i64 a] w (.bool false) := by
  refine enter1 Try.func47 rfl Try.ntmps47 rfl ?_
  have g1 : a = a := rfl
  repeat (first|apply CG.seq|apply CG.region|apply SG.nil|apply NG.next|apply CG.skip|apply CG.block|apply CG.ret|apply CG.exit|apply CG.scope|apply NG.ret_then|apply NG.ret_block|apply NG.ret_scope|apply NG.exit_then|refine NG.exit_block rfl ?_|refine NG.exit_other rfl ?_|apply NG.exit_scope|apply NG.normal_block|apply NG.normal_scope|refine SG.val rfl rfl rfl rfl (by first|((first|apply qmv|apply qas|apply qlc|apply qla|apply qfa|apply qnc|apply qic|apply qix|apply qpk|apply qls|apply qei|apply qni|apply qed|apply qnd|apply qad|apply qln|apply qle|apply qgt|apply qge|apply qlk|apply qlv|apply qxt|apply qsb|apply qnt|apply qep|apply qnp|apply qeb|apply qnb|apply qcv|apply qlm|apply qfr|apply qto|apply qmx|apply qen|apply qsn)<;>(first|exact rfl|exact Ar.mk (by omega)|assumption|exact dct (by assumption)|exact dcf (by assumption)|exact dct (by omega)|exact dcf (by omega)|exact List.not_mem_nil|exact dc_length _|exact nc_length _|exact rc_length _ _ _|exact ec_length _|exact nm1 (by omega)|exact nm2 (by omega) (by omega)|exact dct rfl|exact dct (by decide)|exact dcf (by decide)|exact (Int.toNat_of_nonneg (by omega)).symm|exact dcu|exact lk1 (by assumption)|exact lk0 (by assumption)|exact lkb|fail))|fail) ?_)
  refine ret1 (Or.inl rfl) Try.results47 (by first | exact ResV.tmp rfl | exact ResV.agg rfl rfl (by assumption) (by first | exact dc_length _ | exact nc_length _ | exact rc_length _ _ _ | exact ec_length _ | rfl) | exact ResV.cell rfl rfl (by assumption)) ?_
  exact ⟨rfl, Kp.refl _ _⟩
set_option maxHeartbeats 8000000 in
theorem cmpare_spec (w : World) (a b : Int) : Ret Try.prog 42 #[.int .i64 a, .int .i64 b] w (.int .i64 (cmpI a b)) := by
  refine enter2 Try.func42 rfl Try.ntmps42 rfl ?_
  repeat (first|apply CG.seq|apply CG.region|apply SG.nil|apply NG.next|apply CG.skip|apply CG.block|apply CG.ret|apply CG.exit|apply CG.scope|apply NG.ret_then|apply NG.ret_block|apply NG.ret_scope|apply NG.exit_then|refine NG.exit_block rfl ?_|refine NG.exit_other rfl ?_|apply NG.exit_scope|apply NG.normal_block|apply NG.normal_scope|refine SG.val rfl rfl rfl rfl (by first|((first|apply qmv|apply qas|apply qlc|apply qla|apply qfa|apply qnc|apply qic|apply qix|apply qpk|apply qls|apply qei|apply qni|apply qed|apply qnd|apply qad|apply qln|apply qle|apply qgt|apply qge|apply qlk|apply qlv|apply qxt|apply qsb|apply qnt|apply qep|apply qnp|apply qeb|apply qnb|apply qcv|apply qlm|apply qfr|apply qto|apply qmx|apply qen|apply qsn)<;>(first|exact rfl|exact Ar.mk (by omega)|assumption|exact dct (by assumption)|exact dcf (by assumption)|exact dct (by omega)|exact dcf (by omega)|exact List.not_mem_nil|exact dc_length _|exact nc_length _|exact rc_length _ _ _|exact ec_length _|exact nm1 (by omega)|exact nm2 (by omega) (by omega)|exact dct rfl|exact dct (by decide)|exact dcf (by decide)|exact (Int.toNat_of_nonneg (by omega)).symm|exact dcu|exact lk1 (by assumption)|exact lk0 (by assumption)|exact lkb|fail))|fail) ?_)
  refine SG.ret rfl rfl rfl (by repeat' (first | exact True.intro | exact rho_of rfl | refine And.intro ?_ ?_)) (nan_spec w a) (fun w1 hk1 => ?_)
  repeat (first|apply CG.seq|apply CG.region|apply SG.nil|apply NG.next|apply CG.skip|apply CG.block|apply CG.ret|apply CG.exit|apply CG.scope|apply NG.ret_then|apply NG.ret_block|apply NG.ret_scope|apply NG.exit_then|refine NG.exit_block rfl ?_|refine NG.exit_other rfl ?_|apply NG.exit_scope|apply NG.normal_block|apply NG.normal_scope|refine SG.val rfl rfl rfl rfl (by first|((first|apply qmv|apply qas|apply qlc|apply qla|apply qfa|apply qnc|apply qic|apply qix|apply qpk|apply qls|apply qei|apply qni|apply qed|apply qnd|apply qad|apply qln|apply qle|apply qgt|apply qge|apply qlk|apply qlv|apply qxt|apply qsb|apply qnt|apply qep|apply qnp|apply qeb|apply qnb|apply qcv|apply qlm|apply qfr|apply qto|apply qmx|apply qen|apply qsn)<;>(first|exact rfl|exact Ar.mk (by omega)|assumption|exact dct (by assumption)|exact dcf (by assumption)|exact dct (by omega)|exact dcf (by omega)|exact List.not_mem_nil|exact dc_length _|exact nc_length _|exact rc_length _ _ _|exact ec_length _|exact nm1 (by omega)|exact nm2 (by omega) (by omega)|exact dct rfl|exact dct (by decide)|exact dcf (by decide)|exact (Int.toNat_of_nonneg (by omega)).symm|exact dcu|exact lk1 (by assumption)|exact lk0 (by assumption)|exact lkb|fail))|fail) ?_)
  refine SG.ret rfl rfl rfl (by repeat' (first | exact True.intro | exact rho_of rfl | refine And.intro ?_ ?_)) (nan_spec w1 b) (fun w2 hk2 => ?_)
  repeat (first|apply CG.seq|apply CG.region|apply SG.nil|apply NG.next|apply CG.skip|apply CG.block|apply CG.ret|apply CG.exit|apply CG.scope|apply NG.ret_then|apply NG.ret_block|apply NG.ret_scope|apply NG.exit_then|refine NG.exit_block rfl ?_|refine NG.exit_other rfl ?_|apply NG.exit_scope|apply NG.normal_block|apply NG.normal_scope|refine SG.val rfl rfl rfl rfl (by first|((first|apply qmv|apply qas|apply qlc|apply qla|apply qfa|apply qnc|apply qic|apply qix|apply qpk|apply qls|apply qei|apply qni|apply qed|apply qnd|apply qad|apply qln|apply qle|apply qgt|apply qge|apply qlk|apply qlv|apply qxt|apply qsb|apply qnt|apply qep|apply qnp|apply qeb|apply qnb|apply qcv|apply qlm|apply qfr|apply qto|apply qmx|apply qen|apply qsn)<;>(first|exact rfl|exact Ar.mk (by omega)|assumption|exact dct (by assumption)|exact dcf (by assumption)|exact dct (by omega)|exact dcf (by omega)|exact List.not_mem_nil|exact dc_length _|exact nc_length _|exact rc_length _ _ _|exact ec_length _|exact nm1 (by omega)|exact nm2 (by omega) (by omega)|exact dct rfl|exact dct (by decide)|exact dcf (by decide)|exact (Int.toNat_of_nonneg (by omega)).symm|exact dcu|exact lk1 (by assumption)|exact lk0 (by assumption)|exact lkb|fail))|fail) ?_)
  refine CG.cond_f rfl (by exact rho_of rfl) rfl ?_
  repeat (first|apply CG.seq|apply CG.region|apply SG.nil|apply NG.next|apply CG.skip|apply CG.block|apply CG.ret|apply CG.exit|apply CG.scope|apply NG.ret_then|apply NG.ret_block|apply NG.ret_scope|apply NG.exit_then|refine NG.exit_block rfl ?_|refine NG.exit_other rfl ?_|apply NG.exit_scope|apply NG.normal_block|apply NG.normal_scope|refine SG.val rfl rfl rfl rfl (by first|((first|apply qmv|apply qas|apply qlc|apply qla|apply qfa|apply qnc|apply qic|apply qix|apply qpk|apply qls|apply qei|apply qni|apply qed|apply qnd|apply qad|apply qln|apply qle|apply qgt|apply qge|apply qlk|apply qlv|apply qxt|apply qsb|apply qnt|apply qep|apply qnp|apply qeb|apply qnb|apply qcv|apply qlm|apply qfr|apply qto|apply qmx|apply qen|apply qsn)<;>(first|exact rfl|exact Ar.mk (by omega)|assumption|exact dct (by assumption)|exact dcf (by assumption)|exact dct (by omega)|exact dcf (by omega)|exact List.not_mem_nil|exact dc_length _|exact nc_length _|exact rc_length _ _ _|exact ec_length _|exact nm1 (by omega)|exact nm2 (by omega) (by omega)|exact dct rfl|exact dct (by decide)|exact dcf (by decide)|exact (Int.toNat_of_nonneg (by omega)).symm|exact dcu|exact lk1 (by assumption)|exact lk0 (by assumption)|exact lkb|fail))|fail) ?_)
  refine CG.cond_f rfl (by exact rho_of rfl) rfl ?_
  by_cases g1 : a < b
  · have e : cmpI a b = -1 := by unfold cmpI; rw [if_pos g1]
    rw [e]
    repeat (first|apply CG.seq|apply CG.region|apply SG.nil|apply NG.next|apply CG.skip|apply CG.block|apply CG.ret|apply CG.exit|apply CG.scope|apply NG.ret_then|apply NG.ret_block|apply NG.ret_scope|apply NG.exit_then|refine NG.exit_block rfl ?_|refine NG.exit_other rfl ?_|apply NG.exit_scope|apply NG.normal_block|apply NG.normal_scope|refine SG.val rfl rfl rfl rfl (by first|((first|apply qmv|apply qas|apply qlc|apply qla|apply qfa|apply qnc|apply qic|apply qix|apply qpk|apply qls|apply qei|apply qni|apply qed|apply qnd|apply qad|apply qln|apply qle|apply qgt|apply qge|apply qlk|apply qlv|apply qxt|apply qsb|apply qnt|apply qep|apply qnp|apply qeb|apply qnb|apply qcv|apply qlm|apply qfr|apply qto|apply qmx|apply qen|apply qsn)<;>(first|exact rfl|exact Ar.mk (by omega)|assumption|exact dct (by assumption)|exact dcf (by assumption)|exact dct (by omega)|exact dcf (by omega)|exact List.not_mem_nil|exact dc_length _|exact nc_length _|exact rc_length _ _ _|exact ec_length _|exact nm1 (by omega)|exact nm2 (by omega) (by omega)|exact dct rfl|exact dct (by decide)|exact dcf (by decide)|exact (Int.toNat_of_nonneg (by omega)).symm|exact dcu|exact lk1 (by assumption)|exact lk0 (by assumption)|exact lkb|fail))|fail) ?_)
    refine CG.cond_t rfl (by exact rho_of rfl) rfl ?_
    repeat (first|apply CG.seq|apply CG.region|apply SG.nil|apply NG.next|apply CG.skip|apply CG.block|apply CG.ret|apply CG.exit|apply CG.scope|apply NG.ret_then|apply NG.ret_block|apply NG.ret_scope|apply NG.exit_then|refine NG.exit_block rfl ?_|refine NG.exit_other rfl ?_|apply NG.exit_scope|apply NG.normal_block|apply NG.normal_scope|refine SG.val rfl rfl rfl rfl (by first|((first|apply qmv|apply qas|apply qlc|apply qla|apply qfa|apply qnc|apply qic|apply qix|apply qpk|apply qls|apply qei|apply qni|apply qed|apply qnd|apply qad|apply qln|apply qle|apply qgt|apply qge|apply qlk|apply qlv|apply qxt|apply qsb|apply qnt|apply qep|apply qnp|apply qeb|apply qnb|apply qcv|apply qlm|apply qfr|apply qto|apply qmx|apply qen|apply qsn)<;>(first|exact rfl|exact Ar.mk (by omega)|assumption|exact dct (by assumption)|exact dcf (by assumption)|exact dct (by omega)|exact dcf (by omega)|exact List.not_mem_nil|exact dc_length _|exact nc_length _|exact rc_length _ _ _|exact ec_length _|exact nm1 (by omega)|exact nm2 (by omega) (by omega)|exact dct rfl|exact dct (by decide)|exact dcf (by decide)|exact (Int.toNat_of_nonneg (by omega)).symm|exact dcu|exact lk1 (by assumption)|exact lk0 (by assumption)|exact lkb|fail))|fail) ?_)
    refine ret1 (Or.inl rfl) Try.results42 (by first | exact ResV.tmp rfl | exact ResV.agg rfl rfl (by assumption) (by first | exact dc_length _ | exact nc_length _ | exact rc_length _ _ _ | exact ec_length _ | rfl) | exact ResV.cell rfl rfl (by assumption)) ?_
    exact ⟨rfl, hk1.trans hk2⟩
  · repeat (first|apply CG.seq|apply CG.region|apply SG.nil|apply NG.next|apply CG.skip|apply CG.block|apply CG.ret|apply CG.exit|apply CG.scope|apply NG.ret_then|apply NG.ret_block|apply NG.ret_scope|apply NG.exit_then|refine NG.exit_block rfl ?_|refine NG.exit_other rfl ?_|apply NG.exit_scope|apply NG.normal_block|apply NG.normal_scope|refine SG.val rfl rfl rfl rfl (by first|((first|apply qmv|apply qas|apply qlc|apply qla|apply qfa|apply qnc|apply qic|apply qix|apply qpk|apply qls|apply qei|apply qni|apply qed|apply qnd|apply qad|apply qln|apply qle|apply qgt|apply qge|apply qlk|apply qlv|apply qxt|apply qsb|apply qnt|apply qep|apply qnp|apply qeb|apply qnb|apply qcv|apply qlm|apply qfr|apply qto|apply qmx|apply qen|apply qsn)<;>(first|exact rfl|exact Ar.mk (by omega)|assumption|exact dct (by assumption)|exact dcf (by assumption)|exact dct (by omega)|exact dcf (by omega)|exact List.not_mem_nil|exact dc_length _|exact nc_length _|exact rc_length _ _ _|exact ec_length _|exact nm1 (by omega)|exact nm2 (by omega) (by omega)|exact dct rfl|exact dct (by decide)|exact dcf (by decide)|exact (Int.toNat_of_nonneg (by omega)).symm|exact dcu|exact lk1 (by assumption)|exact lk0 (by assumption)|exact lkb|fail))|fail) ?_)
    refine CG.cond_f rfl (by exact rho_of rfl) rfl ?_
    by_cases g2 : b < a
    · have e : cmpI a b = 1 := by unfold cmpI; rw [if_neg g1, if_pos g2]
      rw [e]
      repeat (first|apply CG.seq|apply CG.region|apply SG.nil|apply NG.next|apply CG.skip|apply CG.block|apply CG.ret|apply CG.exit|apply CG.scope|apply NG.ret_then|apply NG.ret_block|apply NG.ret_scope|apply NG.exit_then|refine NG.exit_block rfl ?_|refine NG.exit_other rfl ?_|apply NG.exit_scope|apply NG.normal_block|apply NG.normal_scope|refine SG.val rfl rfl rfl rfl (by first|((first|apply qmv|apply qas|apply qlc|apply qla|apply qfa|apply qnc|apply qic|apply qix|apply qpk|apply qls|apply qei|apply qni|apply qed|apply qnd|apply qad|apply qln|apply qle|apply qgt|apply qge|apply qlk|apply qlv|apply qxt|apply qsb|apply qnt|apply qep|apply qnp|apply qeb|apply qnb|apply qcv|apply qlm|apply qfr|apply qto|apply qmx|apply qen|apply qsn)<;>(first|exact rfl|exact Ar.mk (by omega)|assumption|exact dct (by assumption)|exact dcf (by assumption)|exact dct (by omega)|exact dcf (by omega)|exact List.not_mem_nil|exact dc_length _|exact nc_length _|exact rc_length _ _ _|exact ec_length _|exact nm1 (by omega)|exact nm2 (by omega) (by omega)|exact dct rfl|exact dct (by decide)|exact dcf (by decide)|exact (Int.toNat_of_nonneg (by omega)).symm|exact dcu|exact lk1 (by assumption)|exact lk0 (by assumption)|exact lkb|fail))|fail) ?_)
      refine CG.cond_t rfl (by exact rho_of rfl) rfl ?_
      repeat (first|apply CG.seq|apply CG.region|apply SG.nil|apply NG.next|apply CG.skip|apply CG.block|apply CG.ret|apply CG.exit|apply CG.scope|apply NG.ret_then|apply NG.ret_block|apply NG.ret_scope|apply NG.exit_then|refine NG.exit_block rfl ?_|refine NG.exit_other rfl ?_|apply NG.exit_scope|apply NG.normal_block|apply NG.normal_scope|refine SG.val rfl rfl rfl rfl (by first|((first|apply qmv|apply qas|apply qlc|apply qla|apply qfa|apply qnc|apply qic|apply qix|apply qpk|apply qls|apply qei|apply qni|apply qed|apply qnd|apply qad|apply qln|apply qle|apply qgt|apply qge|apply qlk|apply qlv|apply qxt|apply qsb|apply qnt|apply qep|apply qnp|apply qeb|apply qnb|apply qcv|apply qlm|apply qfr|apply qto|apply qmx|apply qen|apply qsn)<;>(first|exact rfl|exact Ar.mk (by omega)|assumption|exact dct (by assumption)|exact dcf (by assumption)|exact dct (by omega)|exact dcf (by omega)|exact List.not_mem_nil|exact dc_length _|exact nc_length _|exact rc_length _ _ _|exact ec_length _|exact nm1 (by omega)|exact nm2 (by omega) (by omega)|exact dct rfl|exact dct (by decide)|exact dcf (by decide)|exact (Int.toNat_of_nonneg (by omega)).symm|exact dcu|exact lk1 (by assumption)|exact lk0 (by assumption)|exact lkb|fail))|fail) ?_)
      refine ret1 (Or.inl rfl) Try.results42 (by first | exact ResV.tmp rfl | exact ResV.agg rfl rfl (by assumption) (by first | exact dc_length _ | exact nc_length _ | exact rc_length _ _ _ | exact ec_length _ | rfl) | exact ResV.cell rfl rfl (by assumption)) ?_
      exact ⟨rfl, hk1.trans hk2⟩
    · have e : cmpI a b = 0 := by unfold cmpI; rw [if_neg g1, if_neg g2]
      rw [e]
      repeat (first|apply CG.seq|apply CG.region|apply SG.nil|apply NG.next|apply CG.skip|apply CG.block|apply CG.ret|apply CG.exit|apply CG.scope|apply NG.ret_then|apply NG.ret_block|apply NG.ret_scope|apply NG.exit_then|refine NG.exit_block rfl ?_|refine NG.exit_other rfl ?_|apply NG.exit_scope|apply NG.normal_block|apply NG.normal_scope|refine SG.val rfl rfl rfl rfl (by first|((first|apply qmv|apply qas|apply qlc|apply qla|apply qfa|apply qnc|apply qic|apply qix|apply qpk|apply qls|apply qei|apply qni|apply qed|apply qnd|apply qad|apply qln|apply qle|apply qgt|apply qge|apply qlk|apply qlv|apply qxt|apply qsb|apply qnt|apply qep|apply qnp|apply qeb|apply qnb|apply qcv|apply qlm|apply qfr|apply qto|apply qmx|apply qen|apply qsn)<;>(first|exact rfl|exact Ar.mk (by omega)|assumption|exact dct (by assumption)|exact dcf (by assumption)|exact dct (by omega)|exact dcf (by omega)|exact List.not_mem_nil|exact dc_length _|exact nc_length _|exact rc_length _ _ _|exact ec_length _|exact nm1 (by omega)|exact nm2 (by omega) (by omega)|exact dct rfl|exact dct (by decide)|exact dcf (by decide)|exact (Int.toNat_of_nonneg (by omega)).symm|exact dcu|exact lk1 (by assumption)|exact lk0 (by assumption)|exact lkb|fail))|fail) ?_)
      refine CG.cond_f rfl (by exact rho_of rfl) rfl ?_
      repeat (first|apply CG.seq|apply CG.region|apply SG.nil|apply NG.next|apply CG.skip|apply CG.block|apply CG.ret|apply CG.exit|apply CG.scope|apply NG.ret_then|apply NG.ret_block|apply NG.ret_scope|apply NG.exit_then|refine NG.exit_block rfl ?_|refine NG.exit_other rfl ?_|apply NG.exit_scope|apply NG.normal_block|apply NG.normal_scope|refine SG.val rfl rfl rfl rfl (by first|((first|apply qmv|apply qas|apply qlc|apply qla|apply qfa|apply qnc|apply qic|apply qix|apply qpk|apply qls|apply qei|apply qni|apply qed|apply qnd|apply qad|apply qln|apply qle|apply qgt|apply qge|apply qlk|apply qlv|apply qxt|apply qsb|apply qnt|apply qep|apply qnp|apply qeb|apply qnb|apply qcv|apply qlm|apply qfr|apply qto|apply qmx|apply qen|apply qsn)<;>(first|exact rfl|exact Ar.mk (by omega)|assumption|exact dct (by assumption)|exact dcf (by assumption)|exact dct (by omega)|exact dcf (by omega)|exact List.not_mem_nil|exact dc_length _|exact nc_length _|exact rc_length _ _ _|exact ec_length _|exact nm1 (by omega)|exact nm2 (by omega) (by omega)|exact dct rfl|exact dct (by decide)|exact dcf (by decide)|exact (Int.toNat_of_nonneg (by omega)).symm|exact dcu|exact lk1 (by assumption)|exact lk0 (by assumption)|exact lkb|fail))|fail) ?_)
      refine ret1 (Or.inl rfl) Try.results42 (by first | exact ResV.tmp rfl | exact ResV.agg rfl rfl (by assumption) (by first | exact dc_length _ | exact nc_length _ | exact rc_length _ _ _ | exact ec_length _ | rfl) | exact ResV.cell rfl rfl (by assumption)) ?_
      exact ⟨rfl, hk1.trans hk2⟩
theorem pc_rows {w : World} {b : Nat} {T : TypeId} {p : Pc} (h : Blk w b (.cells (pcl p).toArray T)) : Row w b 0 [.int .i64 p.cp.fr] ∧ Row w b 1 [.int .i64 p.cp.to] ∧ Row w b 2 [.slice p.a p.cp.bs.length p.c] ∧ Row w b 3 [.int .i64 p.sent] ∧ Row w b 4 [.int .i64 p.cp.due] :=
  ⟨Row.of h [] [.int .i64 p.cp.to, .slice p.a p.cp.bs.length p.c, .int .i64 p.sent, .int .i64 p.cp.due] rfl rfl,
   Row.of h [.int .i64 p.cp.fr] [.slice p.a p.cp.bs.length p.c, .int .i64 p.sent, .int .i64 p.cp.due] rfl rfl,
   Row.of h [.int .i64 p.cp.fr, .int .i64 p.cp.to] [.int .i64 p.sent, .int .i64 p.cp.due] rfl rfl,
   Row.of h [.int .i64 p.cp.fr, .int .i64 p.cp.to, .slice p.a p.cp.bs.length p.c] [.int .i64 p.cp.due] rfl rfl,
   Row.of h [.int .i64 p.cp.fr, .int .i64 p.cp.to, .slice p.a p.cp.bs.length p.c, .int .i64 p.sent] [] rfl rfl⟩
set_option maxHeartbeats 8000000 in
theorem ordp_spec (p q : Pc) (w : World) : Ret Try.prog 41 #[.agg (pcl p).toArray, .agg (pcl q).toArray] w (.int .i64 (cfP p q)) := by
  refine enter2 Try.func41 rfl Try.ntmps41 rfl ?_
  repeat (first|apply CG.seq|apply CG.region|apply SG.nil|apply NG.next|apply CG.skip|apply CG.block|apply CG.ret|apply CG.exit|apply CG.scope|apply NG.ret_then|apply NG.ret_block|apply NG.ret_scope|apply NG.exit_then|refine NG.exit_block rfl ?_|refine NG.exit_other rfl ?_|apply NG.exit_scope|apply NG.normal_block|apply NG.normal_scope|refine SG.val rfl rfl rfl rfl (by first|((first|apply qmv|apply qas|apply qlc|apply qla|apply qfa|apply qnc|apply qic|apply qix|apply qpk|apply qls|apply qei|apply qni|apply qed|apply qnd|apply qad|apply qln|apply qle|apply qgt|apply qge|apply qlk|apply qlv|apply qxt|apply qsb|apply qnt|apply qep|apply qnp|apply qeb|apply qnb|apply qcv|apply qlm|apply qfr|apply qto|apply qmx|apply qen|apply qsn)<;>(first|exact rfl|exact Ar.mk (by omega)|assumption|exact dct (by assumption)|exact dcf (by assumption)|exact dct (by omega)|exact dcf (by omega)|exact List.not_mem_nil|exact dc_length _|exact nc_length _|exact rc_length _ _ _|exact ec_length _|exact nm1 (by omega)|exact nm2 (by omega) (by omega)|exact dct rfl|exact dct (by decide)|exact dcf (by decide)|exact (Int.toNat_of_nonneg (by omega)).symm|exact dcu|exact lk1 (by assumption)|exact lk0 (by assumption)|exact lkb|fail))|fail) ?_)
  refine SG.box rfl rfl rfl (by exact rho_of rfl) (fun b2 w1 hk1 hb2 hB2 => ?_)
  refine SG.box rfl rfl rfl (by exact rho_of rfl) (fun b3 w2 hk2 hb3 hB3 => ?_)
  have hB2 : Blk w1 b2 (.cells (pcl p).toArray 77) := hB2
  have hB3 : Blk w2 b3 (.cells (pcl q).toArray 77) := hB3
  obtain ⟨_, _, _, r3, _⟩ := pc_rows (hB2.kp0 hk2)
  obtain ⟨_, _, _, t3, _⟩ := pc_rows hB3
  repeat (first|apply CG.seq|apply CG.region|apply SG.nil|apply NG.next|apply CG.skip|apply CG.block|apply CG.ret|apply CG.exit|apply CG.scope|apply NG.ret_then|apply NG.ret_block|apply NG.ret_scope|apply NG.exit_then|refine NG.exit_block rfl ?_|refine NG.exit_other rfl ?_|apply NG.exit_scope|apply NG.normal_block|apply NG.normal_scope|refine SG.val rfl rfl rfl rfl (by first|((first|apply qmv|apply qas|apply qlc|apply qla|apply qfa|apply qnc|apply qic|apply qix|apply qpk|apply qls|apply qei|apply qni|apply qed|apply qnd|apply qad|apply qln|apply qle|apply qgt|apply qge|apply qlk|apply qlv|apply qxt|apply qsb|apply qnt|apply qep|apply qnp|apply qeb|apply qnb|apply qcv|apply qlm|apply qfr|apply qto|apply qmx|apply qen|apply qsn)<;>(first|exact rfl|exact Ar.mk (by omega)|assumption|exact dct (by assumption)|exact dcf (by assumption)|exact dct (by omega)|exact dcf (by omega)|exact List.not_mem_nil|exact dc_length _|exact nc_length _|exact rc_length _ _ _|exact ec_length _|exact nm1 (by omega)|exact nm2 (by omega) (by omega)|exact dct rfl|exact dct (by decide)|exact dcf (by decide)|exact (Int.toNat_of_nonneg (by omega)).symm|exact dcu|exact lk1 (by assumption)|exact lk0 (by assumption)|exact lkb|fail))|fail) ?_)
  refine SG.ret rfl rfl rfl (by repeat' (first | exact True.intro | exact rho_of rfl | refine And.intro ?_ ?_)) (cmpare_spec w2 p.sent q.sent) (fun w3 hk3 => ?_)
  repeat (first|apply CG.seq|apply CG.region|apply SG.nil|apply NG.next|apply CG.skip|apply CG.block|apply CG.ret|apply CG.exit|apply CG.scope|apply NG.ret_then|apply NG.ret_block|apply NG.ret_scope|apply NG.exit_then|refine NG.exit_block rfl ?_|refine NG.exit_other rfl ?_|apply NG.exit_scope|apply NG.normal_block|apply NG.normal_scope|refine SG.val rfl rfl rfl rfl (by first|((first|apply qmv|apply qas|apply qlc|apply qla|apply qfa|apply qnc|apply qic|apply qix|apply qpk|apply qls|apply qei|apply qni|apply qed|apply qnd|apply qad|apply qln|apply qle|apply qgt|apply qge|apply qlk|apply qlv|apply qxt|apply qsb|apply qnt|apply qep|apply qnp|apply qeb|apply qnb|apply qcv|apply qlm|apply qfr|apply qto|apply qmx|apply qen|apply qsn)<;>(first|exact rfl|exact Ar.mk (by omega)|assumption|exact dct (by assumption)|exact dcf (by assumption)|exact dct (by omega)|exact dcf (by omega)|exact List.not_mem_nil|exact dc_length _|exact nc_length _|exact rc_length _ _ _|exact ec_length _|exact nm1 (by omega)|exact nm2 (by omega) (by omega)|exact dct rfl|exact dct (by decide)|exact dcf (by decide)|exact (Int.toNat_of_nonneg (by omega)).symm|exact dcu|exact lk1 (by assumption)|exact lk0 (by assumption)|exact lkb|fail))|fail) ?_)
  refine ret1 (Or.inl rfl) Try.results41 (by first | exact ResV.tmp rfl | exact ResV.agg rfl rfl (by assumption) (by first | exact dc_length _ | exact nc_length _ | exact rc_length _ _ _ | exact ec_length _ | rfl) | exact ResV.cell rfl rfl (by assumption)) ?_
  exact ⟨rfl, (hk1.trans hk2).trans hk3⟩
theorem sortp_spec {w : World} {base : Nat} {v : Value} {l : List Pc} (ho : w.ownsRow base 77 5 v l.length (flt pcl l)) (hl : l.length ≤ 1000000) : Calls Try.prog 40 #[v, .func (.func 41) #[] #[]] w (fun e w' => e = .returned (.tuple #[]) ∧ Kp (ownB v) w w' ∧ ∃ l', l'.Perm l ∧ l'.Pairwise (fun x y => ltOf cfP y x = false) ∧ w'.ownsRow base 77 5 v l.length (flt pcl l')) :=
  sort_own sortL Try.isAgg77 Try.sizeOf77 (by omega) pcl_length pcl_one cfP cfP_swo 41 (fun args w => fn.i41.run w args) (fun x y W => ordp_spec x y W) ho (by omega)
end Go.Proofs.Ytfelaicoedlejaa
/-
  append: what stays of other rows and blocks.
-/
namespace Go.Proofs.Ytfelaicoedlejaa
set_option linter.unusedVariables false

/-- In place. -/
def Room (e : TypeId) (w : World) (v v' : Value) (n m : Nat) : Prop := ∃ g cap cur, v = .slice (some ⟨g, 0, none⟩) n cap ∧ Blk w g (.cells cur e) ∧ n + m ≤ cap ∧ v' = .slice (some ⟨g, 0, none⟩) (n + m) cap
theorem run_appendR {P : Program} {w : World} {base : Nat} {t ty e : TypeId} {i : TypeInfo} [u : Ut P t (.slice e)] [f : Inf P e i] {z : Value} (hz : i.zero = some z) (hzs : z.cells.size = i.size) (hsz : 0 < i.size)
    {v : Value} {n : Nat} {xs : List Value} (hown : w.ownsRow base e i.size v n xs) {b off m c : Nat} {news : List Value} (hl : news.length = m * i.size) (hr : Row w b off news) (h1 : allOne news = true) (hm : 0 < m)
    (h63 : n + m ≤ maxLen) (hbytes : (n + m) * i.bytes ≤ 140737488355328) (hbase : base ≤ w.heap.size) :
    ∃ v' w', (Builtin.append_ #[t, t] ty #[v, .slice (some ⟨b, off, none⟩) m c]).run P w = .ok v' w' ∧ w'.ownsRow base e i.size v' (n + m) (xs ++ news) ∧ Kp (ownB v) w w' ∧ (Kp [] w w' ∨ Room e w v v' n m) := by
  obtain ⟨v', w', hrun, hown', hkp⟩ := run_append (P := P) (ty := ty) (d := .bool) (c := c) (u := u) (f := f) hz hzs hsz hown hl hr h1 h63 hbytes hbase
  refine ⟨v', w', hrun, hown', hkp, ?_⟩
  have hnews : ∀ j u, news[j]? = some u → w.cell? ((⟨b, off, none⟩ : Addr).add j) = some u := fun j u hu => by rw [add_none]; exact hr.cell hu
  have h1' : ∀ u ∈ news, u.oneCell' = true := fun u hu => by rw [one_iff]; exact List.all_eq_true.1 h1 u hu
  rcases hown.2 with ⟨rfl, rfl⟩ | ⟨g, cap, cur, rfl, hbg, hg, hnc, hcm, hcs, htake⟩
  · exact Or.inl (by simpa [ownB, Value.ownBlock] using hkp)
  · by_cases hroom : n + m ≤ cap
    · have hfit : n * i.size + news.length ≤ cur.size := by rw [hl, hcs, ← Nat.add_mul]; exact Nat.mul_le_mul_right _ hroom
      have hr2 := run_append_room (P := P) w t ty e i u.eq f.eq g n cap cur hg ⟨b, off, none⟩ m c news hl hnews h1' hroom hfit
      rw [hr2] at hrun
      cases hrun
      exact Or.inr ⟨g, cap, cur, rfl, hg, hroom, rfl⟩
    · have holds : ∀ j u, xs[j]? = some u → w.cell? ((⟨g, 0, none⟩ : Addr).add j) = some u := hown.cells (g := g) rfl
      have hr2 := run_append_grow (P := P) w t ty e i z u.eq f.eq hz ⟨g, 0, none⟩ n cap xs hown.1 holds ⟨b, off, none⟩ m c news hl hnews (by omega) (by simp only [maxLen] at h63; omega) (growslice_fits (by omega) hbytes)
      rw [hr2] at hrun
      cases hrun
      exact Or.inl (Kp.alloc_drew w _ rfl)
section
variable {w w' : World} {base n m sz : Nat} {e : TypeId} {v v' : Value} {xs news : List Value}
/-- Rows as long as the elder one stay. -/
theorem app_kept (hown : w.ownsRow base e sz v n xs) (hown' : w'.ownsRow base e sz v' (n + m) (xs ++ news)) (hk : Kp (ownB v) w w') (h : Kp [] w w' ∨ Room e w v v' n m) {base2 : Nat} {v2 : Value} {xs2 : List Value} (h2 : w.ownsRow base2 e sz v2 n xs2) : w'.ownsRow base2 e sz v2 n xs2 := by
  rcases h with h | ⟨g, cap, cur, rfl, hB, hroom, rfl⟩
  · exact own_kp0 h2 h
  · have hk : Kp [g] w w' := hk
    obtain ⟨h20, ⟨rfl, h21⟩ | ⟨g2, cap2, cur2, rfl, hb2, hh2, hc1, hc2, hc3, hc4⟩⟩ := h2
    · exact ⟨h20, Or.inl ⟨rfl, h21⟩⟩
    · by_cases eg : g2 = g
      · subst eg
        have hu := hB.uniq hh2
        simp only [Obj.cells.injEq] at hu
        obtain ⟨rfl, _, _⟩ := hu
        obtain ⟨hx0, ⟨hx, _⟩ | ⟨g3, cap3, cur3, hx, hb3, hh3, d1, d2, d3, d4⟩⟩ := hown
        · cases hx
        · simp only [Value.slice.injEq, Option.some.injEq, Addr.mk.injEq] at hx
          obtain ⟨⟨rfl, _⟩, _, rfl⟩ := hx
          have hu := hB.uniq hh3
          simp only [Obj.cells.injEq] at hu
          obtain ⟨rfl, _, _⟩ := hu
          obtain ⟨hy0, ⟨hy, _⟩ | ⟨g4, cap4, cur4, hy, hb4, hh4, f1, f2, f3, f4⟩⟩ := hown'
          · cases hy
          · simp only [Value.slice.injEq, Option.some.injEq, Addr.mk.injEq] at hy
            obtain ⟨⟨rfl, _⟩, _, rfl⟩ := hy
            refine ⟨h20, Or.inr ⟨g2, cap2, cur4, rfl, hb2, hh4, hc1, hc2, by rw [f3, ← d3, hc3], ?_⟩⟩
            have h5 := congrArg (List.take (n * sz)) f4
            rw [List.take_take, Nat.min_eq_left (Nat.mul_le_mul_right sz (by omega)), List.take_append_of_le_length (by omega), ← hx0, List.take_length, hx0] at h5
            rw [h5, ← d4, hc4]
      · exact ⟨h20, Or.inr ⟨g2, cap2, cur2, rfl, hb2, by rw [hk.blk g2 (Array.getElem?_eq_some_iff.1 hh2).1 (by simp [eg])]; exact hh2, hc1, hc2, hc3, hc4⟩⟩
theorem app_blk (hown : w.ownsRow base e sz v n xs) (hown' : w'.ownsRow base e sz v' (n + m) (xs ++ news)) (hk : Kp (ownB v) w w') (h : Kp [] w w' ∨ Room e w v v' n m) {b : Nat} {cs : Array Value} (hB : Blk w b (.cells cs e)) (hs : cs.size < (n + m) * sz ∨ cs.toList = xs ++ news) : Blk w' b (.cells cs e) := by
  rcases h with h | ⟨g, cap, cur, rfl, hBg, hroom, rfl⟩
  · exact hB.kp0 h
  · have hk : Kp [g] w w' := hk
    by_cases eg : b = g
    · subst eg
      have hu := hB.uniq hBg
      simp only [Obj.cells.injEq] at hu
      obtain ⟨rfl, _, _⟩ := hu
      obtain ⟨hx0, ⟨hx, _⟩ | ⟨g3, cap3, cur3, hx, hb3, hh3, d1, d2, d3, d4⟩⟩ := hown
      · cases hx
      · simp only [Value.slice.injEq, Option.some.injEq, Addr.mk.injEq] at hx
        obtain ⟨⟨rfl, _⟩, _, rfl⟩ := hx
        have hu := hB.uniq hh3
        simp only [Obj.cells.injEq] at hu
        obtain ⟨rfl, _, _⟩ := hu
        have hge : (n + m) * sz ≤ cap * sz := Nat.mul_le_mul_right sz hroom
        rcases hs with hs | hs
        · omega
        · obtain ⟨hy0, ⟨hy, _⟩ | ⟨g4, cap4, cur4, hy, hb4, hh4, f1, f2, f3, f4⟩⟩ := hown'
          · cases hy
          · simp only [Value.slice.injEq, Option.some.injEq, Addr.mk.injEq] at hy
            obtain ⟨⟨rfl, _⟩, _, rfl⟩ := hy
            have hlen : cs.size = (n + m) * sz := by rw [← hy0, ← hs]; simp
            have hc : cur4.toList = cs.toList := by
              rw [hs, ← f4, List.take_of_length_le (by simp; omega)]
            have hcc : cur4 = cs := Array.toList_inj.1 hc
            rw [← hcc]
            exact hh4
    · exact hB.kp hk (nm1 eg)
end
/-- 'append(s, nil...)' of an owned row: nothing turns. -/
theorem SG.appendNil {P : Program} {n : Nat} {Q : Exit → Act → World → Prop} {L : Env} {w : World} {ops : List Oper} {rest : List Oper} {ty : TypeId} {pos : String} {af : Array Edge} {g : Option (Nat × Bool)} {t e : TypeId} {i : TypeInfo} [u : Ut P t (.slice e)] [f : Inf P e i] {d : Nat} {s x : Operand} {b nn cap : Nat}
    (hd : Nat.blt d n = true) (hw : want ops L ⟨some d, .call { callee := .builtin .append, args := #[s, x], argTypes := #[t, t] }, ty, pos, af, g⟩ = some true) (hk : (known L s && known L x) = true)
    (hs : rho L s = .slice (some ⟨b, 0, none⟩) nn cap) (hx : rho L x = .slice none 0 0) (hnc : nn ≤ cap)
    (h : SG P n ops Q rest ((d, .slice (some ⟨b, 0, none⟩) nn cap) :: L) w) : SG P n ops Q (⟨some d, .call { callee := .builtin .append, args := #[s, x], argTypes := #[t, t] }, ty, pos, af, g⟩ :: rest) L w := by
  refine SG.op (by simpa using hd) rfl hw (by simpa [Op.operands, Call.operands] using hk) ?_
  unfold OpRun
  have hrun : (Builtin.append_ #[t, t] ty #[.slice (some ⟨b, 0, none⟩) nn cap, .slice none 0 0]).run P w = .ok (.slice (some ⟨b, 0, none⟩) nn cap) w := by
    simp [Builtin.append_, run_underlying u.eq, sizeOf, typeInfo, f.eq, Builtin.lenOf, Builtin.firstCells, loadCells, loadCellsFrom, hnc, storeCells]
  have : (execOp (rho L) ⟨some d, .call { callee := .builtin .append, args := #[s, x], argTypes := #[t, t] }, ty, pos, af, g⟩).run P w = .ok (.value (.slice (some ⟨b, 0, none⟩) nn cap)) w := by
    simp only [execOp, resolve, invoke, builtin, Sem.run_bind, Sem.run_pure, Result.andThen_ok, List.map_toArray, List.map_cons, List.map_nil, hs, hx, hrun]
  rw [this]
  exact h
/-- A nil slice from 0 on. -/
theorem vals_fromnil {P : Program} {S : List Nat} {w0 : World} {F : World → Prop} {L : Env} {d : Option Nat} {ty : TypeId} {pos : String} {af : Array Edge} {g : Option (Nat × Bool)} {T E : TypeId} [u : Ut P T (.slice E)] {sz : Nat} [f : Sz P E sz] {x lo : Operand} (hx : ro L x = some (.slice none 0 0)) (hlo : ro L lo = some (.int .i64 0)) :
    Vals P S w0 F L ⟨d, .slice T x (some lo) none none, ty, pos, af, g⟩ (.slice none 0 0) := fun w _ _ => by
  obtain ⟨i, h2, h3⟩ := f.eq
  simp [execOp, rho_of hx, rho_of hlo, Instr.sliceAt, run_underlying u.eq, Instr.slice, Instr.sliceBounds, Instr.sliceBound, asIntOf, sizeOf, typeInfo, h2]
section
variable {P : Program} {n : Nat} {ops : List Oper} {Q : Exit → Act → World → Prop} {w0 : World} {L : Env} {G : List (Nat × GD)} {K : Env → List Fact → Prop} {Γ : List Fact} {i : Nat} {ord : List Nat} {ty : TypeId} {pos : String} {af : Array Edge} {g : Option (Nat × Bool)}
/-- 'append' to a row that the region made. -/
theorem DerX.appendK {α : Type} {enc : α → List Value} {mm d : Nat} {t e : TypeId} {inf : TypeInfo} [u : Ut P t (.slice e)] [f : Inf P e inf] {z : Value} {s y : Operand} {a4 : Option Addr} {c4 b9 cc : Nat} (l l2 : List α) (hel : ∀ x, (enc x).length = inf.size) (hone : ∀ x, allOne (enc x) = true) (hg : gdLook G i = some (gO mm e enc inf.size (l ++ l2)))
    (ho : ops[i]? = some ⟨some d, .call { callee := .builtin .append, args := #[s, y], argTypes := #[t, t] }, ty, pos, af, g⟩) (hw : want ops L ⟨some d, .call { callee := .builtin .append, args := #[s, y], argTypes := #[t, t] }, ty, pos, af, g⟩ = some true) (hk : (known L s && known L y) = true)
    (hs : rho L s = .slice a4 l.length c4) (hx : rho L y = .slice (some ⟨b9, 0, none⟩) l2.length cc) (hz : inf.zero = some z) (hzs : Nat.beq z.cells.size inf.size = true) (hsz : Nat.blt 0 inf.size = true) (hl2 : 0 < l2.length) (h63 : l.length + l2.length ≤ maxLen) (hbytes : (l.length + l2.length) * inf.bytes ≤ 140737488355328) (hmm : mm = w0.heap.size)
    (hc : ∀ w, Kp [] w0 w → Facts ops i Γ w → w.ownsRow mm e inf.size (.slice a4 l.length c4) l.length (flt enc l) ∧ Row w b9 0 (flt enc l2))
    (hkeep : ∀ p ∈ G, p.1 ≠ i → ∀ y w w' v', w.ownsRow mm e inf.size (.slice a4 l.length c4) l.length (flt enc l) → w'.ownsRow mm e inf.size v' (l.length + l2.length) (flt enc l ++ flt enc l2) → Kp (ownB (.slice a4 l.length c4)) w w' → (Kp [] w w' ∨ Room e w (.slice a4 l.length c4) v' l.length l2.length) → p.2.phi y w → p.2.phi y w')
    (h : ∀ v : Value, DerX P w0 ops G K ord ((d, v) :: L) ((i, fun w => w.ownsRow mm e inf.size v (l ++ l2).length (flt enc (l ++ l2))) :: Γ)) : DerX P w0 ops G K (i :: ord) L Γ := by
  refine DerX.effN (gO mm e enc inf.size (l ++ l2)) hg ho hw (by simpa [Op.operands, Call.operands] using hk) (fun w h1 h2 => ?_) h
  obtain ⟨g1, g2⟩ := hc w h1 h2
  obtain ⟨v', w', e1, e2, e3, e4⟩ := run_appendR (P := P) (ty := ty) (c := cc) (u := u) (f := f) hz (Nat.eq_of_beq_eq_true hzs) (by simpa [Nat.blt_eq] using hsz) g1 (m := l2.length) (flt_length hel l2) g2 (flt_all hone l2) hl2 h63 hbytes (by have := h1.size; omega)
  unfold OpRun
  have : (execOp (rho L) ⟨some d, .call { callee := .builtin .append, args := #[s, y], argTypes := #[t, t] }, ty, pos, af, g⟩).run P w = .ok (.value v') w' := by
    simp only [execOp, resolve, invoke, builtin, Sem.run_bind, Sem.run_pure, Result.andThen_ok, List.map_toArray, List.map_cons, List.map_nil, hs, hx, e1]
  rw [this]
  refine ⟨v', rfl, ?_, h1.trans_new e3 (own_new g1 (by omega)), fun j y hj hp => gd_all (q := fun D => ∀ y, D.phi y w → D.phi y w') (fun _ _ => trivial) (fun p hp hne y hy => hkeep p hp hne y w w' v' g1 e2 e3 e4 hy) j hj y hp⟩
  show w'.ownsRow mm e inf.size v' (l ++ l2).length (flt enc (l ++ l2))
  rw [List.length_append, flt_append]
  exact e2
end
end Go.Proofs.Ytfelaicoedlejaa
/-
  All copies on their way, as they were sent.
-/
namespace Go.Proofs.Ytfelaicoedlejaa
open Go.Proofs Go.Shelf Go.Sort
set_option linter.unusedVariables false

/-- 'make([]T, 0, c)'. -/
theorem SG.makeRow {P : Program} {n : Nat} {Q : Exit → Act → World → Prop} {L : Env} {w : World} {ops : List Oper} {rest : List Oper} {ty : TypeId} {pos : String} {af : Array Edge} {g : Option (Nat × Bool)} {d c : Nat} {t e : TypeId} {i : TypeInfo} [u : Ut P t (.slice e)] [f : Inf P e i] {z : Value} {x y : Operand} (hd : Nat.blt d n = true)
    (hw : want ops L ⟨some d, .makeSlice t x y, ty, pos, af, g⟩ = some true) (hk : (known L x && known L y) = true) (hx : rho L x = .int .i64 0) (hy : rho L y = .int .i64 (c : Int)) (hz : i.zero = some z) (hbytes : i.bytes * c ≤ 281474976710656) (h63 : c ≤ maxLen)
    (h : ∀ b w', Kp [] w w' → w.heap.size ≤ b → w'.ownsRow w.heap.size e i.size (.slice (some ⟨b, 0, none⟩) 0 c) 0 [] → SG P n ops Q rest ((d, .slice (some ⟨b, 0, none⟩) 0 c) :: L) w') : SG P n ops Q (⟨some d, .makeSlice t x y, ty, pos, af, g⟩ :: rest) L w := by
  refine SG.op (by simpa using hd) rfl hw (by simpa [Op.operands] using hk) ?_
  unfold OpRun
  have h63' : (c : Int) ≤ 9223372036854775807 := by have h := h63; simp [maxLen] at h; omega
  have hb' : (i.bytes : Int) * (c : Int) ≤ 281474976710656 := by
    have h : ((i.bytes * c : Nat) : Int) ≤ 281474976710656 := by omega
    rwa [Int.natCast_mul] at h
  have hr := run_make (P := P) w t e i z u.eq f.eq hz .i64 .i64 0 c (Int.le_refl _) (by omega) hb' h63'
  simp only [Int.toNat_zero, Int.toNat_natCast] at hr
  have : (execOp (rho L) ⟨some d, .makeSlice t x y, ty, pos, af, g⟩).run P w = .ok (.value (.slice (some ⟨w.heap.size, 0, none⟩) 0 c)) (w.alloc (.cells (madeCells z.cells (c * i.size)) e)) := by
    simp only [execOp, hx, hy, Sem.run_bind, hr, Result.andThen, Sem.run_pure]
  rw [this]
  exact h _ _ (Kp.push w _ rfl) (Nat.le_refl _) (World.ownsRow_made w _ c (Nat.le_refl _) h63 (size_madeCells _ _))
/-- 'append(s, e...)' of an owned row, where e is empty: nothing turns. -/
theorem SG.appendZero {P : Program} {n : Nat} {Q : Exit → Act → World → Prop} {L : Env} {w : World} {ops : List Oper} {rest : List Oper} {ty : TypeId} {pos : String} {af : Array Edge} {g : Option (Nat × Bool)} {t e : TypeId} {i : TypeInfo} [u : Ut P t (.slice e)] [f : Inf P e i] {d : Nat} {s x : Operand} {b nn cap c2 : Nat} {a2 : Option Addr}
    (hd : Nat.blt d n = true) (hw : want ops L ⟨some d, .call { callee := .builtin .append, args := #[s, x], argTypes := #[t, t] }, ty, pos, af, g⟩ = some true) (hk : (known L s && known L x) = true)
    (hs : rho L s = .slice (some ⟨b, 0, none⟩) nn cap) (hx : rho L x = .slice a2 0 c2) (hnc : nn ≤ cap)
    (h : SG P n ops Q rest ((d, .slice (some ⟨b, 0, none⟩) nn cap) :: L) w) : SG P n ops Q (⟨some d, .call { callee := .builtin .append, args := #[s, x], argTypes := #[t, t] }, ty, pos, af, g⟩ :: rest) L w := by
  refine SG.op (by simpa using hd) rfl hw (by simpa [Op.operands, Call.operands] using hk) ?_
  unfold OpRun
  have hrun : (Builtin.append_ #[t, t] ty #[.slice (some ⟨b, 0, none⟩) nn cap, .slice a2 0 c2]).run P w = .ok (.slice (some ⟨b, 0, none⟩) nn cap) w := by
    cases a2 <;> simp [Builtin.append_, run_underlying u.eq, sizeOf, typeInfo, f.eq, Builtin.lenOf, Builtin.firstCells, loadCells, loadCellsFrom, hnc, storeCells]
  have : (execOp (rho L) ⟨some d, .call { callee := .builtin .append, args := #[s, x], argTypes := #[t, t] }, ty, pos, af, g⟩).run P w = .ok (.value (.slice (some ⟨b, 0, none⟩) nn cap)) w := by
    simp only [execOp, resolve, invoke, builtin, Sem.run_bind, Sem.run_pure, Result.andThen_ok, List.map_toArray, List.map_cons, List.map_nil, hs, hx, hrun]
  rw [this]
  exact h
/-- All parcels. -/
def pcs (due : Due) : List Pc := due.flatMap (fun e => e.2.2)
theorem pcs_cons (e : I64 × (Value × List Pc)) (d : Due) : pcs (e :: d) = e.2.2 ++ pcs d := by simp [pcs]
theorem pcs_append (a b : Due) : pcs (a ++ b) = pcs a ++ pcs b := by simp [pcs]
theorem pcs_perm {a b : Due} (h : a.Perm b) : (pcs a).Perm (pcs b) := by
  induction h with
  | nil => exact List.Perm.refl _
  | cons x _ ih => rw [pcs_cons, pcs_cons]; exact List.Perm.append_left _ ih
  | swap x y l =>
    rw [pcs_cons, pcs_cons, pcs_cons, pcs_cons, ← List.append_assoc, ← List.append_assoc]
    exact List.Perm.append_right _ List.perm_append_comm
  | trans _ _ a b => exact a.trans b

attribute [local irreducible] CG NG SG Vals Der Row Blk MapIs IterAt DerX
set_option maxHeartbeats 16000000 in
theorem allp_spec {w : World} {bt bm : Nat} {s : Ns} {due : Due} (hR : Rep w bt bm s due) (hl : (pcs due).length ≤ 100000) (hpl : s.pend.length ≤ 100000) : Calls Try.prog 32 #[.pointer (some ⟨bt, 0, none⟩)] w (fun e w' => ∃ v l, e = .returned v ∧ w'.ownsRow w.heap.size 77 5 v l.length (flt pcl l) ∧ l.Perm (pcs due) ∧ l.Pairwise (fun x y => ltOf cfP y x = false) ∧ Kp [] w w') := by
  refine enter1 Try.func32 rfl Try.ntmps32 rfl ?_
  have r3 := hR.r3
  have r4 := hR.r4
  repeat (first|apply CG.seq|apply CG.region|apply SG.nil|apply NG.next|apply CG.skip|apply CG.block|apply CG.ret|apply CG.exit|apply CG.scope|apply NG.ret_then|apply NG.ret_block|apply NG.ret_scope|apply NG.exit_then|refine NG.exit_block rfl ?_|refine NG.exit_other rfl ?_|apply NG.exit_scope|apply NG.normal_block|apply NG.normal_scope|refine SG.val rfl rfl rfl rfl (by first|((first|apply qmv|apply qas|apply qlc|apply qla|apply qfa|apply qnc|apply qic|apply qix|apply qpk|apply qls|apply qei|apply qni|apply qed|apply qnd|apply qad|apply qln|apply qle|apply qgt|apply qge|apply qlk|apply qlv|apply qxt|apply qsb|apply qnt|apply qep|apply qnp|apply qeb|apply qnb|apply qcv|apply qlm|apply qfr|apply qto|apply qmx|apply qen|apply qsn)<;>(first|exact rfl|exact Ar.mk (by omega)|assumption|exact dct (by assumption)|exact dcf (by assumption)|exact dct (by omega)|exact dcf (by omega)|exact List.not_mem_nil|exact dc_length _|exact nc_length _|exact rc_length _ _ _|exact ec_length _|exact nm1 (by omega)|exact nm2 (by omega) (by omega)|exact dct rfl|exact dct (by decide)|exact dcf (by decide)|exact (Int.toNat_of_nonneg (by omega)).symm|exact dcu|exact lk1 (by assumption)|exact lk0 (by assumption)|exact lkb|fail))|fail) ?_)
  refine SG.makeRow (c := s.pend.length) rfl rfl rfl (by exact rho_of rfl) (by exact rho_of rfl) rfl (by show 56 * s.pend.length ≤ _; omega) (by simp only [maxLen]; omega) (fun b10 w1 hk1 hb10 ho1 => ?_)
  have hR1 := hR.kp0 hk1
  have r4 := hR1.r4
  repeat (first|apply CG.seq|apply CG.region|apply SG.nil|apply NG.next|apply CG.skip|apply CG.block|apply CG.ret|apply CG.exit|apply CG.scope|apply NG.ret_then|apply NG.ret_block|apply NG.ret_scope|apply NG.exit_then|refine NG.exit_block rfl ?_|refine NG.exit_other rfl ?_|apply NG.exit_scope|apply NG.normal_block|apply NG.normal_scope|refine SG.val rfl rfl rfl rfl (by first|((first|apply qmv|apply qas|apply qlc|apply qla|apply qfa|apply qnc|apply qic|apply qix|apply qpk|apply qls|apply qei|apply qni|apply qed|apply qnd|apply qad|apply qln|apply qle|apply qgt|apply qge|apply qlk|apply qlv|apply qxt|apply qsb|apply qnt|apply qep|apply qnp|apply qeb|apply qnb|apply qcv|apply qlm|apply qfr|apply qto|apply qmx|apply qen|apply qsn)<;>(first|exact rfl|exact Ar.mk (by omega)|assumption|exact dct (by assumption)|exact dcf (by assumption)|exact dct (by omega)|exact dcf (by omega)|exact List.not_mem_nil|exact dc_length _|exact nc_length _|exact rc_length _ _ _|exact ec_length _|exact nm1 (by omega)|exact nm2 (by omega) (by omega)|exact dct rfl|exact dct (by decide)|exact dcf (by decide)|exact (Int.toNat_of_nonneg (by omega)).symm|exact dcu|exact lk1 (by assumption)|exact lk0 (by assumption)|exact lkb|fail))|fail) ?_)
  refine SG.range rfl rfl rfl (by exact rho_of rfl) hR1.map (fun r w2 hk2 hr2 hI => ?_)
  have eM := hR.map.lt
  have s1 := hk1.size
  have ltb := (ho1.lt b10 rfl).2
  repeat (first|apply CG.seq|apply CG.region|apply SG.nil|apply NG.next|apply CG.skip|apply CG.block|apply CG.ret|apply CG.exit|apply CG.scope|apply NG.ret_then|apply NG.ret_block|apply NG.ret_scope|apply NG.exit_then|refine NG.exit_block rfl ?_|refine NG.exit_other rfl ?_|apply NG.exit_scope|apply NG.normal_block|apply NG.normal_scope|refine SG.val rfl rfl rfl rfl (by first|((first|apply qmv|apply qas|apply qlc|apply qla|apply qfa|apply qnc|apply qic|apply qix|apply qpk|apply qls|apply qei|apply qni|apply qed|apply qnd|apply qad|apply qln|apply qle|apply qgt|apply qge|apply qlk|apply qlv|apply qxt|apply qsb|apply qnt|apply qep|apply qnp|apply qeb|apply qnb|apply qcv|apply qlm|apply qfr|apply qto|apply qmx|apply qen|apply qsn)<;>(first|exact rfl|exact Ar.mk (by omega)|assumption|exact dct (by assumption)|exact dcf (by assumption)|exact dct (by omega)|exact dcf (by omega)|exact List.not_mem_nil|exact dc_length _|exact nc_length _|exact rc_length _ _ _|exact ec_length _|exact nm1 (by omega)|exact nm2 (by omega) (by omega)|exact dct rfl|exact dct (by decide)|exact dcf (by decide)|exact (Int.toNat_of_nonneg (by omega)).symm|exact dcu|exact lk1 (by assumption)|exact lk0 (by assumption)|exact lkb|fail))|fail) ?_)
  refine CG.loop (X := Value × Due × Due × Option (I64 × (Value × List Pc))) (fun x => [(3, x.1), (15, .pointer (some ⟨r, 0, none⟩))])
    (fun x w' => Kp [] w w' ∧ r < w'.heap.size ∧ IterAt w' r bm iv (fun q : Value × List Pc => q.1) due x.2.2.1 x.2.2.2 ∧ (x.2.1 ++ x.2.2.1).Perm due ∧ w'.ownsRow w.heap.size 77 5 x.1 (pcs x.2.1).length (flt pcl (pcs x.2.1)) ∧ x.1.ownBlock ≠ some r ∧ ∃ g cap, x.1 = .slice (some ⟨g, 0, none⟩) (pcs x.2.1).length cap)
    (fun x => x.2.2.1.length) (.slice (some ⟨b10, 0, none⟩) 0 s.pend.length, [], due, none) ⟨hk1.trans hk2, hI.ltr, hI, by simp, own_kp0 ho1 hk2, by simp [Value.ownBlock]; omega, b10, _, rfl⟩ (by (repeat' (first | exact True.intro | exact rfl | refine And.intro ?_ ?_))) ?_
  rintro ⟨v, done, left, cur⟩ w3 ⟨hk, hrs, hI, hp, ho, hnr, g, cap, hv⟩
  simp only at hI hp ho hnr hv
  subst hv
  refine CG.to [(3, .slice (some ⟨g, 0, none⟩) (pcs done).length cap), (15, .pointer (some ⟨r, 0, none⟩))] (by (repeat' (first | exact True.intro | exact rfl | refine And.intro ?_ ?_))) ?_
  have hlen := (pcs_perm hp).length_eq
  rw [pcs_append, List.length_append] at hlen
  repeat (first|apply CG.seq|apply CG.region|apply SG.nil|apply NG.next|apply CG.skip|apply CG.block|apply CG.ret|apply CG.exit|apply CG.scope|apply NG.ret_then|apply NG.ret_block|apply NG.ret_scope|apply NG.exit_then|refine NG.exit_block rfl ?_|refine NG.exit_other rfl ?_|apply NG.exit_scope|apply NG.normal_block|apply NG.normal_scope|refine SG.val rfl rfl rfl rfl (by first|((first|apply qmv|apply qas|apply qlc|apply qla|apply qfa|apply qnc|apply qic|apply qix|apply qpk|apply qls|apply qei|apply qni|apply qed|apply qnd|apply qad|apply qln|apply qle|apply qgt|apply qge|apply qlk|apply qlv|apply qxt|apply qsb|apply qnt|apply qep|apply qnp|apply qeb|apply qnb|apply qcv|apply qlm|apply qfr|apply qto|apply qmx|apply qen|apply qsn)<;>(first|exact rfl|exact Ar.mk (by omega)|assumption|exact dct (by assumption)|exact dcf (by assumption)|exact dct (by omega)|exact dcf (by omega)|exact List.not_mem_nil|exact dc_length _|exact nc_length _|exact rc_length _ _ _|exact ec_length _|exact nm1 (by omega)|exact nm2 (by omega) (by omega)|exact dct rfl|exact dct (by decide)|exact dcf (by decide)|exact (Int.toNat_of_nonneg (by omega)).symm|exact dcu|exact lk1 (by assumption)|exact lk0 (by assumption)|exact lkb|fail))|fail) ?_)
  refine SG.next rfl rfl rfl (by exact rho_of rfl) hI (fun h0 => ?_) (fun pre p post w4 hl4 hk4 hI4 => ?_)
  · repeat (first|apply CG.seq|apply CG.region|apply SG.nil|apply NG.next|apply CG.skip|apply CG.block|apply CG.ret|apply CG.exit|apply CG.scope|apply NG.ret_then|apply NG.ret_block|apply NG.ret_scope|apply NG.exit_then|refine NG.exit_block rfl ?_|refine NG.exit_other rfl ?_|apply NG.exit_scope|apply NG.normal_block|apply NG.normal_scope|refine SG.val rfl rfl rfl rfl (by first|((first|apply qmv|apply qas|apply qlc|apply qla|apply qfa|apply qnc|apply qic|apply qix|apply qpk|apply qls|apply qei|apply qni|apply qed|apply qnd|apply qad|apply qln|apply qle|apply qgt|apply qge|apply qlk|apply qlv|apply qxt|apply qsb|apply qnt|apply qep|apply qnp|apply qeb|apply qnb|apply qcv|apply qlm|apply qfr|apply qto|apply qmx|apply qen|apply qsn)<;>(first|exact rfl|exact Ar.mk (by omega)|assumption|exact dct (by assumption)|exact dcf (by assumption)|exact dct (by omega)|exact dcf (by omega)|exact List.not_mem_nil|exact dc_length _|exact nc_length _|exact rc_length _ _ _|exact ec_length _|exact nm1 (by omega)|exact nm2 (by omega) (by omega)|exact dct rfl|exact dct (by decide)|exact dcf (by decide)|exact (Int.toNat_of_nonneg (by omega)).symm|exact dcu|exact lk1 (by assumption)|exact lk0 (by assumption)|exact lkb|fail))|fail) ?_)
    refine CG.cond_f rfl (by exact rho_of rfl) rfl ?_
    subst h0
    rw [List.append_nil] at hp
    repeat (first|apply CG.seq|apply CG.region|apply SG.nil|apply NG.next|apply CG.skip|apply CG.block|apply CG.ret|apply CG.exit|apply CG.scope|apply NG.ret_then|apply NG.ret_block|apply NG.ret_scope|apply NG.exit_then|refine NG.exit_block rfl ?_|refine NG.exit_other rfl ?_|apply NG.exit_scope|apply NG.normal_block|apply NG.normal_scope|refine SG.val rfl rfl rfl rfl (by first|((first|apply qmv|apply qas|apply qlc|apply qla|apply qfa|apply qnc|apply qic|apply qix|apply qpk|apply qls|apply qei|apply qni|apply qed|apply qnd|apply qad|apply qln|apply qle|apply qgt|apply qge|apply qlk|apply qlv|apply qxt|apply qsb|apply qnt|apply qep|apply qnp|apply qeb|apply qnb|apply qcv|apply qlm|apply qfr|apply qto|apply qmx|apply qen|apply qsn)<;>(first|exact rfl|exact Ar.mk (by omega)|assumption|exact dct (by assumption)|exact dcf (by assumption)|exact dct (by omega)|exact dcf (by omega)|exact List.not_mem_nil|exact dc_length _|exact nc_length _|exact rc_length _ _ _|exact ec_length _|exact nm1 (by omega)|exact nm2 (by omega) (by omega)|exact dct rfl|exact dct (by decide)|exact dcf (by decide)|exact (Int.toNat_of_nonneg (by omega)).symm|exact dcu|exact lk1 (by assumption)|exact lk0 (by assumption)|exact lkb|fail))|fail) ?_)
    refine SG.call rfl rfl rfl (by repeat' (first | exact True.intro | exact rho_of rfl | refine And.intro ?_ ?_)) ((sortp_spec ho (by omega)).mono (fun e w5 hh => ?_))
    obtain ⟨he5, hk5, l', hp', ha, ho5⟩ := hh
    refine ⟨_, he5, ?_⟩
    repeat (first|apply CG.seq|apply CG.region|apply SG.nil|apply NG.next|apply CG.skip|apply CG.block|apply CG.ret|apply CG.exit|apply CG.scope|apply NG.ret_then|apply NG.ret_block|apply NG.ret_scope|apply NG.exit_then|refine NG.exit_block rfl ?_|refine NG.exit_other rfl ?_|apply NG.exit_scope|apply NG.normal_block|apply NG.normal_scope|refine SG.val rfl rfl rfl rfl (by first|((first|apply qmv|apply qas|apply qlc|apply qla|apply qfa|apply qnc|apply qic|apply qix|apply qpk|apply qls|apply qei|apply qni|apply qed|apply qnd|apply qad|apply qln|apply qle|apply qgt|apply qge|apply qlk|apply qlv|apply qxt|apply qsb|apply qnt|apply qep|apply qnp|apply qeb|apply qnb|apply qcv|apply qlm|apply qfr|apply qto|apply qmx|apply qen|apply qsn)<;>(first|exact rfl|exact Ar.mk (by omega)|assumption|exact dct (by assumption)|exact dcf (by assumption)|exact dct (by omega)|exact dcf (by omega)|exact List.not_mem_nil|exact dc_length _|exact nc_length _|exact rc_length _ _ _|exact ec_length _|exact nm1 (by omega)|exact nm2 (by omega) (by omega)|exact dct rfl|exact dct (by decide)|exact dcf (by decide)|exact (Int.toNat_of_nonneg (by omega)).symm|exact dcu|exact lk1 (by assumption)|exact lk0 (by assumption)|exact lkb|fail))|fail) ?_)
    refine ret1 (Or.inl rfl) Try.results32 (by first | exact ResV.tmp rfl | exact ResV.agg rfl rfl (by assumption) (by first | exact dc_length _ | exact nc_length _ | exact rc_length _ _ _ | exact ec_length _ | rfl) | exact ResV.cell rfl rfl (by assumption)) ?_
    refine ⟨_, l', rfl, ?_, hp'.trans (pcs_perm hp), ha, hk.trans_new hk5 (own_new ho (Nat.le_refl _))⟩
    rw [hp'.length_eq]
    exact ho5
  · have hpm : p ∈ due := hp.mem_iff.1 (by rw [hl4]; simp)
    have hR3 := hR.kp0 hk
    have hown := hR3.own p hpm
    obtain ⟨k, pv, pl⟩ := p
    simp only at hown
    have hone : (pcs ((k, pv, pl) :: (pre ++ post))).length = pl.length + (pcs (pre ++ post)).length := by rw [pcs_cons, List.length_append]
    rw [hl4, pcs_append, pcs_cons, List.length_append, List.length_append] at hlen
    have hlen : (pcs done).length + ((pcs pre).length + (pl.length + (pcs post).length)) = (pcs due).length := hlen
    have hncap : (pcs done).length ≤ cap := by
      obtain ⟨_, ⟨h0, _⟩ | ⟨g', cap', cur', hv', _, _, d1, _⟩⟩ := ho
      · cases h0
      · simp only [Value.slice.injEq, Option.some.injEq, Addr.mk.injEq] at hv'
        obtain ⟨_, _, rfl⟩ := hv'
        exact d1
    have hperm : ((done ++ [(k, pv, pl)]) ++ (pre ++ post)).Perm due := by
      refine List.Perm.trans ?_ hp
      rw [hl4]
      simp only [List.append_assoc, List.singleton_append]
      exact List.Perm.append_left done (List.perm_middle.symm)
    have hsnoc : pcs (done ++ [(k, pv, pl)]) = pcs done ++ pl := by rw [pcs_append]; simp [pcs]
    have s3 := hk.size
    have s4 := hk4.size
    have hrw : w.heap.size ≤ r := by omega
    have hk04 : Kp [] w w4 := hk.trans_new hk4 (new1 hrw)
    have hown4 := hR.kp0 hk04
    have ho4 := own_kp ho hk4 (fun z hz hm => by rw [List.mem_singleton] at hm; subst hm; exact hnr hz)
    have hown := hown4.own (k, pv, pl) hpm
    simp only at hown
    repeat (first|apply CG.seq|apply CG.region|apply SG.nil|apply NG.next|apply CG.skip|apply CG.block|apply CG.ret|apply CG.exit|apply CG.scope|apply NG.ret_then|apply NG.ret_block|apply NG.ret_scope|apply NG.exit_then|refine NG.exit_block rfl ?_|refine NG.exit_other rfl ?_|apply NG.exit_scope|apply NG.normal_block|apply NG.normal_scope|refine SG.val rfl rfl rfl rfl (by first|((first|apply qmv|apply qas|apply qlc|apply qla|apply qfa|apply qnc|apply qic|apply qix|apply qpk|apply qls|apply qei|apply qni|apply qed|apply qnd|apply qad|apply qln|apply qle|apply qgt|apply qge|apply qlk|apply qlv|apply qxt|apply qsb|apply qnt|apply qep|apply qnp|apply qeb|apply qnb|apply qcv|apply qlm|apply qfr|apply qto|apply qmx|apply qen|apply qsn)<;>(first|exact rfl|exact Ar.mk (by omega)|assumption|exact dct (by assumption)|exact dcf (by assumption)|exact dct (by omega)|exact dcf (by omega)|exact List.not_mem_nil|exact dc_length _|exact nc_length _|exact rc_length _ _ _|exact ec_length _|exact nm1 (by omega)|exact nm2 (by omega) (by omega)|exact dct rfl|exact dct (by decide)|exact dcf (by decide)|exact (Int.toNat_of_nonneg (by omega)).symm|exact dcu|exact lk1 (by assumption)|exact lk0 (by assumption)|exact lkb|fail))|fail) ?_)
    refine CG.cond_t rfl (by exact rho_of rfl) rfl ?_
    repeat (first|apply CG.seq|apply CG.region|apply SG.nil|apply NG.next|apply CG.skip|apply CG.block|apply CG.ret|apply CG.exit|apply CG.scope|apply NG.ret_then|apply NG.ret_block|apply NG.ret_scope|apply NG.exit_then|refine NG.exit_block rfl ?_|refine NG.exit_other rfl ?_|apply NG.exit_scope|apply NG.normal_block|apply NG.normal_scope|refine SG.val rfl rfl rfl rfl (by first|((first|apply qmv|apply qas|apply qlc|apply qla|apply qfa|apply qnc|apply qic|apply qix|apply qpk|apply qls|apply qei|apply qni|apply qed|apply qnd|apply qad|apply qln|apply qle|apply qgt|apply qge|apply qlk|apply qlv|apply qxt|apply qsb|apply qnt|apply qep|apply qnp|apply qeb|apply qnb|apply qcv|apply qlm|apply qfr|apply qto|apply qmx|apply qen|apply qsn)<;>(first|exact rfl|exact Ar.mk (by omega)|assumption|exact dct (by assumption)|exact dcf (by assumption)|exact dct (by omega)|exact dcf (by omega)|exact List.not_mem_nil|exact dc_length _|exact nc_length _|exact rc_length _ _ _|exact ec_length _|exact nm1 (by omega)|exact nm2 (by omega) (by omega)|exact dct rfl|exact dct (by decide)|exact dcf (by decide)|exact (Int.toNat_of_nonneg (by omega)).symm|exact dcu|exact lk1 (by assumption)|exact lk0 (by assumption)|exact lkb|fail))|fail) ?_)
    by_cases hz : pl.length = 0
    · have hpl0 : pl = [] := List.eq_nil_of_length_eq_zero hz
      obtain ⟨ap, cp, hpv⟩ : ∃ a c, pv = .slice a 0 c := by
        obtain ⟨_, ⟨h0, _⟩ | ⟨g', cap', cur', hv', _⟩⟩ := hown
        · exact ⟨none, 0, h0⟩
        · exact ⟨_, _, by rw [hv', hz]⟩
      subst hpv
      refine SG.appendZero rfl rfl rfl (by exact rho_of rfl) (by exact rho_of rfl) hncap ?_
      repeat (first|apply CG.seq|apply CG.region|apply SG.nil|apply NG.next|apply CG.skip|apply CG.block|apply CG.ret|apply CG.exit|apply CG.scope|apply NG.ret_then|apply NG.ret_block|apply NG.ret_scope|apply NG.exit_then|refine NG.exit_block rfl ?_|refine NG.exit_other rfl ?_|apply NG.exit_scope|apply NG.normal_block|apply NG.normal_scope|refine SG.val rfl rfl rfl rfl (by first|((first|apply qmv|apply qas|apply qlc|apply qla|apply qfa|apply qnc|apply qic|apply qix|apply qpk|apply qls|apply qei|apply qni|apply qed|apply qnd|apply qad|apply qln|apply qle|apply qgt|apply qge|apply qlk|apply qlv|apply qxt|apply qsb|apply qnt|apply qep|apply qnp|apply qeb|apply qnb|apply qcv|apply qlm|apply qfr|apply qto|apply qmx|apply qen|apply qsn)<;>(first|exact rfl|exact Ar.mk (by omega)|assumption|exact dct (by assumption)|exact dcf (by assumption)|exact dct (by omega)|exact dcf (by omega)|exact List.not_mem_nil|exact dc_length _|exact nc_length _|exact rc_length _ _ _|exact ec_length _|exact nm1 (by omega)|exact nm2 (by omega) (by omega)|exact dct rfl|exact dct (by decide)|exact dcf (by decide)|exact (Int.toNat_of_nonneg (by omega)).symm|exact dcu|exact lk1 (by assumption)|exact lk0 (by assumption)|exact lkb|fail))|fail) ?_)
      have e0 : pcs (done ++ [(k, Value.slice ap 0 cp, pl)]) = pcs done := by rw [hsnoc, hpl0, List.append_nil]
      exact NG.round (.slice (some ⟨g, 0, none⟩) (pcs done).length cap, done ++ [(k, .slice ap 0 cp, pl)], pre ++ post, some (k, .slice ap 0 cp, pl)) (by (repeat' (first | exact True.intro | exact rfl | refine And.intro ?_ ?_))) ⟨hk04, by omega, hI4, hperm, by simp only; rw [e0]; exact ho4, hnr, g, cap, by simp only; rw [e0]⟩ (by simp only [hl4]; simp)
    · obtain ⟨g2, cap2, hpv⟩ : ∃ g2 cap2, pv = .slice (some ⟨g2, 0, none⟩) pl.length cap2 := by
        obtain ⟨_, ⟨_, h0⟩ | ⟨g', cap', cur', hv', _⟩⟩ := hown
        · exact absurd h0 hz
        · exact ⟨_, _, hv'⟩
      subst hpv
      have hrow := own_row hown
      refine SG.appendW rfl rfl rfl (by exact rho_of rfl) (by exact rho_of rfl) rfl rfl rfl ho4 hrow (by rw [flt_length pcl_length]; rfl) (flt_all pcl_one _) (by simp only [maxLen]; omega) (by show ((pcs done).length + pl.length) * 56 ≤ _; omega) (by omega) (fun v' w5 hk5 ho5 hwh => ?_)
      repeat (first|apply CG.seq|apply CG.region|apply SG.nil|apply NG.next|apply CG.skip|apply CG.block|apply CG.ret|apply CG.exit|apply CG.scope|apply NG.ret_then|apply NG.ret_block|apply NG.ret_scope|apply NG.exit_then|refine NG.exit_block rfl ?_|refine NG.exit_other rfl ?_|apply NG.exit_scope|apply NG.normal_block|apply NG.normal_scope|refine SG.val rfl rfl rfl rfl (by first|((first|apply qmv|apply qas|apply qlc|apply qla|apply qfa|apply qnc|apply qic|apply qix|apply qpk|apply qls|apply qei|apply qni|apply qed|apply qnd|apply qad|apply qln|apply qle|apply qgt|apply qge|apply qlk|apply qlv|apply qxt|apply qsb|apply qnt|apply qep|apply qnp|apply qeb|apply qnb|apply qcv|apply qlm|apply qfr|apply qto|apply qmx|apply qen|apply qsn)<;>(first|exact rfl|exact Ar.mk (by omega)|assumption|exact dct (by assumption)|exact dcf (by assumption)|exact dct (by omega)|exact dcf (by omega)|exact List.not_mem_nil|exact dc_length _|exact nc_length _|exact rc_length _ _ _|exact ec_length _|exact nm1 (by omega)|exact nm2 (by omega) (by omega)|exact dct rfl|exact dct (by decide)|exact dcf (by decide)|exact (Int.toNat_of_nonneg (by omega)).symm|exact dcu|exact lk1 (by assumption)|exact lk0 (by assumption)|exact lkb|fail))|fail) ?_)
      have hnb : ∀ z, z < w.heap.size → z ∉ ownB (.slice (some ⟨g, 0, none⟩) (pcs done).length cap) := own_nb ho
      have hnr2 : r ∉ ownB (.slice (some ⟨g, 0, none⟩) (pcs done).length cap) := fun hm => hnr (by simpa [ownB, Value.ownBlock, eq_comm] using hm)
      have s5 := hk5.size
      obtain ⟨g5, cap5, hv5⟩ : ∃ g5 cap5, v' = .slice (some ⟨g5, 0, none⟩) ((pcs done).length + pl.length) cap5 := by
        obtain ⟨_, ⟨_, h0⟩ | ⟨g', cap', cur', hv', _⟩⟩ := ho5
        · omega
        · exact ⟨_, _, hv'⟩
      refine NG.round (v', done ++ [(k, .slice (some ⟨g2, 0, none⟩) pl.length cap2, pl)], pre ++ post, some (k, .slice (some ⟨g2, 0, none⟩) pl.length cap2, pl)) (by (repeat' (first | exact True.intro | exact rfl | refine And.intro ?_ ?_))) ⟨hk04.trans_new hk5 (own_new ho (Nat.le_refl _)), by omega, hI4.kp hk5 hnr2 (hnb bm eM), hperm, ?_, ?_, g5, cap5, ?_⟩ (by simp only [hl4]; simp)
      · simp only
        rw [hsnoc, List.length_append, flt_append]
        exact ho5
      · simp only
        intro hv
        rcases hwh r hv with h | h
        · exact hnr h
        · omega
      · simp only
        rw [hsnoc, List.length_append]
        exact hv5
end Go.Proofs.Ytfelaicoedlejaa
/-
  Are two nets the same? At memory's level.
-/
namespace Go.Proofs.Ytfelaicoedlejaa
open Go.Proofs Go.Shelf Go.Sort
set_option linter.unusedVariables false

/-- Are two parcels the same, but for their numbers? -/
def pceq (p q : Pc) : Bool := decide (p.cp.fr = q.cp.fr ∧ p.cp.to = q.cp.to ∧ p.cp.due = q.cp.due ∧ p.cp.bs = q.cp.bs)
def pceqs : List Pc → List Pc → Bool
  | [], [] => true
  | p :: l, q :: m => pceq p q && pceqs l m
  | _, _ => false
theorem pceqs_get : ∀ {l m : List Pc}, l.length = m.length → (pceqs l m = true ↔ ∀ i (h : i < l.length) (h' : i < m.length), pceq l[i] m[i] = true)
  | [], [], _ => by simp [pceqs]
  | [], _ :: _, h => by simp at h
  | _ :: _, [], h => by simp at h
  | p :: l, q :: m, h => by
    simp only [pceqs, Bool.and_eq_true]
    rw [pceqs_get (by simpa using h)]
    constructor
    · rintro ⟨h1, h2⟩ i hi hi'
      cases i with
      | zero => exact h1
      | succ i => exact h2 i (by simpa using hi) (by simpa using hi')
    · intro h1
      exact ⟨h1 0 (by simp) (by simp), fun i hi hi' => h1 (i + 1) (by simpa using hi) (by simpa using hi')⟩
theorem pceqs_len : ∀ {l m : List Pc}, l.length ≠ m.length → pceqs l m = false
  | [], [], h => absurd rfl h
  | [], _ :: _, _ => rfl
  | _ :: _, [], _ => rfl
  | p :: l, q :: m, h => by
    simp only [pceqs]
    rw [pceqs_len (by simpa using h), Bool.and_false]

attribute [local irreducible] CG NG SG Vals Der Row Blk MapIs IterAt DerX sv
set_option maxHeartbeats 8000000 in
theorem beq_spec {w : World} {a b : Option Addr} {l m : List UInt8} (c d : Nat) (h : Sl byc 1 w a l) (h' : Sl byc 1 w b m) : Ret Try.prog 34 #[.slice a l.length c, .slice b m.length d] w (.bool (decide (l = m))) := by
  refine enter2 Try.func34 rfl Try.ntmps34 rfl ?_
  repeat (first|apply CG.seq|apply CG.region|apply SG.nil|apply NG.next|apply CG.skip|apply CG.block|apply CG.ret|apply CG.exit|apply CG.scope|apply NG.ret_then|apply NG.ret_block|apply NG.ret_scope|apply NG.exit_then|refine NG.exit_block rfl ?_|refine NG.exit_other rfl ?_|apply NG.exit_scope|apply NG.normal_block|apply NG.normal_scope|refine SG.val rfl rfl rfl rfl (by first|((first|apply qmv|apply qas|apply qlc|apply qla|apply qfa|apply qnc|apply qic|apply qix|apply qpk|apply qls|apply qei|apply qni|apply qed|apply qnd|apply qad|apply qln|apply qle|apply qgt|apply qge|apply qlk|apply qlv|apply qxt|apply qsb|apply qnt|apply qep|apply qnp|apply qeb|apply qnb|apply qcv|apply qlm|apply qfr|apply qto|apply qmx|apply qen|apply qsn)<;>(first|exact rfl|exact Ar.mk (by omega)|assumption|exact dct (by assumption)|exact dcf (by assumption)|exact dct (by omega)|exact dcf (by omega)|exact List.not_mem_nil|exact dc_length _|exact nc_length _|exact rc_length _ _ _|exact ec_length _|exact nm1 (by omega)|exact nm2 (by omega) (by omega)|exact dct rfl|exact dct (by decide)|exact dcf (by decide)|exact (Int.toNat_of_nonneg (by omega)).symm|exact dcu|exact lk1 (by assumption)|exact lk0 (by assumption)|exact lkb|fail))|fail) ?_)
  refine SG.val rfl rfl rfl rfl (qbs (l := l) rfl h rfl (fun _ _ _ => List.not_mem_nil)) ?_
  repeat (first|apply CG.seq|apply CG.region|apply SG.nil|apply NG.next|apply CG.skip|apply CG.block|apply CG.ret|apply CG.exit|apply CG.scope|apply NG.ret_then|apply NG.ret_block|apply NG.ret_scope|apply NG.exit_then|refine NG.exit_block rfl ?_|refine NG.exit_other rfl ?_|apply NG.exit_scope|apply NG.normal_block|apply NG.normal_scope|refine SG.val rfl rfl rfl rfl (by first|((first|apply qmv|apply qas|apply qlc|apply qla|apply qfa|apply qnc|apply qic|apply qix|apply qpk|apply qls|apply qei|apply qni|apply qed|apply qnd|apply qad|apply qln|apply qle|apply qgt|apply qge|apply qlk|apply qlv|apply qxt|apply qsb|apply qnt|apply qep|apply qnp|apply qeb|apply qnb|apply qcv|apply qlm|apply qfr|apply qto|apply qmx|apply qen|apply qsn)<;>(first|exact rfl|exact Ar.mk (by omega)|assumption|exact dct (by assumption)|exact dcf (by assumption)|exact dct (by omega)|exact dcf (by omega)|exact List.not_mem_nil|exact dc_length _|exact nc_length _|exact rc_length _ _ _|exact ec_length _|exact nm1 (by omega)|exact nm2 (by omega) (by omega)|exact dct rfl|exact dct (by decide)|exact dcf (by decide)|exact (Int.toNat_of_nonneg (by omega)).symm|exact dcu|exact lk1 (by assumption)|exact lk0 (by assumption)|exact lkb|fail))|fail) ?_)
  refine SG.val rfl rfl rfl rfl (qbs (l := m) rfl h' rfl (fun _ _ _ => List.not_mem_nil)) ?_
  refine SG.val rfl rfl rfl rfl (qes (a := l) (b := m) rfl rfl dcu) ?_
  repeat (first|apply CG.seq|apply CG.region|apply SG.nil|apply NG.next|apply CG.skip|apply CG.block|apply CG.ret|apply CG.exit|apply CG.scope|apply NG.ret_then|apply NG.ret_block|apply NG.ret_scope|apply NG.exit_then|refine NG.exit_block rfl ?_|refine NG.exit_other rfl ?_|apply NG.exit_scope|apply NG.normal_block|apply NG.normal_scope|refine SG.val rfl rfl rfl rfl (by first|((first|apply qmv|apply qas|apply qlc|apply qla|apply qfa|apply qnc|apply qic|apply qix|apply qpk|apply qls|apply qei|apply qni|apply qed|apply qnd|apply qad|apply qln|apply qle|apply qgt|apply qge|apply qlk|apply qlv|apply qxt|apply qsb|apply qnt|apply qep|apply qnp|apply qeb|apply qnb|apply qcv|apply qlm|apply qfr|apply qto|apply qmx|apply qen|apply qsn)<;>(first|exact rfl|exact Ar.mk (by omega)|assumption|exact dct (by assumption)|exact dcf (by assumption)|exact dct (by omega)|exact dcf (by omega)|exact List.not_mem_nil|exact dc_length _|exact nc_length _|exact rc_length _ _ _|exact ec_length _|exact nm1 (by omega)|exact nm2 (by omega) (by omega)|exact dct rfl|exact dct (by decide)|exact dcf (by decide)|exact (Int.toNat_of_nonneg (by omega)).symm|exact dcu|exact lk1 (by assumption)|exact lk0 (by assumption)|exact lkb|fail))|fail) ?_)
  refine ret1 (Or.inl rfl) Try.results34 (by first | exact ResV.tmp rfl | exact ResV.agg rfl rfl (by assumption) (by first | exact dc_length _ | exact nc_length _ | exact rc_length _ _ _ | exact ec_length _ | rfl) | exact ResV.cell rfl rfl (by assumption)) ?_
  exact ⟨rfl, Kp.refl _ _⟩
set_option maxHeartbeats 16000000 in
theorem pceq_spec (p q : Pc) (w : World) (hp : Sl byc 1 w p.a p.cp.bs) (hq : Sl byc 1 w q.a q.cp.bs) : Ret Try.prog 33 #[.agg (pcl p).toArray, .agg (pcl q).toArray] w (.bool (pceq p q)) := by
  refine enter2 Try.func33 rfl Try.ntmps33 rfl ?_
  repeat (first|apply CG.seq|apply CG.region|apply SG.nil|apply NG.next|apply CG.skip|apply CG.block|apply CG.ret|apply CG.exit|apply CG.scope|apply NG.ret_then|apply NG.ret_block|apply NG.ret_scope|apply NG.exit_then|refine NG.exit_block rfl ?_|refine NG.exit_other rfl ?_|apply NG.exit_scope|apply NG.normal_block|apply NG.normal_scope|refine SG.val rfl rfl rfl rfl (by first|((first|apply qmv|apply qas|apply qlc|apply qla|apply qfa|apply qnc|apply qic|apply qix|apply qpk|apply qls|apply qei|apply qni|apply qed|apply qnd|apply qad|apply qln|apply qle|apply qgt|apply qge|apply qlk|apply qlv|apply qxt|apply qsb|apply qnt|apply qep|apply qnp|apply qeb|apply qnb|apply qcv|apply qlm|apply qfr|apply qto|apply qmx|apply qen|apply qsn)<;>(first|exact rfl|exact Ar.mk (by omega)|assumption|exact dct (by assumption)|exact dcf (by assumption)|exact dct (by omega)|exact dcf (by omega)|exact List.not_mem_nil|exact dc_length _|exact nc_length _|exact rc_length _ _ _|exact ec_length _|exact nm1 (by omega)|exact nm2 (by omega) (by omega)|exact dct rfl|exact dct (by decide)|exact dcf (by decide)|exact (Int.toNat_of_nonneg (by omega)).symm|exact dcu|exact lk1 (by assumption)|exact lk0 (by assumption)|exact lkb|fail))|fail) ?_)
  refine SG.box rfl rfl rfl (by exact rho_of rfl) (fun b2 w1 hk1 hb2 hB2 => ?_)
  refine SG.box rfl rfl rfl (by exact rho_of rfl) (fun b3 w2 hk2 hb3 hB3 => ?_)
  have hB2 : Blk w1 b2 (.cells (pcl p).toArray 77) := hB2
  have hB3 : Blk w2 b3 (.cells (pcl q).toArray 77) := hB3
  obtain ⟨r0, r1, r2, r3, r4⟩ := pc_rows (hB2.kp0 hk2)
  obtain ⟨t0, t1, t2, t3, t4⟩ := pc_rows hB3
  have hk := hk1.trans hk2
  by_cases g1 : (p.cp.fr : Int) = (q.cp.fr : Int)
  case neg =>
    repeat (first | first|apply CG.seq|apply CG.region|apply SG.nil|apply NG.next|apply CG.skip|apply CG.block|apply CG.ret|apply CG.exit|apply CG.scope|apply NG.ret_then|apply NG.ret_block|apply NG.ret_scope|apply NG.exit_then|refine NG.exit_block rfl ?_|refine NG.exit_other rfl ?_|apply NG.exit_scope|apply NG.normal_block|apply NG.normal_scope|refine SG.val rfl rfl rfl rfl (by first|((first|apply qmv|apply qas|apply qlc|apply qla|apply qfa|apply qnc|apply qic|apply qix|apply qpk|apply qls|apply qei|apply qni|apply qed|apply qnd|apply qad|apply qln|apply qle|apply qgt|apply qge|apply qlk|apply qlv|apply qxt|apply qsb|apply qnt|apply qep|apply qnp|apply qeb|apply qnb|apply qcv|apply qlm|apply qfr|apply qto|apply qmx|apply qen|apply qsn)<;>(first|exact rfl|exact Ar.mk (by omega)|assumption|exact dct (by assumption)|exact dcf (by assumption)|exact dct (by omega)|exact dcf (by omega)|exact List.not_mem_nil|exact dc_length _|exact nc_length _|exact rc_length _ _ _|exact ec_length _|exact nm1 (by omega)|exact nm2 (by omega) (by omega)|exact dct rfl|exact dct (by decide)|exact dcf (by decide)|exact (Int.toNat_of_nonneg (by omega)).symm|exact dcu|exact lk1 (by assumption)|exact lk0 (by assumption)|exact lkb|fail))|fail) ?_ | refine SG.skip rfl rfl ?_)
    refine ret1 (Or.inl rfl) Try.results33 (by first | exact ResV.tmp rfl | exact ResV.agg rfl rfl (by assumption) (by first | exact dc_length _ | exact nc_length _ | exact rc_length _ _ _ | exact ec_length _ | rfl) | exact ResV.cell rfl rfl (by assumption)) ?_
    refine ⟨?_, hk⟩
    have : pceq p q = false := decide_eq_false (fun h => g1 (by rw [h.1]))
    rw [this]
  by_cases g2 : (p.cp.to : Int) = (q.cp.to : Int)
  case neg =>
    repeat (first | first|apply CG.seq|apply CG.region|apply SG.nil|apply NG.next|apply CG.skip|apply CG.block|apply CG.ret|apply CG.exit|apply CG.scope|apply NG.ret_then|apply NG.ret_block|apply NG.ret_scope|apply NG.exit_then|refine NG.exit_block rfl ?_|refine NG.exit_other rfl ?_|apply NG.exit_scope|apply NG.normal_block|apply NG.normal_scope|refine SG.val rfl rfl rfl rfl (by first|((first|apply qmv|apply qas|apply qlc|apply qla|apply qfa|apply qnc|apply qic|apply qix|apply qpk|apply qls|apply qei|apply qni|apply qed|apply qnd|apply qad|apply qln|apply qle|apply qgt|apply qge|apply qlk|apply qlv|apply qxt|apply qsb|apply qnt|apply qep|apply qnp|apply qeb|apply qnb|apply qcv|apply qlm|apply qfr|apply qto|apply qmx|apply qen|apply qsn)<;>(first|exact rfl|exact Ar.mk (by omega)|assumption|exact dct (by assumption)|exact dcf (by assumption)|exact dct (by omega)|exact dcf (by omega)|exact List.not_mem_nil|exact dc_length _|exact nc_length _|exact rc_length _ _ _|exact ec_length _|exact nm1 (by omega)|exact nm2 (by omega) (by omega)|exact dct rfl|exact dct (by decide)|exact dcf (by decide)|exact (Int.toNat_of_nonneg (by omega)).symm|exact dcu|exact lk1 (by assumption)|exact lk0 (by assumption)|exact lkb|fail))|fail) ?_ | refine SG.skip rfl rfl ?_)
    refine ret1 (Or.inl rfl) Try.results33 (by first | exact ResV.tmp rfl | exact ResV.agg rfl rfl (by assumption) (by first | exact dc_length _ | exact nc_length _ | exact rc_length _ _ _ | exact ec_length _ | rfl) | exact ResV.cell rfl rfl (by assumption)) ?_
    refine ⟨?_, hk⟩
    have : pceq p q = false := decide_eq_false (fun h => g2 (by rw [h.2.1]))
    rw [this]
  by_cases g3 : (p.cp.due : Int) = (q.cp.due : Int)
  case neg =>
    repeat (first | first|apply CG.seq|apply CG.region|apply SG.nil|apply NG.next|apply CG.skip|apply CG.block|apply CG.ret|apply CG.exit|apply CG.scope|apply NG.ret_then|apply NG.ret_block|apply NG.ret_scope|apply NG.exit_then|refine NG.exit_block rfl ?_|refine NG.exit_other rfl ?_|apply NG.exit_scope|apply NG.normal_block|apply NG.normal_scope|refine SG.val rfl rfl rfl rfl (by first|((first|apply qmv|apply qas|apply qlc|apply qla|apply qfa|apply qnc|apply qic|apply qix|apply qpk|apply qls|apply qei|apply qni|apply qed|apply qnd|apply qad|apply qln|apply qle|apply qgt|apply qge|apply qlk|apply qlv|apply qxt|apply qsb|apply qnt|apply qep|apply qnp|apply qeb|apply qnb|apply qcv|apply qlm|apply qfr|apply qto|apply qmx|apply qen|apply qsn)<;>(first|exact rfl|exact Ar.mk (by omega)|assumption|exact dct (by assumption)|exact dcf (by assumption)|exact dct (by omega)|exact dcf (by omega)|exact List.not_mem_nil|exact dc_length _|exact nc_length _|exact rc_length _ _ _|exact ec_length _|exact nm1 (by omega)|exact nm2 (by omega) (by omega)|exact dct rfl|exact dct (by decide)|exact dcf (by decide)|exact (Int.toNat_of_nonneg (by omega)).symm|exact dcu|exact lk1 (by assumption)|exact lk0 (by assumption)|exact lkb|fail))|fail) ?_ | refine SG.skip rfl rfl ?_)
    refine ret1 (Or.inl rfl) Try.results33 (by first | exact ResV.tmp rfl | exact ResV.agg rfl rfl (by assumption) (by first | exact dc_length _ | exact nc_length _ | exact rc_length _ _ _ | exact ec_length _ | rfl) | exact ResV.cell rfl rfl (by assumption)) ?_
    refine ⟨?_, hk⟩
    have : pceq p q = false := decide_eq_false (fun h => g3 (by rw [h.2.2.1]))
    rw [this]
  repeat (first | first|apply CG.seq|apply CG.region|apply SG.nil|apply NG.next|apply CG.skip|apply CG.block|apply CG.ret|apply CG.exit|apply CG.scope|apply NG.ret_then|apply NG.ret_block|apply NG.ret_scope|apply NG.exit_then|refine NG.exit_block rfl ?_|refine NG.exit_other rfl ?_|apply NG.exit_scope|apply NG.normal_block|apply NG.normal_scope|refine SG.val rfl rfl rfl rfl (by first|((first|apply qmv|apply qas|apply qlc|apply qla|apply qfa|apply qnc|apply qic|apply qix|apply qpk|apply qls|apply qei|apply qni|apply qed|apply qnd|apply qad|apply qln|apply qle|apply qgt|apply qge|apply qlk|apply qlv|apply qxt|apply qsb|apply qnt|apply qep|apply qnp|apply qeb|apply qnb|apply qcv|apply qlm|apply qfr|apply qto|apply qmx|apply qen|apply qsn)<;>(first|exact rfl|exact Ar.mk (by omega)|assumption|exact dct (by assumption)|exact dcf (by assumption)|exact dct (by omega)|exact dcf (by omega)|exact List.not_mem_nil|exact dc_length _|exact nc_length _|exact rc_length _ _ _|exact ec_length _|exact nm1 (by omega)|exact nm2 (by omega) (by omega)|exact dct rfl|exact dct (by decide)|exact dcf (by decide)|exact (Int.toNat_of_nonneg (by omega)).symm|exact dcu|exact lk1 (by assumption)|exact lk0 (by assumption)|exact lkb|fail))|fail) ?_ | refine SG.skip rfl rfl ?_)
  refine SG.ret rfl rfl rfl (by repeat' (first | exact True.intro | exact rho_of rfl | refine And.intro ?_ ?_)) (beq_spec p.c q.c (hp.kp0 hk) (hq.kp0 hk)) (fun w3 hk3 => ?_)
  repeat (first | first|apply CG.seq|apply CG.region|apply SG.nil|apply NG.next|apply CG.skip|apply CG.block|apply CG.ret|apply CG.exit|apply CG.scope|apply NG.ret_then|apply NG.ret_block|apply NG.ret_scope|apply NG.exit_then|refine NG.exit_block rfl ?_|refine NG.exit_other rfl ?_|apply NG.exit_scope|apply NG.normal_block|apply NG.normal_scope|refine SG.val rfl rfl rfl rfl (by first|((first|apply qmv|apply qas|apply qlc|apply qla|apply qfa|apply qnc|apply qic|apply qix|apply qpk|apply qls|apply qei|apply qni|apply qed|apply qnd|apply qad|apply qln|apply qle|apply qgt|apply qge|apply qlk|apply qlv|apply qxt|apply qsb|apply qnt|apply qep|apply qnp|apply qeb|apply qnb|apply qcv|apply qlm|apply qfr|apply qto|apply qmx|apply qen|apply qsn)<;>(first|exact rfl|exact Ar.mk (by omega)|assumption|exact dct (by assumption)|exact dcf (by assumption)|exact dct (by omega)|exact dcf (by omega)|exact List.not_mem_nil|exact dc_length _|exact nc_length _|exact rc_length _ _ _|exact ec_length _|exact nm1 (by omega)|exact nm2 (by omega) (by omega)|exact dct rfl|exact dct (by decide)|exact dcf (by decide)|exact (Int.toNat_of_nonneg (by omega)).symm|exact dcu|exact lk1 (by assumption)|exact lk0 (by assumption)|exact lkb|fail))|fail) ?_ | refine SG.skip rfl rfl ?_)
  refine ret1 (Or.inl rfl) Try.results33 (by first | exact ResV.tmp rfl | exact ResV.agg rfl rfl (by assumption) (by first | exact dc_length _ | exact nc_length _ | exact rc_length _ _ _ | exact ec_length _ | rfl) | exact ResV.cell rfl rfl (by assumption)) ?_
  refine ⟨?_, hk.trans hk3⟩
  have : pceq p q = decide (p.cp.bs = q.cp.bs) := by
    unfold pceq
    by_cases e : p.cp.bs = q.cp.bs
    · rw [decide_eq_true e]; exact decide_eq_true ⟨by omega, by omega, by omega, e⟩
    · rw [decide_eq_false e]; exact decide_eq_false (fun h => e h.2.2.2)
  rw [this]
set_option maxHeartbeats 16000000 in
theorem eqf_spec {w : World} {a b : Option Addr} {l m : List Pc} (c d : Nat) (h : Sl pcl 5 w a l) (h' : Sl pcl 5 w b m) (hl : l.length ≤ 100000) (hp : ∀ p ∈ l, Sl byc 1 w p.a p.cp.bs) (hq : ∀ p ∈ m, Sl byc 1 w p.a p.cp.bs) : Ret Try.prog 31 #[.slice a l.length c, .slice b m.length d, .func (.func 33) #[] #[]] w (.bool (pceqs l m)) := by
  refine enter3 Try.func31 rfl Try.ntmps31 rfl ?_
  by_cases hlen : (l.length : Int) = (m.length : Int)
  case neg =>
    repeat (first|apply CG.seq|apply CG.region|apply SG.nil|apply NG.next|apply CG.skip|apply CG.block|apply CG.ret|apply CG.exit|apply CG.scope|apply NG.ret_then|apply NG.ret_block|apply NG.ret_scope|apply NG.exit_then|refine NG.exit_block rfl ?_|refine NG.exit_other rfl ?_|apply NG.exit_scope|apply NG.normal_block|apply NG.normal_scope|refine SG.val rfl rfl rfl rfl (by first|((first|apply qmv|apply qas|apply qlc|apply qla|apply qfa|apply qnc|apply qic|apply qix|apply qpk|apply qls|apply qei|apply qni|apply qed|apply qnd|apply qad|apply qln|apply qle|apply qgt|apply qge|apply qlk|apply qlv|apply qxt|apply qsb|apply qnt|apply qep|apply qnp|apply qeb|apply qnb|apply qcv|apply qlm|apply qfr|apply qto|apply qmx|apply qen|apply qsn)<;>(first|exact rfl|exact Ar.mk (by omega)|assumption|exact dct (by assumption)|exact dcf (by assumption)|exact dct (by omega)|exact dcf (by omega)|exact List.not_mem_nil|exact dc_length _|exact nc_length _|exact rc_length _ _ _|exact ec_length _|exact nm1 (by omega)|exact nm2 (by omega) (by omega)|exact dct rfl|exact dct (by decide)|exact dcf (by decide)|exact (Int.toNat_of_nonneg (by omega)).symm|exact dcu|exact lk1 (by assumption)|exact lk0 (by assumption)|exact lkb|fail))|fail) ?_)
    refine CG.cond_t rfl (by exact rho_of rfl) rfl ?_
    repeat (first|apply CG.seq|apply CG.region|apply SG.nil|apply NG.next|apply CG.skip|apply CG.block|apply CG.ret|apply CG.exit|apply CG.scope|apply NG.ret_then|apply NG.ret_block|apply NG.ret_scope|apply NG.exit_then|refine NG.exit_block rfl ?_|refine NG.exit_other rfl ?_|apply NG.exit_scope|apply NG.normal_block|apply NG.normal_scope|refine SG.val rfl rfl rfl rfl (by first|((first|apply qmv|apply qas|apply qlc|apply qla|apply qfa|apply qnc|apply qic|apply qix|apply qpk|apply qls|apply qei|apply qni|apply qed|apply qnd|apply qad|apply qln|apply qle|apply qgt|apply qge|apply qlk|apply qlv|apply qxt|apply qsb|apply qnt|apply qep|apply qnp|apply qeb|apply qnb|apply qcv|apply qlm|apply qfr|apply qto|apply qmx|apply qen|apply qsn)<;>(first|exact rfl|exact Ar.mk (by omega)|assumption|exact dct (by assumption)|exact dcf (by assumption)|exact dct (by omega)|exact dcf (by omega)|exact List.not_mem_nil|exact dc_length _|exact nc_length _|exact rc_length _ _ _|exact ec_length _|exact nm1 (by omega)|exact nm2 (by omega) (by omega)|exact dct rfl|exact dct (by decide)|exact dcf (by decide)|exact (Int.toNat_of_nonneg (by omega)).symm|exact dcu|exact lk1 (by assumption)|exact lk0 (by assumption)|exact lkb|fail))|fail) ?_)
    refine ret1 (Or.inl rfl) Try.results31 (by first | exact ResV.tmp rfl | exact ResV.agg rfl rfl (by assumption) (by first | exact dc_length _ | exact nc_length _ | exact rc_length _ _ _ | exact ec_length _ | rfl) | exact ResV.cell rfl rfl (by assumption)) ?_
    exact ⟨by rw [pceqs_len (by omega)], Kp.refl _ _⟩
  have hlm : l.length = m.length := by omega
  repeat (first|apply CG.seq|apply CG.region|apply SG.nil|apply NG.next|apply CG.skip|apply CG.block|apply CG.ret|apply CG.exit|apply CG.scope|apply NG.ret_then|apply NG.ret_block|apply NG.ret_scope|apply NG.exit_then|refine NG.exit_block rfl ?_|refine NG.exit_other rfl ?_|apply NG.exit_scope|apply NG.normal_block|apply NG.normal_scope|refine SG.val rfl rfl rfl rfl (by first|((first|apply qmv|apply qas|apply qlc|apply qla|apply qfa|apply qnc|apply qic|apply qix|apply qpk|apply qls|apply qei|apply qni|apply qed|apply qnd|apply qad|apply qln|apply qle|apply qgt|apply qge|apply qlk|apply qlv|apply qxt|apply qsb|apply qnt|apply qep|apply qnp|apply qeb|apply qnb|apply qcv|apply qlm|apply qfr|apply qto|apply qmx|apply qen|apply qsn)<;>(first|exact rfl|exact Ar.mk (by omega)|assumption|exact dct (by assumption)|exact dcf (by assumption)|exact dct (by omega)|exact dcf (by omega)|exact List.not_mem_nil|exact dc_length _|exact nc_length _|exact rc_length _ _ _|exact ec_length _|exact nm1 (by omega)|exact nm2 (by omega) (by omega)|exact dct rfl|exact dct (by decide)|exact dcf (by decide)|exact (Int.toNat_of_nonneg (by omega)).symm|exact dcu|exact lk1 (by assumption)|exact lk0 (by assumption)|exact lkb|fail))|fail) ?_)
  refine CG.cond_f rfl (by exact rho_of rfl) rfl ?_
  repeat (first|apply CG.seq|apply CG.region|apply SG.nil|apply NG.next|apply CG.skip|apply CG.block|apply CG.ret|apply CG.exit|apply CG.scope|apply NG.ret_then|apply NG.ret_block|apply NG.ret_scope|apply NG.exit_then|refine NG.exit_block rfl ?_|refine NG.exit_other rfl ?_|apply NG.exit_scope|apply NG.normal_block|apply NG.normal_scope|refine SG.val rfl rfl rfl rfl (by first|((first|apply qmv|apply qas|apply qlc|apply qla|apply qfa|apply qnc|apply qic|apply qix|apply qpk|apply qls|apply qei|apply qni|apply qed|apply qnd|apply qad|apply qln|apply qle|apply qgt|apply qge|apply qlk|apply qlv|apply qxt|apply qsb|apply qnt|apply qep|apply qnp|apply qeb|apply qnb|apply qcv|apply qlm|apply qfr|apply qto|apply qmx|apply qen|apply qsn)<;>(first|exact rfl|exact Ar.mk (by omega)|assumption|exact dct (by assumption)|exact dcf (by assumption)|exact dct (by omega)|exact dcf (by omega)|exact List.not_mem_nil|exact dc_length _|exact nc_length _|exact rc_length _ _ _|exact ec_length _|exact nm1 (by omega)|exact nm2 (by omega) (by omega)|exact dct rfl|exact dct (by decide)|exact dcf (by decide)|exact (Int.toNat_of_nonneg (by omega)).symm|exact dcu|exact lk1 (by assumption)|exact lk0 (by assumption)|exact lkb|fail))|fail) ?_)
  refine CG.loop (X := Nat) (fun x => [(1, .slice b m.length d), (2, .func (.func 33) #[] #[]), (15, .slice a l.length c), (16, .int .i64 l.length), (17, .int .i64 (x : Int))])
    (fun x w' => x ≤ l.length ∧ Kp [] w w' ∧ ∀ j (hj : j < l.length) (hj' : j < m.length), j < x → pceq l[j] m[j] = true)
    (fun x => l.length - x) 0 ⟨Nat.zero_le _, Kp.refl _ _, fun j hj hj' h0 => absurd h0 (by omega)⟩ (by (repeat' (first | exact True.intro | exact rfl | refine And.intro ?_ ?_))) ?_
  rintro i w1 ⟨hi, hk, hbef⟩
  by_cases hlt : i < l.length
  · have g1 : (i : Int) < (l.length : Int) := by omega
    have hltm : i < m.length := by omega
    obtain ⟨ba, oa, rfl, hr⟩ := (h.kp0 hk).at hlt
    obtain ⟨bb, ob, rfl, hr'⟩ := (h'.kp0 hk).at hltm
    obtain ⟨x, hx⟩ : ∃ x, x = l[i] := ⟨_, rfl⟩
    obtain ⟨y, hy⟩ : ∃ y, y = m[i] := ⟨_, rfl⟩
    rw [← hx] at hr
    rw [← hy] at hr'
    have fx := hp x (by rw [hx]; exact List.getElem_mem hlt)
    have fy := hq y (by rw [hy]; exact List.getElem_mem hltm)
    have lx := pcl_length x
    have ly := pcl_length y
    repeat (first|apply CG.seq|apply CG.region|apply SG.nil|apply NG.next|apply CG.skip|apply CG.block|apply CG.ret|apply CG.exit|apply CG.scope|apply NG.ret_then|apply NG.ret_block|apply NG.ret_scope|apply NG.exit_then|refine NG.exit_block rfl ?_|refine NG.exit_other rfl ?_|apply NG.exit_scope|apply NG.normal_block|apply NG.normal_scope|refine SG.val rfl rfl rfl rfl (by first|((first|apply qmv|apply qas|apply qlc|apply qla|apply qfa|apply qnc|apply qic|apply qix|apply qpk|apply qls|apply qei|apply qni|apply qed|apply qnd|apply qad|apply qln|apply qle|apply qgt|apply qge|apply qlk|apply qlv|apply qxt|apply qsb|apply qnt|apply qep|apply qnp|apply qeb|apply qnb|apply qcv|apply qlm|apply qfr|apply qto|apply qmx|apply qen|apply qsn)<;>(first|exact rfl|exact Ar.mk (by omega)|assumption|exact dct (by assumption)|exact dcf (by assumption)|exact dct (by omega)|exact dcf (by omega)|exact List.not_mem_nil|exact dc_length _|exact nc_length _|exact rc_length _ _ _|exact ec_length _|exact nm1 (by omega)|exact nm2 (by omega) (by omega)|exact dct rfl|exact dct (by decide)|exact dcf (by decide)|exact (Int.toNat_of_nonneg (by omega)).symm|exact dcu|exact lk1 (by assumption)|exact lk0 (by assumption)|exact lkb|fail))|fail) ?_)
    refine CG.cond_t rfl (by exact rho_of rfl) rfl ?_
    repeat (first|apply CG.seq|apply CG.region|apply SG.nil|apply NG.next|apply CG.skip|apply CG.block|apply CG.ret|apply CG.exit|apply CG.scope|apply NG.ret_then|apply NG.ret_block|apply NG.ret_scope|apply NG.exit_then|refine NG.exit_block rfl ?_|refine NG.exit_other rfl ?_|apply NG.exit_scope|apply NG.normal_block|apply NG.normal_scope|refine SG.val rfl rfl rfl rfl (by first|((first|apply qmv|apply qas|apply qlc|apply qla|apply qfa|apply qnc|apply qic|apply qix|apply qpk|apply qls|apply qei|apply qni|apply qed|apply qnd|apply qad|apply qln|apply qle|apply qgt|apply qge|apply qlk|apply qlv|apply qxt|apply qsb|apply qnt|apply qep|apply qnp|apply qeb|apply qnb|apply qcv|apply qlm|apply qfr|apply qto|apply qmx|apply qen|apply qsn)<;>(first|exact rfl|exact Ar.mk (by omega)|assumption|exact dct (by assumption)|exact dcf (by assumption)|exact dct (by omega)|exact dcf (by omega)|exact List.not_mem_nil|exact dc_length _|exact nc_length _|exact rc_length _ _ _|exact ec_length _|exact nm1 (by omega)|exact nm2 (by omega) (by omega)|exact dct rfl|exact dct (by decide)|exact dcf (by decide)|exact (Int.toNat_of_nonneg (by omega)).symm|exact dcu|exact lk1 (by assumption)|exact lk0 (by assumption)|exact lkb|fail))|fail) ?_)
    refine SG.alloc rfl rfl rfl (fun b8 w2 hk2 hb8 hB8 => ?_)
    repeat (first|apply CG.seq|apply CG.region|apply SG.nil|apply NG.next|apply CG.skip|apply CG.block|apply CG.ret|apply CG.exit|apply CG.scope|apply NG.ret_then|apply NG.ret_block|apply NG.ret_scope|apply NG.exit_then|refine NG.exit_block rfl ?_|refine NG.exit_other rfl ?_|apply NG.exit_scope|apply NG.normal_block|apply NG.normal_scope|refine SG.val rfl rfl rfl rfl (by first|((first|apply qmv|apply qas|apply qlc|apply qla|apply qfa|apply qnc|apply qic|apply qix|apply qpk|apply qls|apply qei|apply qni|apply qed|apply qnd|apply qad|apply qln|apply qle|apply qgt|apply qge|apply qlk|apply qlv|apply qxt|apply qsb|apply qnt|apply qep|apply qnp|apply qeb|apply qnb|apply qcv|apply qlm|apply qfr|apply qto|apply qmx|apply qen|apply qsn)<;>(first|exact rfl|exact Ar.mk (by omega)|assumption|exact dct (by assumption)|exact dcf (by assumption)|exact dct (by omega)|exact dcf (by omega)|exact List.not_mem_nil|exact dc_length _|exact nc_length _|exact rc_length _ _ _|exact ec_length _|exact nm1 (by omega)|exact nm2 (by omega) (by omega)|exact dct rfl|exact dct (by decide)|exact dcf (by decide)|exact (Int.toNat_of_nonneg (by omega)).symm|exact dcu|exact lk1 (by assumption)|exact lk0 (by assumption)|exact lkb|fail))|fail) ?_)
    refine SG.setAll (old := pcl ⟨⟨0, 0, [], 0⟩, none, 0, 0⟩) (l := pcl x) rfl rfl (by exact rho_of rfl) (by exact rho_of rfl) hB8 rfl rfl (pcl_one x) (fun w3 hk3 hB8 => ?_)
    have s2 := hk2.size
    have k13 : Kp [] w1 w3 := hk2.trans_new hk3 (new1 (by omega))
    have hr' := hr'.kp0 k13
    have l8 := hB8.lt
    repeat (first|apply CG.seq|apply CG.region|apply SG.nil|apply NG.next|apply CG.skip|apply CG.block|apply CG.ret|apply CG.exit|apply CG.scope|apply NG.ret_then|apply NG.ret_block|apply NG.ret_scope|apply NG.exit_then|refine NG.exit_block rfl ?_|refine NG.exit_other rfl ?_|apply NG.exit_scope|apply NG.normal_block|apply NG.normal_scope|refine SG.val rfl rfl rfl rfl (by first|((first|apply qmv|apply qas|apply qlc|apply qla|apply qfa|apply qnc|apply qic|apply qix|apply qpk|apply qls|apply qei|apply qni|apply qed|apply qnd|apply qad|apply qln|apply qle|apply qgt|apply qge|apply qlk|apply qlv|apply qxt|apply qsb|apply qnt|apply qep|apply qnp|apply qeb|apply qnb|apply qcv|apply qlm|apply qfr|apply qto|apply qmx|apply qen|apply qsn)<;>(first|exact rfl|exact Ar.mk (by omega)|assumption|exact dct (by assumption)|exact dcf (by assumption)|exact dct (by omega)|exact dcf (by omega)|exact List.not_mem_nil|exact dc_length _|exact nc_length _|exact rc_length _ _ _|exact ec_length _|exact nm1 (by omega)|exact nm2 (by omega) (by omega)|exact dct rfl|exact dct (by decide)|exact dcf (by decide)|exact (Int.toNat_of_nonneg (by omega)).symm|exact dcu|exact lk1 (by assumption)|exact lk0 (by assumption)|exact lkb|fail))|fail) ?_)
    refine SG.alloc rfl rfl rfl (fun b9 w4 hk4 hb9 hB9 => ?_)
    refine SG.setAll (old := pcl ⟨⟨0, 0, [], 0⟩, none, 0, 0⟩) (l := pcl y) rfl rfl (by exact rho_of rfl) (by exact rho_of rfl) hB9 rfl rfl (pcl_one y) (fun w5 hk5 hB9 => ?_)
    have s3 := k13.size
    have k15 : Kp [] w1 w5 := (k13.trans hk4).trans_new hk5 (new1 (by omega))
    have hB8 := (hB8.kp0 hk4).kp hk5 (nm1 (by omega))
    have r8 : Row w5 b8 0 (pcl x) := Row.all hB8 rfl
    have r9 : Row w5 b9 0 (pcl y) := Row.all hB9 rfl
    repeat (first|apply CG.seq|apply CG.region|apply SG.nil|apply NG.next|apply CG.skip|apply CG.block|apply CG.ret|apply CG.exit|apply CG.scope|apply NG.ret_then|apply NG.ret_block|apply NG.ret_scope|apply NG.exit_then|refine NG.exit_block rfl ?_|refine NG.exit_other rfl ?_|apply NG.exit_scope|apply NG.normal_block|apply NG.normal_scope|refine SG.val rfl rfl rfl rfl (by first|((first|apply qmv|apply qas|apply qlc|apply qla|apply qfa|apply qnc|apply qic|apply qix|apply qpk|apply qls|apply qei|apply qni|apply qed|apply qnd|apply qad|apply qln|apply qle|apply qgt|apply qge|apply qlk|apply qlv|apply qxt|apply qsb|apply qnt|apply qep|apply qnp|apply qeb|apply qnb|apply qcv|apply qlm|apply qfr|apply qto|apply qmx|apply qen|apply qsn)<;>(first|exact rfl|exact Ar.mk (by omega)|assumption|exact dct (by assumption)|exact dcf (by assumption)|exact dct (by omega)|exact dcf (by omega)|exact List.not_mem_nil|exact dc_length _|exact nc_length _|exact rc_length _ _ _|exact ec_length _|exact nm1 (by omega)|exact nm2 (by omega) (by omega)|exact dct rfl|exact dct (by decide)|exact dcf (by decide)|exact (Int.toNat_of_nonneg (by omega)).symm|exact dcu|exact lk1 (by assumption)|exact lk0 (by assumption)|exact lkb|fail))|fail) ?_)
    refine SG.retV rfl rfl rfl (by exact rho_of rfl) (by repeat' (first | exact True.intro | exact rho_of rfl | refine And.intro ?_ ?_)) (pceq_spec x y w5 ((fx.kp0 hk).kp0 k15) ((fy.kp0 hk).kp0 k15)) (fun w6 hk6 => ?_)
    repeat (first|apply CG.seq|apply CG.region|apply SG.nil|apply NG.next|apply CG.skip|apply CG.block|apply CG.ret|apply CG.exit|apply CG.scope|apply NG.ret_then|apply NG.ret_block|apply NG.ret_scope|apply NG.exit_then|refine NG.exit_block rfl ?_|refine NG.exit_other rfl ?_|apply NG.exit_scope|apply NG.normal_block|apply NG.normal_scope|refine SG.val rfl rfl rfl rfl (by first|((first|apply qmv|apply qas|apply qlc|apply qla|apply qfa|apply qnc|apply qic|apply qix|apply qpk|apply qls|apply qei|apply qni|apply qed|apply qnd|apply qad|apply qln|apply qle|apply qgt|apply qge|apply qlk|apply qlv|apply qxt|apply qsb|apply qnt|apply qep|apply qnp|apply qeb|apply qnb|apply qcv|apply qlm|apply qfr|apply qto|apply qmx|apply qen|apply qsn)<;>(first|exact rfl|exact Ar.mk (by omega)|assumption|exact dct (by assumption)|exact dcf (by assumption)|exact dct (by omega)|exact dcf (by omega)|exact List.not_mem_nil|exact dc_length _|exact nc_length _|exact rc_length _ _ _|exact ec_length _|exact nm1 (by omega)|exact nm2 (by omega) (by omega)|exact dct rfl|exact dct (by decide)|exact dcf (by decide)|exact (Int.toNat_of_nonneg (by omega)).symm|exact dcu|exact lk1 (by assumption)|exact lk0 (by assumption)|exact lkb|fail))|fail) ?_)
    cases hb : pceq x y with
    | true =>
      refine CG.cond_f rfl (by exact rho_of rfl) rfl ?_
      repeat (first|apply CG.seq|apply CG.region|apply SG.nil|apply NG.next|apply CG.skip|apply CG.block|apply CG.ret|apply CG.exit|apply CG.scope|apply NG.ret_then|apply NG.ret_block|apply NG.ret_scope|apply NG.exit_then|refine NG.exit_block rfl ?_|refine NG.exit_other rfl ?_|apply NG.exit_scope|apply NG.normal_block|apply NG.normal_scope|refine SG.val rfl rfl rfl rfl (by first|((first|apply qmv|apply qas|apply qlc|apply qla|apply qfa|apply qnc|apply qic|apply qix|apply qpk|apply qls|apply qei|apply qni|apply qed|apply qnd|apply qad|apply qln|apply qle|apply qgt|apply qge|apply qlk|apply qlv|apply qxt|apply qsb|apply qnt|apply qep|apply qnp|apply qeb|apply qnb|apply qcv|apply qlm|apply qfr|apply qto|apply qmx|apply qen|apply qsn)<;>(first|exact rfl|exact Ar.mk (by omega)|assumption|exact dct (by assumption)|exact dcf (by assumption)|exact dct (by omega)|exact dcf (by omega)|exact List.not_mem_nil|exact dc_length _|exact nc_length _|exact rc_length _ _ _|exact ec_length _|exact nm1 (by omega)|exact nm2 (by omega) (by omega)|exact dct rfl|exact dct (by decide)|exact dcf (by decide)|exact (Int.toNat_of_nonneg (by omega)).symm|exact dcu|exact lk1 (by assumption)|exact lk0 (by assumption)|exact lkb|fail))|fail) ?_)
      refine NG.round (i + 1) (by (repeat' (first | exact True.intro | exact rfl | refine And.intro ?_ ?_))) ⟨hlt, (hk.trans k15).trans hk6, fun j hj hj' h0 => ?_⟩ (by omega)
      by_cases ej : j = i
      · subst ej
        rw [← hx, ← hy]
        exact hb
      · exact hbef j hj hj' (by omega)
    | false =>
      refine CG.cond_t rfl (by exact rho_of rfl) rfl ?_
      repeat (first|apply CG.seq|apply CG.region|apply SG.nil|apply NG.next|apply CG.skip|apply CG.block|apply CG.ret|apply CG.exit|apply CG.scope|apply NG.ret_then|apply NG.ret_block|apply NG.ret_scope|apply NG.exit_then|refine NG.exit_block rfl ?_|refine NG.exit_other rfl ?_|apply NG.exit_scope|apply NG.normal_block|apply NG.normal_scope|refine SG.val rfl rfl rfl rfl (by first|((first|apply qmv|apply qas|apply qlc|apply qla|apply qfa|apply qnc|apply qic|apply qix|apply qpk|apply qls|apply qei|apply qni|apply qed|apply qnd|apply qad|apply qln|apply qle|apply qgt|apply qge|apply qlk|apply qlv|apply qxt|apply qsb|apply qnt|apply qep|apply qnp|apply qeb|apply qnb|apply qcv|apply qlm|apply qfr|apply qto|apply qmx|apply qen|apply qsn)<;>(first|exact rfl|exact Ar.mk (by omega)|assumption|exact dct (by assumption)|exact dcf (by assumption)|exact dct (by omega)|exact dcf (by omega)|exact List.not_mem_nil|exact dc_length _|exact nc_length _|exact rc_length _ _ _|exact ec_length _|exact nm1 (by omega)|exact nm2 (by omega) (by omega)|exact dct rfl|exact dct (by decide)|exact dcf (by decide)|exact (Int.toNat_of_nonneg (by omega)).symm|exact dcu|exact lk1 (by assumption)|exact lk0 (by assumption)|exact lkb|fail))|fail) ?_)
      refine ret1 (Or.inl rfl) Try.results31 (by first | exact ResV.tmp rfl | exact ResV.agg rfl rfl (by assumption) (by first | exact dc_length _ | exact nc_length _ | exact rc_length _ _ _ | exact ec_length _ | rfl) | exact ResV.cell rfl rfl (by assumption)) ?_
      refine ⟨?_, (hk.trans k15).trans hk6⟩
      have : pceqs l m = false := by
        cases hh : pceqs l m with
        | false => rfl
        | true =>
          have := (pceqs_get hlm).1 hh i hlt hltm
          rw [← hx, ← hy, hb] at this
          cases this
      rw [this]
  · have g1 : ¬ (i : Int) < (l.length : Int) := by omega
    repeat (first|apply CG.seq|apply CG.region|apply SG.nil|apply NG.next|apply CG.skip|apply CG.block|apply CG.ret|apply CG.exit|apply CG.scope|apply NG.ret_then|apply NG.ret_block|apply NG.ret_scope|apply NG.exit_then|refine NG.exit_block rfl ?_|refine NG.exit_other rfl ?_|apply NG.exit_scope|apply NG.normal_block|apply NG.normal_scope|refine SG.val rfl rfl rfl rfl (by first|((first|apply qmv|apply qas|apply qlc|apply qla|apply qfa|apply qnc|apply qic|apply qix|apply qpk|apply qls|apply qei|apply qni|apply qed|apply qnd|apply qad|apply qln|apply qle|apply qgt|apply qge|apply qlk|apply qlv|apply qxt|apply qsb|apply qnt|apply qep|apply qnp|apply qeb|apply qnb|apply qcv|apply qlm|apply qfr|apply qto|apply qmx|apply qen|apply qsn)<;>(first|exact rfl|exact Ar.mk (by omega)|assumption|exact dct (by assumption)|exact dcf (by assumption)|exact dct (by omega)|exact dcf (by omega)|exact List.not_mem_nil|exact dc_length _|exact nc_length _|exact rc_length _ _ _|exact ec_length _|exact nm1 (by omega)|exact nm2 (by omega) (by omega)|exact dct rfl|exact dct (by decide)|exact dcf (by decide)|exact (Int.toNat_of_nonneg (by omega)).symm|exact dcu|exact lk1 (by assumption)|exact lk0 (by assumption)|exact lkb|fail))|fail) ?_)
    refine CG.cond_f rfl (by exact rho_of rfl) rfl ?_
    repeat (first|apply CG.seq|apply CG.region|apply SG.nil|apply NG.next|apply CG.skip|apply CG.block|apply CG.ret|apply CG.exit|apply CG.scope|apply NG.ret_then|apply NG.ret_block|apply NG.ret_scope|apply NG.exit_then|refine NG.exit_block rfl ?_|refine NG.exit_other rfl ?_|apply NG.exit_scope|apply NG.normal_block|apply NG.normal_scope|refine SG.val rfl rfl rfl rfl (by first|((first|apply qmv|apply qas|apply qlc|apply qla|apply qfa|apply qnc|apply qic|apply qix|apply qpk|apply qls|apply qei|apply qni|apply qed|apply qnd|apply qad|apply qln|apply qle|apply qgt|apply qge|apply qlk|apply qlv|apply qxt|apply qsb|apply qnt|apply qep|apply qnp|apply qeb|apply qnb|apply qcv|apply qlm|apply qfr|apply qto|apply qmx|apply qen|apply qsn)<;>(first|exact rfl|exact Ar.mk (by omega)|assumption|exact dct (by assumption)|exact dcf (by assumption)|exact dct (by omega)|exact dcf (by omega)|exact List.not_mem_nil|exact dc_length _|exact nc_length _|exact rc_length _ _ _|exact ec_length _|exact nm1 (by omega)|exact nm2 (by omega) (by omega)|exact dct rfl|exact dct (by decide)|exact dcf (by decide)|exact (Int.toNat_of_nonneg (by omega)).symm|exact dcu|exact lk1 (by assumption)|exact lk0 (by assumption)|exact lkb|fail))|fail) ?_)
    refine ret1 (Or.inl rfl) Try.results31 (by first | exact ResV.tmp rfl | exact ResV.agg rfl rfl (by assumption) (by first | exact dc_length _ | exact nc_length _ | exact rc_length _ _ _ | exact ec_length _ | rfl) | exact ResV.cell rfl rfl (by assumption)) ?_
    have : pceqs l m = true := (pceqs_get hlm).2 (fun j hj hj' => hbef j hj hj' (by omega))
    exact ⟨by rw [this], hk⟩
end Go.Proofs.Ytfelaicoedlejaa
/-
  Are two nets the same? The walk.
-/
namespace Go.Proofs.Ytfelaicoedlejaa
open Go.Proofs Go.Shelf Go.Sort
set_option linter.unusedVariables false

theorem mapM_some {α β : Type} {f : α → Option β} : ∀ {l : List α}, (∀ x ∈ l, (f x).isSome = true) → (l.mapM f).isSome = true
  | [], _ => rfl
  | x :: l, h => by
    obtain ⟨y, hy⟩ := Option.isSome_iff_exists.1 (h x (by simp))
    obtain ⟨ys, hys⟩ := Option.isSome_iff_exists.1 (mapM_some (l := l) (fun z hz => h z (by simp [hz])))
    rw [List.mapM_cons, hy, hys]
    rfl
theorem lits_array {P : Program} {d n : Nat} {t e : TypeId} {cs : List Value} (hu : P.underlying t = some (.array n e)) (hl : cs.length = P.cellsOf t) (h : ∀ i < n, (P.keyLits d e ((cs.drop (i * P.cellsOf e)).take (P.cellsOf e))).isSome = true) : (P.keyLits (d + 1) t cs).isSome = true := by
  unfold Program.keyLits
  rw [hu]
  simp only [hl, if_true]
  obtain ⟨ys, hys⟩ := Option.isSome_iff_exists.1 (mapM_some (f := fun i => P.keyLits d e ((cs.drop (i * P.cellsOf e)).take (P.cellsOf e))) (l := List.range n) (fun i hi => h i (List.mem_range.1 hi)))
  rw [hys]
  rfl
theorem cel4 : Try.prog.cellsOf 4 = 1 := by kernel_rfl
theorem cel70 : Try.prog.cellsOf 70 = 256 := by kernel_rfl
theorem cel69 : Try.prog.cellsOf 69 = 16 := by kernel_rfl
theorem cut_sz : ∃ m, Try.prog.types.size = m + 2 := ⟨Try.prog.types.size - 2, by kernel_rfl⟩
theorem cut_lits (l : List Bool) (hl : l.length = 256) : (Try.prog.keyLits (Try.prog.types.size + 1) 70 (l.map .bool)).isSome = true := by
  obtain ⟨m, hm⟩ := cut_sz
  rw [hm]
  refine lits_array Try.underlying70 (by rw [List.length_map, hl, cel70]) (fun i hi => ?_)
  rw [cel69]
  refine lits_array Try.underlying69 (by rw [cel69]; simp [hl]; omega) (fun j hj => ?_)
  rw [cel4]
  have e : ((((l.map Value.bool).drop (i * 16)).take 16).drop (j * 1)).take 1 = ((((l.drop (i * 16)).take 16).drop (j * 1)).take 1).map .bool := by simp [List.map_take, List.map_drop]
  have hlen : ((((l.drop (i * 16)).take 16).drop (j * 1)).take 1).length = 1 := by simp [hl]; omega
  rw [e]
  match h : (((l.drop (i * 16)).take 16).drop (j * 1)).take 1, hlen with
  | [b], _ => simp [Program.keyLits, Try.underlying4]
theorem cut_formed (l : List Bool) (hl : l.length = 256) : (Value.agg (l.map Value.bool).toArray).formed Try.prog 70 = true := by
  simp [Value.formed, Try.underlying70, cel70, hl]
theorem cut_eq {l m : List Bool} (hl : l.length = 256) (hm : m.length = 256) (w : World) : (Op.equal 70 (.agg (l.map Value.bool).toArray) (.agg (m.map Value.bool).toArray)).run Try.prog w = .ok (decide (l = m)) w := by
  obtain ⟨r, h1, h2⟩ := equal_agg (P := Try.prog) (T := 70) 3 (by omega) (by kernel_rfl) (by kernel_rfl) (by rw [Try.underlying70]) (by kernel_rfl) (cut_formed l hl) (cut_formed m hm) (cut_lits l hl) (cut_lits m hm) w
  have hinj : l.map Value.bool = m.map Value.bool → l = m := fun h => by
    have := List.map_inj_right (f := Value.bool) (fun a b hab => by cases hab; rfl) |>.1 h
    exact this
  have h3 : r = decide (l = m) := by
    by_cases e : l = m
    · rw [decide_eq_true e]; exact h2.2 (by rw [e])
    · rw [decide_eq_false e]
      cases r with
      | false => rfl
      | true => exact absurd (hinj (h2.1 rfl)) e
  rw [h3] at h1
  exact h1
theorem vals_ncut {S : List Nat} {w0 : World} {F : World → Prop} {L : Env} {d : Option Nat} {ty : TypeId} {pos : String} {af : Array Edge} {g : Option (Nat × Bool)} {x y : Operand} {T' : TypeId} {l m : List Bool} {c : Bool} (hx : ro L x = some (.agg (l.map Value.bool).toArray)) (hy : ro L y = some (.agg (m.map Value.bool).toArray)) (hl : l.length = 256) (hm : m.length = 256) (h : Dc (l = m) c) :
    Vals Try.prog S w0 F L ⟨d, .binOp .neq 70 x y T', ty, pos, af, g⟩ (.bool (!c)) := fun w _ _ => by
  rw [← h.eq]
  simp [execOp, rho_of hx, rho_of hy, eqGuard, binOp, cut_eq hl hm]
theorem qx9 {S : List Nat} {w0 : World} {F : World → Prop} {L : Env} {d : Option Nat} {ty : TypeId} {pos : String} {af : Array Edge} {g : Option (Nat × Bool)} {x y : Operand} {T' : TypeId} {l m : List Bool} {c : Bool} (hx : ro L x = some (.agg (l.map Value.bool).toArray)) (hy : ro L y = some (.agg (m.map Value.bool).toArray)) (hl : l.length = 256) (hm : m.length = 256) (h : Dc (l = m) c) :
    Vals Try.prog S w0 F L ⟨d, .binOp .neq 70 x y T', ty, pos, af, g⟩ (.bool (!c)) := vals_ncut hx hy hl hm h
theorem Rep.r5 {w : World} {bt bm : Nat} {s : Ns} {due : Due} (h : Rep w bt bm s due) : Row w bt 5 (s.cuts.map .bool) := Row.of h.blk [.int .i64 s.parties, .int .i64 s.now, .int .i64 s.sent, .int .i64 s.pend.length, .map (some bm)] [] (by simp [ncl]) rfl
end Go.Proofs.Ytfelaicoedlejaa
