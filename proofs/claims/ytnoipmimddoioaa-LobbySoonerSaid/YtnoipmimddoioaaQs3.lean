import Derived.Test.YtnoipmimddoioaaQs2
/-
  Parts of slices, arrays of slices, copies into arrays.
-/
namespace Go.Proofs.Ytnoipmimddoioaa
set_option linter.unusedVariables false
section
variable {P : Program} {S : List Nat} {w0 : World} {F : World → Prop} {L : Env} {d : Option Nat} {ty : TypeId} {pos : String} {af : Array Edge} {g : Option (Nat × Bool)}
/-- 's[j:m]', where j stands before the end of what there is room for. -/
theorem qfh {T E : TypeId} [u : Ut P T (.slice E)] {sz : Nat} [f : Sz P E sz] {x lo hi : Operand} {b off n c : Nat} {k k' : IntKind} {z z' : Int} {j m : Nat} (hx : ro L x = some (.slice (some ⟨b, off, none⟩) n c)) (hlo : ro L lo = some (.int k z)) (hhi : ro L hi = some (.int k' z')) (hz : z = (j : Int)) (hz' : z' = (m : Int)) (hj : Ar (j ≤ m ∧ m ≤ c ∧ j < c)) :
    Vals P S w0 F L ⟨d, .slice T x (some lo) (some hi) none, ty, pos, af, g⟩ (.slice (some ⟨b, off + j * sz, none⟩) (m - j) (c - j)) := fun w _ _ => by
  obtain ⟨i, h2, h3⟩ := f.eq
  obtain ⟨q1, q2, q3⟩ := hj.h
  subst h3
  subst hz
  subst hz'
  simp only [execOp, rho_of hx, Option.map_some, Option.map_none, rho_of hlo, rho_of hhi, Instr.sliceAt, Sem.run_bind, run_underlying u.eq, Result.andThen, Instr.slice, Instr.sliceBounds, Instr.sliceBound, asIntOf, Sem.run_pure]
  have h5 : (0 : Int) ≤ (m : Int) ∧ (m : Int) ≤ (c : Int) := ⟨by omega, by omega⟩
  simp only [h5, and_self, if_true, Sem.run_pure, Int.toNat_natCast]
  have h6 : (0 : Int) ≤ (j : Int) ∧ (j : Int) ≤ (m : Int) := ⟨by omega, by omega⟩
  simp only [h6, and_self, if_true, Sem.run_pure, sizeOf, typeInfo, Sem.run_bind, run_program, Result.andThen, h2]
  have hc : c ≠ j := by omega
  simp [hc, add_none]
/-- 's[j:]' of nothing. -/
theorem vals_fromN {T E : TypeId} [u : Ut P T (.slice E)] {sz : Nat} [f : Sz P E sz] {x lo : Operand} {n c : Nat} {k : IntKind} {j : Nat} (hx : ro L x = some (.slice none n c)) (hlo : ro L lo = some (.int k (j : Int))) (hj : j ≤ n) :
    Vals P S w0 F L ⟨d, .slice T x (some lo) none none, ty, pos, af, g⟩ (.slice none (n - j) (c - j)) := fun w _ _ => by
  obtain ⟨i, h2, h3⟩ := f.eq
  have h4 : (j : Int) ≤ n := by omega
  subst h3
  simp only [execOp, rho_of hx, Option.map_some, Option.map_none, rho_of hlo, Instr.sliceAt, Sem.run_bind, run_underlying u.eq, Result.andThen, Instr.slice, Instr.sliceBounds, Instr.sliceBound, asIntOf, Sem.run_pure]
  have h5 : (0 : Int) ≤ (j : Int) ∧ (j : Int) ≤ (n : Int) := ⟨by omega, h4⟩
  simp only [h5, and_self, if_true, Sem.run_pure, sizeOf, typeInfo, Sem.run_bind, run_program, Result.andThen, h2]
  simp
/-- An array where a slice begins. -/
theorem qsa {T E : TypeId} {n : Nat} [u : Ut P T (.array n E)] {x : Operand} {a : Addr} {m c : Nat} (hx : ro L x = some (.slice (some a) m c)) (h : Ar (n ≤ m)) :
    Vals P S w0 F L ⟨d, .sliceToArrayPointer T x, ty, pos, af, g⟩ (.pointer (some a)) := fun w _ _ => by
  have h1 := h.h
  simp [execOp, rho_of hx, Instr.arrayAt, run_underlying u.eq]
  intro h2
  omega
/-- All of an array. -/
theorem qaa {T E : TypeId} {n sz : Nat} [u : Ut P T (.array n E)] [f : Sz P E sz] {x : Operand} {b off : Nat} (hx : ro L x = some (.pointer (some ⟨b, off, none⟩))) :
    Vals P S w0 F L ⟨d, .slice T x none none none, ty, pos, af, g⟩ (.slice (some ⟨b, off, none⟩) n n) := fun w _ _ => by
  obtain ⟨i, h2, h3⟩ := f.eq
  subst h3
  simp only [execOp, rho_of hx, Option.map_none, Instr.sliceAt, Sem.run_bind, run_underlying u.eq, Result.andThen, Instr.sureAddr, Instr.sliceBounds, Sem.run_pure, sizeOf, typeInfo, run_program, h2]
  simp [Addr.add]
end
section
variable {P : Program} {n : Nat} {Q : Exit → Act → World → Prop} {L : Env} {w : World} {ops : List Oper} {rest : List Oper} {ty : TypeId} {pos : String} {af : Array Edge} {g : Option (Nat × Bool)}
/-- 'copy(a, s)' of cells into the front of a block; s is short enough. -/
theorem SG.copy {d : Nat} {t t2 e T' : TypeId} [u : Ut P t (.slice e)] [z : Sz P e 1] {s x : Operand} {b m c2 c0 : Nat} {a2 : Option Addr} {cs : Array Value} {news : List Value}
    (hd : Nat.blt d n = true) (hw : want ops L ⟨some d, .call { callee := .builtin .copy, args := #[s, x], argTypes := #[t, t2] }, ty, pos, af, g⟩ = some true) (hk : (known L s && known L x) = true)
    (hs : rho L s = .slice (some ⟨b, 0, none⟩) m c0) (hx : rho L x = .slice a2 news.length c2) (hB : Blk w b (.cells cs T')) (hm : news.length ≤ m) (hc : m ≤ cs.size) (hone : allOne news = true) (hS : ∀ b2 off, a2 = some ⟨b2, off, none⟩ → news ≠ [] → Row w b2 off news) (ha2 : news ≠ [] → ∃ b2 off, a2 = some ⟨b2, off, none⟩)
    (hno : a2 = none ∨ ∃ b2 off, a2 = some ⟨b2, off, none⟩)
    (h : ∀ w', Kp [b] w w' → Blk w' b (.cells (spl cs.toList 0 news).toArray T') → SG P n ops Q rest ((d, .int .i64 (news.length : Int)) :: L) w') : SG P n ops Q (⟨some d, .call { callee := .builtin .copy, args := #[s, x], argTypes := #[t, t2] }, ty, pos, af, g⟩ :: rest) L w := by
  refine SG.op (by simpa using hd) rfl hw (by simpa [Op.operands, Call.operands] using hk) ?_
  unfold OpRun
  obtain ⟨i, h2, h3⟩ := z.eq
  have hmin : Nat.min news.length m = news.length := Nat.min_eq_left hm
  have hload : (Builtin.firstCells i.size (Nat.min news.length m) (.slice a2 news.length c2)).run P w = .ok news.toArray w := by
    rw [hmin, h3]
    rcases hno with rfl | ⟨b2, off, rfl⟩
    · have : news = [] := by
        cases news with
        | nil => rfl
        | cons y l => obtain ⟨b2, off, e⟩ := ha2 (by simp); cases e
      subst this
      simp [Builtin.firstCells]
    · simp only [Builtin.firstCells, loadCells, Nat.mul_one]
      by_cases he : news = []
      · subst he
        simp [loadCellsFrom]
      · rw [run_loadCellsFrom (hS b2 off rfl he) news.length 0 _ (by omega)]
        simp
  have hst := run_storeCells (P := P) (b := b) (off := 0) (T := T') news 0 w cs hB (by simp; omega) hone
  have : (execOp (rho L) ⟨some d, .call { callee := .builtin .copy, args := #[s, x], argTypes := #[t, t2] }, ty, pos, af, g⟩).run P w = .ok (.value (.int .i64 (news.length : Int))) { w with heap := w.heap.setIfInBounds b (.cells (spl cs.toList 0 news).toArray T') } := by
    have hcopy : (Builtin.copy_ #[t, t2] ty #[.slice (some ⟨b, 0, none⟩) m c0, .slice a2 news.length c2]).run P w = .ok (.int .i64 (news.length : Int)) { w with heap := w.heap.setIfInBounds b (.cells (spl cs.toList 0 news).toArray T') } := by
      rw [hmin] at hload
      simp only [Nat.add_zero] at hst
      simp only [Builtin.copy_, List.getElem?_toArray, List.getElem?_cons_zero, List.getElem?_cons_succ, Sem.run_bind, run_underlying u.eq, Result.andThen_ok, sizeOf, typeInfo, run_program, h2, Builtin.lenOf, Sem.run_pure, hmin, hload, hst, goInt]
    simp only [execOp, resolve, invoke, builtin, Sem.run_bind, Sem.run_pure, Result.andThen_ok, List.map_toArray, List.map_cons, List.map_nil, hs, hx, hcopy]
  rw [this]
  exact h _ (Kp.set w hB rfl rfl) (hB.set _)
end
end Go.Proofs.Ytnoipmimddoioaa
/-
  Digests of bytes, of two digests, of many.
-/
namespace Go.Proofs.Ytnoipmimddoioaa
open Go.Proofs
set_option linter.unusedVariables false

/-- Bytes in memory. -/
abbrev by1 : UInt8 → List Value := fun u => [bv u]
theorem flt_by1 (l : List UInt8) : flt by1 l = l.map bv := by
  induction l with
  | nil => rfl
  | cons x l ih => simp [flt, by1] at ih ⊢; exact ih
theorem sl_row {w : World} {b off : Nat} {l : List UInt8} (h : Sl by1 1 w (some ⟨b, off, none⟩) l) (i m : Nat) (him : i + m ≤ l.length) (hm : 0 < m) : Row w b (off + i * 1) (((l.drop i).take m).map bv) := by
  have hS : Sl by1 1 w (some ⟨b, off + i * 1, none⟩) ((l.drop i).take m) := fun k x hx => by
    have hk : k < ((l.drop i).take m).length := (List.getElem?_eq_some_iff.1 hx).1
    have hk2 : k < m := by simp at hk; omega
    rw [List.getElem?_take_of_lt hk2, List.getElem?_drop] at hx
    refine ⟨b, off + i * 1, rfl, ?_⟩
    have := h.row hx
    rwa [show off + (i + k) * 1 = off + i * 1 + k * 1 from by omega] at this
  have hne : (l.drop i).take m ≠ [] := by
    intro e
    have : ((l.drop i).take m).length = 0 := by rw [e]; rfl
    simp at this
    omega
  have := Sl.flat (enc := by1) (fun _ => rfl) hne hS
  rwa [flt_by1] at this
theorem eights_step (s : Hs) : ∀ (i : Nat) (l : List UInt8), eightsI s l (i + 1) = takeI (eightsI s l i) (val ((l.drop (i * 8)).take 8) : Int) := by
  intro i
  induction i generalizing s with
  | zero => intro l; simp [eightsI]
  | succ i ih =>
    intro l
    rw [eightsI, ih, eightsI, List.drop_drop, show 8 + i * 8 = (i + 1) * 8 from by omega]
def d8 (l : List UInt8) (h : l.length = 8) : Dg := ⟨l, h⟩

attribute [local irreducible] CG NG SG Vals Der Row Blk MapIs IterAt addI xorI orI andI shlI shrI
set_option maxHeartbeats 8000000 in
theorem whole_spec {w : World} {b : Nat} {s : Hs} {a : Option Addr} {c : Nat} {l : List UInt8} (hB : Blk w b (.cells (hsl s).toArray 111)) (hS : Sl by1 1 w a l) (hab : ∀ b2 off, a = some ⟨b2, off, none⟩ → b2 ≠ b) (hl : l.length ≤ 1000000000) (hc : l.length ≤ c) :
    Calls Try.prog 101 #[.pointer (some ⟨b, 0, none⟩), .slice a l.length c] w (fun e w' => e = .returned (.tuple #[]) ∧ Kp [b] w w' ∧ Blk w' b (.cells (hsl (eightsI s l (l.length / 8))).toArray 111)) := by
  refine enter2 Try.func101 rfl Try.ntmps101 rfl ?_
  have ediv : (l.length : Int) / 8 = ((l.length / 8 : Nat) : Int) := by omega
  repeat (first|apply CG.seq|apply CG.region|apply SG.nil|apply NG.next|apply CG.skip|apply CG.block|apply CG.ret|apply CG.exit|apply NG.exit_then|refine NG.exit_block rfl ?_|apply NG.normal_block|refine SG.val rfl rfl rfl rfl (by first|(apply qi64<;>(first|exact rfl|assumption|exact Ar.mk (by omega)|exact dct (by first|assumption|omega)|exact dcf (by first|assumption|omega)|exact List.not_mem_nil|apply dc_length|exact nm1 (by omega)|fail))|((first|apply qmi|apply qqi|apply qia|apply qfh|apply qsa|apply qaa|apply qmv|apply qas|apply qla|apply qix|apply qls|apply qad|apply qln)<;>(first|exact rfl|assumption|exact Ar.mk (by omega)|exact dct (by first|assumption|omega)|exact dcf (by first|assumption|omega)|exact List.not_mem_nil|apply dc_length|exact nm1 (by omega)|fail))|fail) ?_)
  rw [ediv]
  refine CG.loop (X := Nat) (fun i => [(0, .pointer (some ⟨b, 0, none⟩)), (1, .slice a l.length c), (7, .int .i64 ((l.length / 8 : Nat) : Int)), (8, .int .i64 (i : Int))])
    (fun i w' => i ≤ l.length / 8 ∧ Kp [b] w w' ∧ Blk w' b (.cells (hsl (eightsI s l i)).toArray 111)) (fun i => l.length / 8 - i) 0 ⟨by omega, Kp.refl _ _, hB⟩ (by (repeat' (first | exact True.intro | exact rfl | refine And.intro ?_ ?_))) ?_
  rintro i w1 ⟨hi, hk1, hB1⟩
  by_cases hlt : i < l.length / 8
  · have g1 : (i : Int) < ((l.length / 8 : Nat) : Int) := by omega
    obtain ⟨b2, off, rfl, _⟩ := hS.at (i := i) (by omega)
    have hne := hab b2 off rfl
    have hr := sl_row (hS.kp hk1 (fun b3 off3 e => by cases e; exact nm1 hne)) (i * 8) 8 (by omega) (by omega)
    have h8 : ((l.drop (i * 8)).take 8).length = 8 := by simp; omega
    have hr : Row w1 b2 (off + i * 8 * 1) (dc (d8 _ h8)) := hr
    have ez : (i : Int) * 8 = ((i * 8 : Nat) : Int) := by omega
    have ez2 : ((i * 8 : Nat) : Int) + 8 = ((i * 8 + 8 : Nat) : Int) := by omega
    repeat (first|apply CG.seq|apply CG.region|apply SG.nil|apply NG.next|apply CG.skip|apply CG.block|apply CG.ret|apply CG.exit|apply NG.exit_then|refine NG.exit_block rfl ?_|apply NG.normal_block|refine SG.val rfl rfl rfl rfl (by first|(apply qi64<;>(first|exact rfl|assumption|exact Ar.mk (by omega)|exact dct (by first|assumption|omega)|exact dcf (by first|assumption|omega)|exact List.not_mem_nil|apply dc_length|exact nm1 (by omega)|fail))|((first|apply qmi|apply qqi|apply qia|apply qfh|apply qsa|apply qaa|apply qmv|apply qas|apply qla|apply qix|apply qls|apply qad|apply qln)<;>(first|exact rfl|assumption|exact Ar.mk (by omega)|exact dct (by first|assumption|omega)|exact dcf (by first|assumption|omega)|exact List.not_mem_nil|apply dc_length|exact nm1 (by omega)|fail))|fail) ?_)
    refine CG.cond_t rfl (by exact rho_of rfl) rfl ?_
    repeat (first|apply CG.seq|apply CG.region|apply SG.nil|apply NG.next|apply CG.skip|apply CG.block|apply CG.ret|apply CG.exit|apply NG.exit_then|refine NG.exit_block rfl ?_|apply NG.normal_block|refine SG.val rfl rfl rfl rfl (by first|(apply qi64<;>(first|exact rfl|assumption|exact Ar.mk (by omega)|exact dct (by first|assumption|omega)|exact dcf (by first|assumption|omega)|exact List.not_mem_nil|apply dc_length|exact nm1 (by omega)|fail))|((first|apply qmi|apply qqi|apply qia|apply qfh|apply qsa|apply qaa|apply qmv|apply qas|apply qla|apply qix|apply qls|apply qad|apply qln)<;>(first|exact rfl|assumption|exact Ar.mk (by omega)|exact dct (by first|assumption|omega)|exact dcf (by first|assumption|omega)|exact List.not_mem_nil|apply dc_length|exact nm1 (by omega)|fail))|fail) ?_)
    rw [ez]
    repeat (first|apply CG.seq|apply CG.region|apply SG.nil|apply NG.next|apply CG.skip|apply CG.block|apply CG.ret|apply CG.exit|apply NG.exit_then|refine NG.exit_block rfl ?_|apply NG.normal_block|refine SG.val rfl rfl rfl rfl (by first|(apply qi64<;>(first|exact rfl|assumption|exact Ar.mk (by omega)|exact dct (by first|assumption|omega)|exact dcf (by first|assumption|omega)|exact List.not_mem_nil|apply dc_length|exact nm1 (by omega)|fail))|((first|apply qmi|apply qqi|apply qia|apply qfh|apply qsa|apply qaa|apply qmv|apply qas|apply qla|apply qix|apply qls|apply qad|apply qln)<;>(first|exact rfl|assumption|exact Ar.mk (by omega)|exact dct (by first|assumption|omega)|exact dcf (by first|assumption|omega)|exact List.not_mem_nil|apply dc_length|exact nm1 (by omega)|fail))|fail) ?_)
    rw [ez2]
    repeat (first|apply CG.seq|apply CG.region|apply SG.nil|apply NG.next|apply CG.skip|apply CG.block|apply CG.ret|apply CG.exit|apply NG.exit_then|refine NG.exit_block rfl ?_|apply NG.normal_block|refine SG.val rfl rfl rfl rfl (by first|(apply qi64<;>(first|exact rfl|assumption|exact Ar.mk (by omega)|exact dct (by first|assumption|omega)|exact dcf (by first|assumption|omega)|exact List.not_mem_nil|apply dc_length|exact nm1 (by omega)|fail))|((first|apply qmi|apply qqi|apply qia|apply qfh|apply qsa|apply qaa|apply qmv|apply qas|apply qla|apply qix|apply qls|apply qad|apply qln)<;>(first|exact rfl|assumption|exact Ar.mk (by omega)|exact dct (by first|assumption|omega)|exact dcf (by first|assumption|omega)|exact List.not_mem_nil|apply dc_length|exact nm1 (by omega)|fail))|fail) ?_)
    refine SG.ret rfl rfl rfl (by repeat' (first | exact True.intro | exact rho_of rfl | refine And.intro ?_ ?_)) (num_spec (d8 _ h8) w1) (fun w2 hk2 => ?_)
    refine SG.call rfl rfl rfl (by repeat' (first | exact True.intro | exact rho_of rfl | refine And.intro ?_ ?_)) ((take_spec (hB1.kp0 hk2) _).mono (fun e w3 hh => ?_))
    obtain ⟨he, hk3, hB3⟩ := hh
    refine ⟨_, he, ?_⟩
    repeat (first|apply CG.seq|apply CG.region|apply SG.nil|apply NG.next|apply CG.skip|apply CG.block|apply CG.ret|apply CG.exit|apply NG.exit_then|refine NG.exit_block rfl ?_|apply NG.normal_block|refine SG.val rfl rfl rfl rfl (by first|(apply qi64<;>(first|exact rfl|assumption|exact Ar.mk (by omega)|exact dct (by first|assumption|omega)|exact dcf (by first|assumption|omega)|exact List.not_mem_nil|apply dc_length|exact nm1 (by omega)|fail))|((first|apply qmi|apply qqi|apply qia|apply qfh|apply qsa|apply qaa|apply qmv|apply qas|apply qla|apply qix|apply qls|apply qad|apply qln)<;>(first|exact rfl|assumption|exact Ar.mk (by omega)|exact dct (by first|assumption|omega)|exact dcf (by first|assumption|omega)|exact List.not_mem_nil|apply dc_length|exact nm1 (by omega)|fail))|fail) ?_)
    refine NG.round (i + 1) (by (repeat' (first | exact True.intro | exact rfl | refine And.intro ?_ ?_))) ⟨by omega, (hk1.trans hk2.any).trans hk3, ?_⟩ (by omega)
    rw [eights_step]
    exact hB3
  · have g1 : ¬ (i : Int) < ((l.length / 8 : Nat) : Int) := by omega
    have e8 : i = l.length / 8 := by omega
    subst e8
    repeat (first|apply CG.seq|apply CG.region|apply SG.nil|apply NG.next|apply CG.skip|apply CG.block|apply CG.ret|apply CG.exit|apply NG.exit_then|refine NG.exit_block rfl ?_|apply NG.normal_block|refine SG.val rfl rfl rfl rfl (by first|(apply qi64<;>(first|exact rfl|assumption|exact Ar.mk (by omega)|exact dct (by first|assumption|omega)|exact dcf (by first|assumption|omega)|exact List.not_mem_nil|apply dc_length|exact nm1 (by omega)|fail))|((first|apply qmi|apply qqi|apply qia|apply qfh|apply qsa|apply qaa|apply qmv|apply qas|apply qla|apply qix|apply qls|apply qad|apply qln)<;>(first|exact rfl|assumption|exact Ar.mk (by omega)|exact dct (by first|assumption|omega)|exact dcf (by first|assumption|omega)|exact List.not_mem_nil|apply dc_length|exact nm1 (by omega)|fail))|fail) ?_)
    refine CG.cond_f rfl (by exact rho_of rfl) rfl ?_
    repeat (first|apply CG.seq|apply CG.region|apply SG.nil|apply NG.next|apply CG.skip|apply CG.block|apply CG.ret|apply CG.exit|apply NG.exit_then|refine NG.exit_block rfl ?_|apply NG.normal_block|refine SG.val rfl rfl rfl rfl (by first|(apply qi64<;>(first|exact rfl|assumption|exact Ar.mk (by omega)|exact dct (by first|assumption|omega)|exact dcf (by first|assumption|omega)|exact List.not_mem_nil|apply dc_length|exact nm1 (by omega)|fail))|((first|apply qmi|apply qqi|apply qia|apply qfh|apply qsa|apply qaa|apply qmv|apply qas|apply qla|apply qix|apply qls|apply qad|apply qln)<;>(first|exact rfl|assumption|exact Ar.mk (by omega)|exact dct (by first|assumption|omega)|exact dcf (by first|assumption|omega)|exact List.not_mem_nil|apply dc_length|exact nm1 (by omega)|fail))|fail) ?_)
    refine ret0 (Or.inr rfl) Try.results101 ?_
    exact ⟨rfl, hk1, hB1⟩
/-- What is left, a one, nothing. -/
def padL (r : List UInt8) : List UInt8 := r ++ (1 :: List.replicate (7 - r.length) 0)
theorem pad_length {r : List UInt8} (h : r.length < 8) : (padL r).length = 8 := by simp [padL]; omega
theorem val_zeros : ∀ k, val (List.replicate k (0 : UInt8)) = 0
  | 0 => rfl
  | k + 1 => by rw [List.replicate_succ]; simp [val, val_zeros k]
theorem pad_val (r : List UInt8) : val (padL r) = val (r ++ [1]) := by
  unfold padL
  rw [show (1 : UInt8) :: List.replicate (7 - r.length) 0 = [1] ++ List.replicate (7 - r.length) 0 from rfl, ← List.append_assoc, val_append, val_zeros]
  simp
theorem cpy_eq {r : List UInt8} (h : r.length < 8) : spl (dc zd) 0 (r.map bv) = r.map bv ++ (bv 0 :: List.replicate (7 - r.length) (bv 0)) := by
  have e : dc zd = List.replicate 8 (bv 0) := rfl
  rw [e]
  simp only [spl, List.take_zero, List.nil_append, Nat.zero_add, List.length_map, List.drop_replicate]
  rw [show 8 - r.length = (7 - r.length) + 1 from by omega, List.replicate_succ]
theorem one_eq {r : List UInt8} : spl (r.map bv ++ (bv 0 :: List.replicate (7 - r.length) (bv 0))) r.length [bv 1] = (padL r).map bv := by
  have := spl_mid (pre := r.map bv) (old := [bv 0]) (post := List.replicate (7 - r.length) (bv 0)) (l := [bv 1]) rfl
  simp only [List.length_map] at this
  rw [show bv 0 :: List.replicate (7 - r.length) (bv 0) = [bv 0] ++ List.replicate (7 - r.length) (bv 0) from rfl, this]
  simp [padL]
def dpad (r : List UInt8) (h : r.length < 8) : Dg := ⟨padL r, pad_length h⟩
theorem allOne_bv (r : List UInt8) : allOne (r.map bv) = true := by simp [allOne, oneB]

set_option maxHeartbeats 8000000 in
theorem end_spec {w : World} {b : Nat} {s : Hs} {a : Option Addr} {c : Nat} {l : List UInt8} (hB : Blk w b (.cells (hsl s).toArray 111)) (hS : Sl by1 1 w a l) (ha : l = [] ∧ a = none ∨ ∃ b2 off, a = some ⟨b2, off, none⟩) (hab : ∀ b2 off, a = some ⟨b2, off, none⟩ → b2 ≠ b) (hl : l.length ≤ 1000000000) (hc : l.length ≤ c) :
    Calls Try.prog 102 #[.pointer (some ⟨b, 0, none⟩), .slice a l.length c] w (fun e w' => e = .returned (.tuple #[]) ∧ Kp [b] w w' ∧ Blk w' b (.cells (hsl (takeI (takeI s (val (l.drop (l.length / 8 * 8) ++ [1]) : Int)) (l.length : Int))).toArray 111)) := by
  refine enter2 Try.func102 rfl Try.ntmps102 rfl ?_
  have ediv : (l.length : Int) / 8 * 8 = ((l.length / 8 * 8 : Nat) : Int) := by omega
  generalize hr0 : l.drop (l.length / 8 * 8) = r
  have hrl : r.length = l.length - l.length / 8 * 8 := by rw [← hr0]; simp
  have hr8 : r.length < 8 := by omega
  have hlb := hB.lt
  repeat (first|apply CG.seq|apply CG.region|apply SG.nil|apply NG.next|apply CG.skip|apply CG.block|apply CG.ret|apply CG.exit|apply NG.exit_then|refine NG.exit_block rfl ?_|apply NG.normal_block|refine SG.val rfl rfl rfl rfl (by first|(apply qi64<;>(first|exact rfl|assumption|exact Ar.mk (by omega)|exact dct (by first|assumption|omega)|exact dcf (by first|assumption|omega)|exact List.not_mem_nil|apply dc_length|exact nm1 (by omega)|fail))|((first|apply qmi|apply qqi|apply qia|apply qfh|apply qsa|apply qaa|apply qmv|apply qas|apply qla|apply qix|apply qls|apply qad|apply qln)<;>(first|exact rfl|assumption|exact Ar.mk (by omega)|exact dct (by first|assumption|omega)|exact dcf (by first|assumption|omega)|exact List.not_mem_nil|apply dc_length|exact nm1 (by omega)|fail))|fail) ?_)
  refine SG.alloc rfl rfl rfl (fun b4 w1 hk1 hb4 hB4 => ?_)
  have hB4 : Blk w1 b4 (.cells (dc zd).toArray 24) := hB4
  repeat (first|apply CG.seq|apply CG.region|apply SG.nil|apply NG.next|apply CG.skip|apply CG.block|apply CG.ret|apply CG.exit|apply NG.exit_then|refine NG.exit_block rfl ?_|apply NG.normal_block|refine SG.val rfl rfl rfl rfl (by first|(apply qi64<;>(first|exact rfl|assumption|exact Ar.mk (by omega)|exact dct (by first|assumption|omega)|exact dcf (by first|assumption|omega)|exact List.not_mem_nil|apply dc_length|exact nm1 (by omega)|fail))|((first|apply qmi|apply qqi|apply qia|apply qfh|apply qsa|apply qaa|apply qmv|apply qas|apply qla|apply qix|apply qls|apply qad|apply qln)<;>(first|exact rfl|assumption|exact Ar.mk (by omega)|exact dct (by first|assumption|omega)|exact dcf (by first|assumption|omega)|exact List.not_mem_nil|apply dc_length|exact nm1 (by omega)|fail))|fail) ?_)
  refine CG.tail mixed 7 [0, 1, 2, 3, 4, 5, 6] (by kernel_rfl) ?_
  repeat (refine Der.val rfl rfl rfl (by first|(apply qi64<;>(first|exact rfl|assumption|exact Ar.mk (by omega)|exact dct (by first|assumption|omega)|exact dcf (by first|assumption|omega)|exact List.not_mem_nil|apply dc_length|exact nm1 (by omega)|fail))|((first|apply qmi|apply qqi|apply qia|apply qfh|apply qsa|apply qaa|apply qmv|apply qas|apply qla|apply qix|apply qls|apply qad|apply qln)<;>(first|exact rfl|assumption|exact Ar.mk (by omega)|exact dct (by first|assumption|omega)|exact dcf (by first|assumption|omega)|exact List.not_mem_nil|apply dc_length|exact nm1 (by omega)|fail))|fail) ?_)
  rw [ediv]
  have hA : ∃ a2 c2, (∀ w', Kp [] w w' → ∀ b2 off, a2 = some ⟨b2, off, none⟩ → r.map bv ≠ [] → Row w' b2 off (r.map bv)) ∧ (r ≠ [] → ∃ b2 off, a2 = some ⟨b2, off, none⟩) ∧ (a2 = none ∨ ∃ b2 off, a2 = some (⟨b2, off, none⟩ : Addr)) ∧
      (∀ (S : List Nat) (w0 : World) (F : World → Prop) (L : Env) (pos : String) (af : Array Edge), ro L (.tmp 7) = some (.slice a l.length c) → ro L (.tmp 11) = some (.int .i64 ((l.length / 8 * 8 : Nat) : Int)) → Vals Try.prog S w0 F L ⟨some 12, .slice 58 (.tmp 7) (some (.tmp 11)) none none, 58, pos, af, none⟩ (.slice a2 r.length c2)) := by
    rcases ha with ⟨rfl, rfl⟩ | ⟨b2, off, rfl⟩
    · have hrn : r = [] := by rw [← hr0]; rfl
      subst hrn
      exact ⟨none, c, fun _ _ _ _ e => absurd e (by simp), fun h => absurd rfl h, Or.inl rfl, fun S w0 F L pos af h1 h2 => vals_fromN (j := 0) h1 h2 (Nat.le_refl _)⟩
    · refine ⟨some ⟨b2, if c = l.length / 8 * 8 then off else off + l.length / 8 * 8 * 1, none⟩, c - l.length / 8 * 8, fun w' hk b3 off3 e hne => ?_, fun _ => ⟨_, _, rfl⟩, Or.inr ⟨_, _, rfl⟩, fun S w0 F L pos af h1 h2 => ?_⟩
      · simp only [Option.some.injEq, Addr.mk.injEq, and_true] at e
        obtain ⟨rfl, rfl⟩ := e
        have hpos : 0 < r.length := by
          cases r with
          | nil => exact absurd rfl hne
          | cons x r => simp
        rw [if_neg (by omega)]
        have := sl_row (hS.kp0 hk) (l.length / 8 * 8) r.length (by omega) hpos
        rwa [hr0, List.take_of_length_le (Nat.le_refl _)] at this
      · rw [hrl]
        exact vals_from (j := l.length / 8 * 8) (rho_of h1) (rho_of h2) (by omega)
  obtain ⟨a2, c2, hA1, hA2, hA3, hA4⟩ := hA
  refine Der.val rfl rfl rfl (hA4 _ _ _ _ _ _ rfl rfl) ?_
  refine Der.tl (fun w2 hk2 _ _ => ?_)
  refine SG.copy (m := 8) (news := r.map bv) rfl rfl rfl (by exact rho_of rfl) (by rw [List.length_map]; exact rho_of rfl) (hB4.kp0 hk2) (by rw [List.length_map]; omega) (by simp [dc_length]) (allOne_bv r) (hA1 w2 (hk1.trans hk2)) (fun h => hA2 (fun e => h (by rw [e]; rfl))) hA3 (fun w3 hk3 hB3 => ?_)
  have hB3 : Blk w3 b4 (.cells (spl (dc zd) 0 (r.map bv)).toArray 24) := hB3
  rw [cpy_eq hr8] at hB3
  rw [List.length_map]
  repeat (first|apply CG.seq|apply CG.region|apply SG.nil|apply NG.next|apply CG.skip|apply CG.block|apply CG.ret|apply CG.exit|apply NG.exit_then|refine NG.exit_block rfl ?_|apply NG.normal_block|refine SG.val rfl rfl rfl rfl (by first|(apply qi64<;>(first|exact rfl|assumption|exact Ar.mk (by omega)|exact dct (by first|assumption|omega)|exact dcf (by first|assumption|omega)|exact List.not_mem_nil|apply dc_length|exact nm1 (by omega)|fail))|((first|apply qmi|apply qqi|apply qia|apply qfh|apply qsa|apply qaa|apply qmv|apply qas|apply qla|apply qix|apply qls|apply qad|apply qln)<;>(first|exact rfl|assumption|exact Ar.mk (by omega)|exact dct (by first|assumption|omega)|exact dcf (by first|assumption|omega)|exact List.not_mem_nil|apply dc_length|exact nm1 (by omega)|fail))|fail) ?_)
  refine SG.store rfl rfl (by exact rho_of rfl) (by exact rho_of rfl) hB3 rfl (by show 0 + r.length * 1 + 1 ≤ _; simp) rfl (fun w4 hk4 hB5 => ?_)
  have hB5 : Blk w4 b4 (.cells (spl (r.map bv ++ (bv 0 :: List.replicate (7 - r.length) (bv 0))) (0 + r.length * 1) [bv 1]).toArray 24) := hB5
  rw [show 0 + r.length * 1 = r.length from by omega, one_eq] at hB5
  have hrow : Row w4 b4 0 (dc (dpad r hr8)) := Row.all hB5 rfl
  repeat (first|apply CG.seq|apply CG.region|apply SG.nil|apply NG.next|apply CG.skip|apply CG.block|apply CG.ret|apply CG.exit|apply NG.exit_then|refine NG.exit_block rfl ?_|apply NG.normal_block|refine SG.val rfl rfl rfl rfl (by first|(apply qi64<;>(first|exact rfl|assumption|exact Ar.mk (by omega)|exact dct (by first|assumption|omega)|exact dcf (by first|assumption|omega)|exact List.not_mem_nil|apply dc_length|exact nm1 (by omega)|fail))|((first|apply qmi|apply qqi|apply qia|apply qfh|apply qsa|apply qaa|apply qmv|apply qas|apply qla|apply qix|apply qls|apply qad|apply qln)<;>(first|exact rfl|assumption|exact Ar.mk (by omega)|exact dct (by first|assumption|omega)|exact dcf (by first|assumption|omega)|exact List.not_mem_nil|apply dc_length|exact nm1 (by omega)|fail))|fail) ?_)
  refine SG.ret rfl rfl rfl (by repeat' (first | exact True.intro | exact rho_of rfl | refine And.intro ?_ ?_)) (num_spec (dpad r hr8) w4) (fun w5 hk5 => ?_)
  have hBb : Blk w5 b (.cells (hsl s).toArray 111) := ((((hB.kp0 hk1).kp0 hk2).kp hk3 (nm1 (by omega))).kp hk4 (nm1 (by omega))).kp0 hk5
  refine SG.call rfl rfl rfl (by repeat' (first | exact True.intro | exact rho_of rfl | refine And.intro ?_ ?_)) ((take_spec hBb _).mono (fun e w6 hh => ?_))
  obtain ⟨he, hk6, hB6⟩ := hh
  refine ⟨_, he, ?_⟩
  repeat (first|apply CG.seq|apply CG.region|apply SG.nil|apply NG.next|apply CG.skip|apply CG.block|apply CG.ret|apply CG.exit|apply NG.exit_then|refine NG.exit_block rfl ?_|apply NG.normal_block|refine SG.val rfl rfl rfl rfl (by first|(apply qi64<;>(first|exact rfl|assumption|exact Ar.mk (by omega)|exact dct (by first|assumption|omega)|exact dcf (by first|assumption|omega)|exact List.not_mem_nil|apply dc_length|exact nm1 (by omega)|fail))|((first|apply qmi|apply qqi|apply qia|apply qfh|apply qsa|apply qaa|apply qmv|apply qas|apply qla|apply qix|apply qls|apply qad|apply qln)<;>(first|exact rfl|assumption|exact Ar.mk (by omega)|exact dct (by first|assumption|omega)|exact dcf (by first|assumption|omega)|exact List.not_mem_nil|apply dc_length|exact nm1 (by omega)|fail))|fail) ?_)
  refine SG.call rfl rfl rfl (by repeat' (first | exact True.intro | exact rho_of rfl | refine And.intro ?_ ?_)) ((take_spec hB6 _).mono (fun e w7 hh => ?_))
  obtain ⟨he, hk7, hB7⟩ := hh
  refine ⟨_, he, ?_⟩
  repeat (first|apply CG.seq|apply CG.region|apply SG.nil|apply NG.next|apply CG.skip|apply CG.block|apply CG.ret|apply CG.exit|apply NG.exit_then|refine NG.exit_block rfl ?_|apply NG.normal_block|refine SG.val rfl rfl rfl rfl (by first|(apply qi64<;>(first|exact rfl|assumption|exact Ar.mk (by omega)|exact dct (by first|assumption|omega)|exact dcf (by first|assumption|omega)|exact List.not_mem_nil|apply dc_length|exact nm1 (by omega)|fail))|((first|apply qmi|apply qqi|apply qia|apply qfh|apply qsa|apply qaa|apply qmv|apply qas|apply qla|apply qix|apply qls|apply qad|apply qln)<;>(first|exact rfl|assumption|exact Ar.mk (by omega)|exact dct (by first|assumption|omega)|exact dcf (by first|assumption|omega)|exact List.not_mem_nil|apply dc_length|exact nm1 (by omega)|fail))|fail) ?_)
  refine ret0 (Or.inr rfl) Try.results102 ?_
  have hnum : num (dpad r hr8) = val (r ++ [1]) := pad_val r
  rw [hnum] at hB7
  have k4 : Kp [] w w4 := ((hk1.trans hk2).trans_new hk3 (new1 hb4)).trans_new hk4 (new1 hb4)
  exact ⟨rfl, ((k4.trans hk5).any.trans hk6).trans hk7, hB7⟩
set_option maxHeartbeats 8000000 in
theorem bytes_spec {w : World} {b : Nat} {s : Hs} {a : Option Addr} {c : Nat} {l : List UInt8} (hB : Blk w b (.cells (hsl s).toArray 111)) (hS : Sl by1 1 w a l) (ha : l = [] ∧ a = none ∨ ∃ b2 off, a = some ⟨b2, off, none⟩) (hab : ∀ b2 off, a = some ⟨b2, off, none⟩ → b2 ≠ b) (hl : l.length ≤ 1000000000) (hc : l.length ≤ c) :
    Calls Try.prog 79 #[.pointer (some ⟨b, 0, none⟩), .slice a l.length c] w (fun e w' => e = .returned (.tuple #[]) ∧ Kp [b] w w' ∧ Blk w' b (.cells (hsl (bytesI s l)).toArray 111)) := by
  refine enter2 Try.func79 rfl Try.ntmps79 rfl ?_
  repeat (first|apply CG.seq|apply CG.region|apply SG.nil|apply NG.next|apply CG.skip|apply CG.block|apply CG.ret|apply CG.exit|apply NG.exit_then|refine NG.exit_block rfl ?_|apply NG.normal_block|refine SG.val rfl rfl rfl rfl (by first|(apply qi64<;>(first|exact rfl|assumption|exact Ar.mk (by omega)|exact dct (by first|assumption|omega)|exact dcf (by first|assumption|omega)|exact List.not_mem_nil|apply dc_length|exact nm1 (by omega)|fail))|((first|apply qmi|apply qqi|apply qia|apply qfh|apply qsa|apply qaa|apply qmv|apply qas|apply qla|apply qix|apply qls|apply qad|apply qln)<;>(first|exact rfl|assumption|exact Ar.mk (by omega)|exact dct (by first|assumption|omega)|exact dcf (by first|assumption|omega)|exact List.not_mem_nil|apply dc_length|exact nm1 (by omega)|fail))|fail) ?_)
  refine SG.call rfl rfl rfl (by repeat' (first | exact True.intro | exact rho_of rfl | refine And.intro ?_ ?_)) ((whole_spec hB hS hab hl hc).mono (fun e w1 hh => ?_))
  obtain ⟨he, hk1, hB1⟩ := hh
  refine ⟨_, he, ?_⟩
  repeat (first|apply CG.seq|apply CG.region|apply SG.nil|apply NG.next|apply CG.skip|apply CG.block|apply CG.ret|apply CG.exit|apply NG.exit_then|refine NG.exit_block rfl ?_|apply NG.normal_block|refine SG.val rfl rfl rfl rfl (by first|(apply qi64<;>(first|exact rfl|assumption|exact Ar.mk (by omega)|exact dct (by first|assumption|omega)|exact dcf (by first|assumption|omega)|exact List.not_mem_nil|apply dc_length|exact nm1 (by omega)|fail))|((first|apply qmi|apply qqi|apply qia|apply qfh|apply qsa|apply qaa|apply qmv|apply qas|apply qla|apply qix|apply qls|apply qad|apply qln)<;>(first|exact rfl|assumption|exact Ar.mk (by omega)|exact dct (by first|assumption|omega)|exact dcf (by first|assumption|omega)|exact List.not_mem_nil|apply dc_length|exact nm1 (by omega)|fail))|fail) ?_)
  refine SG.call rfl rfl rfl (by repeat' (first | exact True.intro | exact rho_of rfl | refine And.intro ?_ ?_)) ((end_spec hB1 (hS.kp hk1 (fun b2 off e => nm1 (hab b2 off e))) ha hab hl hc).mono (fun e w2 hh => ?_))
  obtain ⟨he, hk2, hB2⟩ := hh
  refine ⟨_, he, ?_⟩
  repeat (first|apply CG.seq|apply CG.region|apply SG.nil|apply NG.next|apply CG.skip|apply CG.block|apply CG.ret|apply CG.exit|apply NG.exit_then|refine NG.exit_block rfl ?_|apply NG.normal_block|refine SG.val rfl rfl rfl rfl (by first|(apply qi64<;>(first|exact rfl|assumption|exact Ar.mk (by omega)|exact dct (by first|assumption|omega)|exact dcf (by first|assumption|omega)|exact List.not_mem_nil|apply dc_length|exact nm1 (by omega)|fail))|((first|apply qmi|apply qqi|apply qia|apply qfh|apply qsa|apply qaa|apply qmv|apply qas|apply qla|apply qix|apply qls|apply qad|apply qln)<;>(first|exact rfl|assumption|exact Ar.mk (by omega)|exact dct (by first|assumption|omega)|exact dcf (by first|assumption|omega)|exact List.not_mem_nil|apply dc_length|exact nm1 (by omega)|fail))|fail) ?_)
  refine ret0 (Or.inr rfl) Try.results79 ?_
  exact ⟨rfl, hk1.trans hk2, hB2⟩
set_option maxHeartbeats 8000000 in
theorem of_spec {w : World} {a : Option Addr} {c : Nat} {l : List UInt8} (hS : Sl by1 1 w a l) (ha : l = [] ∧ a = none ∨ ∃ b2 off, a = some ⟨b2, off, none⟩) (hab : ∀ b2 off, a = some ⟨b2, off, none⟩ → b2 < w.heap.size) (hl : l.length ≤ 1000000000) (hc : l.length ≤ c) :
    Ret Try.prog 51 #[.slice a l.length c] w (dv (ofI l)) := by
  refine enter1 Try.func51 rfl Try.ntmps51 rfl ?_
  repeat (first|apply CG.seq|apply CG.region|apply SG.nil|apply NG.next|apply CG.skip|apply CG.block|apply CG.ret|apply CG.exit|apply NG.exit_then|refine NG.exit_block rfl ?_|apply NG.normal_block|refine SG.val rfl rfl rfl rfl (by first|(apply qi64<;>(first|exact rfl|assumption|exact Ar.mk (by omega)|exact dct (by first|assumption|omega)|exact dcf (by first|assumption|omega)|exact List.not_mem_nil|apply dc_length|exact nm1 (by omega)|fail))|((first|apply qmi|apply qqi|apply qia|apply qfh|apply qsa|apply qaa|apply qmv|apply qas|apply qla|apply qix|apply qls|apply qad|apply qln)<;>(first|exact rfl|assumption|exact Ar.mk (by omega)|exact dct (by first|assumption|omega)|exact dcf (by first|assumption|omega)|exact List.not_mem_nil|apply dc_length|exact nm1 (by omega)|fail))|fail) ?_)
  refine SG.alloc rfl rfl rfl (fun b2 w1 hk1 hb2 hB2 => ?_)
  have hB2 : Blk w1 b2 (.cells (dc zd).toArray 24) := hB2
  have hl2 := hB2.lt
  repeat (first|apply CG.seq|apply CG.region|apply SG.nil|apply NG.next|apply CG.skip|apply CG.block|apply CG.ret|apply CG.exit|apply NG.exit_then|refine NG.exit_block rfl ?_|apply NG.normal_block|refine SG.val rfl rfl rfl rfl (by first|(apply qi64<;>(first|exact rfl|assumption|exact Ar.mk (by omega)|exact dct (by first|assumption|omega)|exact dcf (by first|assumption|omega)|exact List.not_mem_nil|apply dc_length|exact nm1 (by omega)|fail))|((first|apply qmi|apply qqi|apply qia|apply qfh|apply qsa|apply qaa|apply qmv|apply qas|apply qla|apply qix|apply qls|apply qad|apply qln)<;>(first|exact rfl|assumption|exact Ar.mk (by omega)|exact dct (by first|assumption|omega)|exact dcf (by first|assumption|omega)|exact List.not_mem_nil|apply dc_length|exact nm1 (by omega)|fail))|fail) ?_)
  refine SG.ret rfl rfl rfl (by repeat' (first | exact True.intro | exact rho_of rfl | refine And.intro ?_ ?_)) (begin_spec 1 w1) (fun w2 hk2 => ?_)
  refine SG.alloc rfl rfl rfl (fun b3 w3 hk3 hb3 hB3 => ?_)
  have hB3 : Blk w3 b3 (.cells (hsl ⟨0, 0, 0, 0⟩).toArray 111) := hB3
  refine SG.setAll (old := hsl ⟨0, 0, 0, 0⟩) (l := hsl (beginI 1)) rfl rfl (by exact rho_of rfl) (by exact rho_of rfl) hB3 rfl rfl rfl (fun w4 hk4 hB4 => ?_)
  have s1 := hk1.size
  have s2 := hk2.size
  have s3 := hk3.size
  have k3 : Kp [] w w3 := (hk1.trans hk2).trans hk3
  have k4 : Kp [] w w4 := k3.trans_new hk4 (new1 (by omega))
  repeat (first|apply CG.seq|apply CG.region|apply SG.nil|apply NG.next|apply CG.skip|apply CG.block|apply CG.ret|apply CG.exit|apply NG.exit_then|refine NG.exit_block rfl ?_|apply NG.normal_block|refine SG.val rfl rfl rfl rfl (by first|(apply qi64<;>(first|exact rfl|assumption|exact Ar.mk (by omega)|exact dct (by first|assumption|omega)|exact dcf (by first|assumption|omega)|exact List.not_mem_nil|apply dc_length|exact nm1 (by omega)|fail))|((first|apply qmi|apply qqi|apply qia|apply qfh|apply qsa|apply qaa|apply qmv|apply qas|apply qla|apply qix|apply qls|apply qad|apply qln)<;>(first|exact rfl|assumption|exact Ar.mk (by omega)|exact dct (by first|assumption|omega)|exact dcf (by first|assumption|omega)|exact List.not_mem_nil|apply dc_length|exact nm1 (by omega)|fail))|fail) ?_)
  refine SG.call rfl rfl rfl (by repeat' (first | exact True.intro | exact rho_of rfl | refine And.intro ?_ ?_)) ((bytes_spec hB4 (hS.kp0 k4) ha (fun b5 off e => by have := hab b5 off e; omega) hl hc).mono (fun e w5 hh => ?_))
  obtain ⟨he, hk5, hB5⟩ := hh
  refine ⟨_, he, ?_⟩
  repeat (first|apply CG.seq|apply CG.region|apply SG.nil|apply NG.next|apply CG.skip|apply CG.block|apply CG.ret|apply CG.exit|apply NG.exit_then|refine NG.exit_block rfl ?_|apply NG.normal_block|refine SG.val rfl rfl rfl rfl (by first|(apply qi64<;>(first|exact rfl|assumption|exact Ar.mk (by omega)|exact dct (by first|assumption|omega)|exact dcf (by first|assumption|omega)|exact List.not_mem_nil|apply dc_length|exact nm1 (by omega)|fail))|((first|apply qmi|apply qqi|apply qia|apply qfh|apply qsa|apply qaa|apply qmv|apply qas|apply qla|apply qix|apply qls|apply qad|apply qln)<;>(first|exact rfl|assumption|exact Ar.mk (by omega)|exact dct (by first|assumption|omega)|exact dcf (by first|assumption|omega)|exact List.not_mem_nil|apply dc_length|exact nm1 (by omega)|fail))|fail) ?_)
  refine SG.ret rfl rfl rfl (by repeat' (first | exact True.intro | exact rho_of rfl | refine And.intro ?_ ?_)) (gives_spec hB5) (fun w6 hk6 => ?_)
  refine SG.setAll (old := dc zd) (l := dc (ofI l)) rfl rfl (by exact rho_of rfl) (by exact rho_of rfl) (((((hB2.kp0 hk2).kp0 hk3).kp hk4 (nm1 (by omega))).kp hk5 (nm1 (by omega))).kp0 hk6) (dc_length _) (dc_length _) (dc_one _) (fun w7 hk7 hB7 => ?_)
  have hr4 : Row w7 b2 0 (dc (ofI l)) := Row.all hB7 rfl
  repeat (first|apply CG.seq|apply CG.region|apply SG.nil|apply NG.next|apply CG.skip|apply CG.block|apply CG.ret|apply CG.exit|apply NG.exit_then|refine NG.exit_block rfl ?_|apply NG.normal_block|refine SG.val rfl rfl rfl rfl (by first|(apply qi64<;>(first|exact rfl|assumption|exact Ar.mk (by omega)|exact dct (by first|assumption|omega)|exact dcf (by first|assumption|omega)|exact List.not_mem_nil|apply dc_length|exact nm1 (by omega)|fail))|((first|apply qmi|apply qqi|apply qia|apply qfh|apply qsa|apply qaa|apply qmv|apply qas|apply qla|apply qix|apply qls|apply qad|apply qln)<;>(first|exact rfl|assumption|exact Ar.mk (by omega)|exact dct (by first|assumption|omega)|exact dcf (by first|assumption|omega)|exact List.not_mem_nil|apply dc_length|exact nm1 (by omega)|fail))|fail) ?_)
  refine ret1 (Or.inl rfl) Try.results51 (by first | exact ResV.tmp rfl | exact ResV.agg rfl rfl (by assumption) (by first | exact dc_length _ | exact nc_length _ | exact rc_length _ _ _ | exact ec_length _ | exact dl_length _ _ _ _ | rfl) | exact ResV.cell rfl rfl (by assumption)) ?_
  exact ⟨rfl, ((k4.trans_new hk5 (new1 (by omega))).trans hk6).trans_new hk7 (new1 hb2)⟩
set_option maxHeartbeats 8000000 in
theorem two_spec (x y : Dg) (w : World) : Ret Try.prog 41 #[dv x, dv y] w (dv (twoI x y)) := by
  refine enter2 Try.func41 rfl Try.ntmps41 rfl ?_
  repeat (first|apply CG.seq|apply CG.region|apply SG.nil|apply NG.next|apply CG.skip|apply CG.block|apply CG.ret|apply CG.exit|apply NG.exit_then|refine NG.exit_block rfl ?_|apply NG.normal_block|refine SG.val rfl rfl rfl rfl (by first|(apply qi64<;>(first|exact rfl|assumption|exact Ar.mk (by omega)|exact dct (by first|assumption|omega)|exact dcf (by first|assumption|omega)|exact List.not_mem_nil|apply dc_length|exact nm1 (by omega)|fail))|((first|apply qmi|apply qqi|apply qia|apply qfh|apply qsa|apply qaa|apply qmv|apply qas|apply qla|apply qix|apply qls|apply qad|apply qln)<;>(first|exact rfl|assumption|exact Ar.mk (by omega)|exact dct (by first|assumption|omega)|exact dcf (by first|assumption|omega)|exact List.not_mem_nil|apply dc_length|exact nm1 (by omega)|fail))|fail) ?_)
  refine SG.box rfl rfl rfl (by exact rho_of rfl) (fun bx wa hka hbx hBx => ?_)
  have hBx : Blk wa bx (.cells (dc x).toArray 24) := hBx
  refine SG.box rfl rfl rfl (by exact rho_of rfl) (fun by' wb hkb hby hBy => ?_)
  have hBy : Blk wb by' (.cells (dc y).toArray 24) := hBy
  refine SG.alloc rfl rfl rfl (fun b2 w1 hk1 hb2 hB2 => ?_)
  have hB2 : Blk w1 b2 (.cells (dc zd).toArray 24) := hB2
  have hl2 := hB2.lt
  have hlx := hBx.lt
  have hly := hBy.lt
  repeat (first|apply CG.seq|apply CG.region|apply SG.nil|apply NG.next|apply CG.skip|apply CG.block|apply CG.ret|apply CG.exit|apply NG.exit_then|refine NG.exit_block rfl ?_|apply NG.normal_block|refine SG.val rfl rfl rfl rfl (by first|(apply qi64<;>(first|exact rfl|assumption|exact Ar.mk (by omega)|exact dct (by first|assumption|omega)|exact dcf (by first|assumption|omega)|exact List.not_mem_nil|apply dc_length|exact nm1 (by omega)|fail))|((first|apply qmi|apply qqi|apply qia|apply qfh|apply qsa|apply qaa|apply qmv|apply qas|apply qla|apply qix|apply qls|apply qad|apply qln)<;>(first|exact rfl|assumption|exact Ar.mk (by omega)|exact dct (by first|assumption|omega)|exact dcf (by first|assumption|omega)|exact List.not_mem_nil|apply dc_length|exact nm1 (by omega)|fail))|fail) ?_)
  refine SG.ret rfl rfl rfl (by repeat' (first | exact True.intro | exact rho_of rfl | refine And.intro ?_ ?_)) (begin_spec 3 w1) (fun w2 hk2 => ?_)
  refine SG.alloc rfl rfl rfl (fun b3 w3 hk3 hb3 hB3 => ?_)
  have hB3 : Blk w3 b3 (.cells (hsl ⟨0, 0, 0, 0⟩).toArray 111) := hB3
  refine SG.setAll (old := hsl ⟨0, 0, 0, 0⟩) (l := hsl (beginI 3)) rfl rfl (by exact rho_of rfl) (by exact rho_of rfl) hB3 rfl rfl rfl (fun w4 hk4 hB4 => ?_)
  have sa := hka.size
  have sb := hkb.size
  have s1 := hk1.size
  have s2 := hk2.size
  have s3 := hk3.size
  have k3 : Kp [] w w3 := (((hka.trans hkb).trans hk1).trans hk2).trans hk3
  have k4 : Kp [] w w4 := k3.trans_new hk4 (new1 (by omega))
  have rx : Row w4 bx 0 (dc x) := ((Row.all hBx rfl).kp0 (((hkb.trans hk1).trans hk2).trans hk3)).kp hk4 (nm1 (by omega))
  have ry : Row w4 by' 0 (dc y) := ((Row.all hBy rfl).kp0 ((hk1.trans hk2).trans hk3)).kp hk4 (nm1 (by omega))
  repeat (first|apply CG.seq|apply CG.region|apply SG.nil|apply NG.next|apply CG.skip|apply CG.block|apply CG.ret|apply CG.exit|apply NG.exit_then|refine NG.exit_block rfl ?_|apply NG.normal_block|refine SG.val rfl rfl rfl rfl (by first|(apply qi64<;>(first|exact rfl|assumption|exact Ar.mk (by omega)|exact dct (by first|assumption|omega)|exact dcf (by first|assumption|omega)|exact List.not_mem_nil|apply dc_length|exact nm1 (by omega)|fail))|((first|apply qmi|apply qqi|apply qia|apply qfh|apply qsa|apply qaa|apply qmv|apply qas|apply qla|apply qix|apply qls|apply qad|apply qln)<;>(first|exact rfl|assumption|exact Ar.mk (by omega)|exact dct (by first|assumption|omega)|exact dcf (by first|assumption|omega)|exact List.not_mem_nil|apply dc_length|exact nm1 (by omega)|fail))|fail) ?_)
  refine SG.ret rfl rfl rfl (by repeat' (first | exact True.intro | exact rho_of rfl | refine And.intro ?_ ?_)) (num_spec x w4) (fun w5 hk5 => ?_)
  refine SG.call rfl rfl rfl (by repeat' (first | exact True.intro | exact rho_of rfl | refine And.intro ?_ ?_)) ((take_spec (hB4.kp0 hk5) _).mono (fun e w6 hh => ?_))
  obtain ⟨he, hk6, hB6⟩ := hh
  refine ⟨_, he, ?_⟩
  have ry : Row w6 by' 0 (dc y) := (ry.kp0 hk5).kp hk6 (nm1 (by omega))
  repeat (first|apply CG.seq|apply CG.region|apply SG.nil|apply NG.next|apply CG.skip|apply CG.block|apply CG.ret|apply CG.exit|apply NG.exit_then|refine NG.exit_block rfl ?_|apply NG.normal_block|refine SG.val rfl rfl rfl rfl (by first|(apply qi64<;>(first|exact rfl|assumption|exact Ar.mk (by omega)|exact dct (by first|assumption|omega)|exact dcf (by first|assumption|omega)|exact List.not_mem_nil|apply dc_length|exact nm1 (by omega)|fail))|((first|apply qmi|apply qqi|apply qia|apply qfh|apply qsa|apply qaa|apply qmv|apply qas|apply qla|apply qix|apply qls|apply qad|apply qln)<;>(first|exact rfl|assumption|exact Ar.mk (by omega)|exact dct (by first|assumption|omega)|exact dcf (by first|assumption|omega)|exact List.not_mem_nil|apply dc_length|exact nm1 (by omega)|fail))|fail) ?_)
  refine SG.ret rfl rfl rfl (by repeat' (first | exact True.intro | exact rho_of rfl | refine And.intro ?_ ?_)) (num_spec y w6) (fun w7 hk7 => ?_)
  refine SG.call rfl rfl rfl (by repeat' (first | exact True.intro | exact rho_of rfl | refine And.intro ?_ ?_)) ((take_spec (hB6.kp0 hk7) _).mono (fun e w8 hh => ?_))
  obtain ⟨he, hk8, hB8⟩ := hh
  refine ⟨_, he, ?_⟩
  repeat (first|apply CG.seq|apply CG.region|apply SG.nil|apply NG.next|apply CG.skip|apply CG.block|apply CG.ret|apply CG.exit|apply NG.exit_then|refine NG.exit_block rfl ?_|apply NG.normal_block|refine SG.val rfl rfl rfl rfl (by first|(apply qi64<;>(first|exact rfl|assumption|exact Ar.mk (by omega)|exact dct (by first|assumption|omega)|exact dcf (by first|assumption|omega)|exact List.not_mem_nil|apply dc_length|exact nm1 (by omega)|fail))|((first|apply qmi|apply qqi|apply qia|apply qfh|apply qsa|apply qaa|apply qmv|apply qas|apply qla|apply qix|apply qls|apply qad|apply qln)<;>(first|exact rfl|assumption|exact Ar.mk (by omega)|exact dct (by first|assumption|omega)|exact dcf (by first|assumption|omega)|exact List.not_mem_nil|apply dc_length|exact nm1 (by omega)|fail))|fail) ?_)
  refine SG.ret rfl rfl rfl (by repeat' (first | exact True.intro | exact rho_of rfl | refine And.intro ?_ ?_)) (gives_spec hB8) (fun w9 hk9 => ?_)
  refine SG.setAll (old := dc zd) (l := dc (twoI x y)) rfl rfl (by exact rho_of rfl) (by exact rho_of rfl) ((((((((hB2.kp0 hk2).kp0 hk3).kp hk4 (nm1 (by omega))).kp0 hk5).kp hk6 (nm1 (by omega))).kp0 hk7).kp hk8 (nm1 (by omega))).kp0 hk9) (dc_length _) (dc_length _) (dc_one _) (fun wz hkz hBz => ?_)
  have hr4 : Row wz b2 0 (dc (twoI x y)) := Row.all hBz rfl
  repeat (first|apply CG.seq|apply CG.region|apply SG.nil|apply NG.next|apply CG.skip|apply CG.block|apply CG.ret|apply CG.exit|apply NG.exit_then|refine NG.exit_block rfl ?_|apply NG.normal_block|refine SG.val rfl rfl rfl rfl (by first|(apply qi64<;>(first|exact rfl|assumption|exact Ar.mk (by omega)|exact dct (by first|assumption|omega)|exact dcf (by first|assumption|omega)|exact List.not_mem_nil|apply dc_length|exact nm1 (by omega)|fail))|((first|apply qmi|apply qqi|apply qia|apply qfh|apply qsa|apply qaa|apply qmv|apply qas|apply qla|apply qix|apply qls|apply qad|apply qln)<;>(first|exact rfl|assumption|exact Ar.mk (by omega)|exact dct (by first|assumption|omega)|exact dcf (by first|assumption|omega)|exact List.not_mem_nil|apply dc_length|exact nm1 (by omega)|fail))|fail) ?_)
  refine ret1 (Or.inl rfl) Try.results41 (by first | exact ResV.tmp rfl | exact ResV.agg rfl rfl (by assumption) (by first | exact dc_length _ | exact nc_length _ | exact rc_length _ _ _ | exact ec_length _ | exact dl_length _ _ _ _ | rfl) | exact ResV.cell rfl rfl (by assumption)) ?_
  exact ⟨rfl, (((((k4.trans hk5).trans_new hk6 (new1 (by omega))).trans hk7).trans_new hk8 (new1 (by omega))).trans hk9).trans_new hkz (new1 (by omega))⟩
set_option maxHeartbeats 8000000 in
theorem many_spec {w : World} {a : Option Addr} {l : List Dg} (c : Nat) (hS : Sl dc 8 w a l) (hab : ∀ b2 off, a = some ⟨b2, off, none⟩ → b2 < w.heap.size) (hl : l.length ≤ 1000000000) :
    Ret Try.prog 67 #[.slice a l.length c] w (dv (manyI l)) := by
  refine enter1 Try.func67 rfl Try.ntmps67 rfl ?_
  repeat (first|apply CG.seq|apply CG.region|apply SG.nil|apply NG.next|apply CG.skip|apply CG.block|apply CG.ret|apply CG.exit|apply NG.exit_then|refine NG.exit_block rfl ?_|apply NG.normal_block|refine SG.val rfl rfl rfl rfl (by first|(apply qi64<;>(first|exact rfl|assumption|exact Ar.mk (by omega)|exact dct (by first|assumption|omega)|exact dcf (by first|assumption|omega)|exact List.not_mem_nil|apply dc_length|exact nm1 (by omega)|fail))|((first|apply qmi|apply qqi|apply qia|apply qfh|apply qsa|apply qaa|apply qmv|apply qas|apply qla|apply qix|apply qls|apply qad|apply qln)<;>(first|exact rfl|assumption|exact Ar.mk (by omega)|exact dct (by first|assumption|omega)|exact dcf (by first|assumption|omega)|exact List.not_mem_nil|apply dc_length|exact nm1 (by omega)|fail))|fail) ?_)
  refine SG.alloc rfl rfl rfl (fun b2 w1 hk1 hb2 hB2 => ?_)
  have hB2 : Blk w1 b2 (.cells (dc zd).toArray 24) := hB2
  have hl2 := hB2.lt
  repeat (first|apply CG.seq|apply CG.region|apply SG.nil|apply NG.next|apply CG.skip|apply CG.block|apply CG.ret|apply CG.exit|apply NG.exit_then|refine NG.exit_block rfl ?_|apply NG.normal_block|refine SG.val rfl rfl rfl rfl (by first|(apply qi64<;>(first|exact rfl|assumption|exact Ar.mk (by omega)|exact dct (by first|assumption|omega)|exact dcf (by first|assumption|omega)|exact List.not_mem_nil|apply dc_length|exact nm1 (by omega)|fail))|((first|apply qmi|apply qqi|apply qia|apply qfh|apply qsa|apply qaa|apply qmv|apply qas|apply qla|apply qix|apply qls|apply qad|apply qln)<;>(first|exact rfl|assumption|exact Ar.mk (by omega)|exact dct (by first|assumption|omega)|exact dcf (by first|assumption|omega)|exact List.not_mem_nil|apply dc_length|exact nm1 (by omega)|fail))|fail) ?_)
  refine SG.ret rfl rfl rfl (by repeat' (first | exact True.intro | exact rho_of rfl | refine And.intro ?_ ?_)) (begin_spec 5 w1) (fun w2 hk2 => ?_)
  refine SG.alloc rfl rfl rfl (fun b3 w3 hk3 hb3 hB3 => ?_)
  have hB3 : Blk w3 b3 (.cells (hsl ⟨0, 0, 0, 0⟩).toArray 111) := hB3
  refine SG.setAll (old := hsl ⟨0, 0, 0, 0⟩) (l := hsl (beginI 5)) rfl rfl (by exact rho_of rfl) (by exact rho_of rfl) hB3 rfl rfl rfl (fun w4 hk4 hB4 => ?_)
  have s1 := hk1.size
  have s2 := hk2.size
  have s3 := hk3.size
  have k3 : Kp [] w w3 := (hk1.trans hk2).trans hk3
  have k4 : Kp [] w w4 := k3.trans_new hk4 (new1 (by omega))
  have hlb3 := hB3.lt
  have s4 := hk4.size
  have hB24 : Blk w4 b2 (.cells (dc zd).toArray 24) := ((hB2.kp0 hk2).kp0 hk3).kp hk4 (nm1 (by omega))
  repeat (first|apply CG.seq|apply CG.region|apply SG.nil|apply NG.next|apply CG.skip|apply CG.block|apply CG.ret|apply CG.exit|apply NG.exit_then|refine NG.exit_block rfl ?_|apply NG.normal_block|refine SG.val rfl rfl rfl rfl (by first|(apply qi64<;>(first|exact rfl|assumption|exact Ar.mk (by omega)|exact dct (by first|assumption|omega)|exact dcf (by first|assumption|omega)|exact List.not_mem_nil|apply dc_length|exact nm1 (by omega)|fail))|((first|apply qmi|apply qqi|apply qia|apply qfh|apply qsa|apply qaa|apply qmv|apply qas|apply qla|apply qix|apply qls|apply qad|apply qln)<;>(first|exact rfl|assumption|exact Ar.mk (by omega)|exact dct (by first|assumption|omega)|exact dcf (by first|assumption|omega)|exact List.not_mem_nil|apply dc_length|exact nm1 (by omega)|fail))|fail) ?_)
  refine CG.loop (X := Nat) (fun i => [(0, .slice a l.length c), (2, .pointer (some ⟨b2, 0, none⟩)), (3, .pointer (some ⟨b3, 0, none⟩)), (7, .slice a l.length c), (8, .int .i64 (l.length : Int)), (9, .int .i64 (i : Int))])
    (fun i w' => i ≤ l.length ∧ Kp [] w w' ∧ w4.heap.size ≤ w'.heap.size ∧ Blk w' b3 (.cells (hsl (manyS (beginI 5) (l.take i))).toArray 111) ∧ Blk w' b2 (.cells (dc zd).toArray 24)) (fun i => l.length - i) 0 ⟨by omega, k4, Nat.le_refl _, by simpa [manyS] using hB4, hB24⟩ (by (repeat' (first | exact True.intro | exact rfl | refine And.intro ?_ ?_))) ?_
  rintro i w5 ⟨hi, k5, s5, hB5, hB25⟩
  by_cases hlt : i < l.length
  · have g1 : (i : Int) < (l.length : Int) := by omega
    obtain ⟨ba, off, rfl, hrow⟩ := (hS.kp0 k5).at hlt
    repeat (first|apply CG.seq|apply CG.region|apply SG.nil|apply NG.next|apply CG.skip|apply CG.block|apply CG.ret|apply CG.exit|apply NG.exit_then|refine NG.exit_block rfl ?_|apply NG.normal_block|refine SG.val rfl rfl rfl rfl (by first|(apply qi64<;>(first|exact rfl|assumption|exact Ar.mk (by omega)|exact dct (by first|assumption|omega)|exact dcf (by first|assumption|omega)|exact List.not_mem_nil|apply dc_length|exact nm1 (by omega)|fail))|((first|apply qmi|apply qqi|apply qia|apply qfh|apply qsa|apply qaa|apply qmv|apply qas|apply qla|apply qix|apply qls|apply qad|apply qln)<;>(first|exact rfl|assumption|exact Ar.mk (by omega)|exact dct (by first|assumption|omega)|exact dcf (by first|assumption|omega)|exact List.not_mem_nil|apply dc_length|exact nm1 (by omega)|fail))|fail) ?_)
    refine CG.cond_t rfl (by exact rho_of rfl) rfl ?_
    repeat (first|apply CG.seq|apply CG.region|apply SG.nil|apply NG.next|apply CG.skip|apply CG.block|apply CG.ret|apply CG.exit|apply NG.exit_then|refine NG.exit_block rfl ?_|apply NG.normal_block|refine SG.val rfl rfl rfl rfl (by first|(apply qi64<;>(first|exact rfl|assumption|exact Ar.mk (by omega)|exact dct (by first|assumption|omega)|exact dcf (by first|assumption|omega)|exact List.not_mem_nil|apply dc_length|exact nm1 (by omega)|fail))|((first|apply qmi|apply qqi|apply qia|apply qfh|apply qsa|apply qaa|apply qmv|apply qas|apply qla|apply qix|apply qls|apply qad|apply qln)<;>(first|exact rfl|assumption|exact Ar.mk (by omega)|exact dct (by first|assumption|omega)|exact dcf (by first|assumption|omega)|exact List.not_mem_nil|apply dc_length|exact nm1 (by omega)|fail))|fail) ?_)
    refine SG.alloc rfl rfl rfl (fun b6 w6 hk6 hb6 hB6 => ?_)
    have hB6 : Blk w6 b6 (.cells (dc zd).toArray 24) := hB6
    refine SG.setAll (old := dc zd) (l := dc l[i]) rfl rfl (by exact rho_of rfl) (by exact rho_of rfl) hB6 (dc_length _) (dc_length _) (dc_one _) (fun w7 hk7 hB7 => ?_)
    have hr7 : Row w7 b6 0 (dc l[i]) := Row.all hB7 rfl
    have l5 := hB5.lt
    have l25 := hB25.lt
    repeat (first|apply CG.seq|apply CG.region|apply SG.nil|apply NG.next|apply CG.skip|apply CG.block|apply CG.ret|apply CG.exit|apply NG.exit_then|refine NG.exit_block rfl ?_|apply NG.normal_block|refine SG.val rfl rfl rfl rfl (by first|(apply qi64<;>(first|exact rfl|assumption|exact Ar.mk (by omega)|exact dct (by first|assumption|omega)|exact dcf (by first|assumption|omega)|exact List.not_mem_nil|apply dc_length|exact nm1 (by omega)|fail))|((first|apply qmi|apply qqi|apply qia|apply qfh|apply qsa|apply qaa|apply qmv|apply qas|apply qla|apply qix|apply qls|apply qad|apply qln)<;>(first|exact rfl|assumption|exact Ar.mk (by omega)|exact dct (by first|assumption|omega)|exact dcf (by first|assumption|omega)|exact List.not_mem_nil|apply dc_length|exact nm1 (by omega)|fail))|fail) ?_)
    refine SG.ret rfl rfl rfl (by repeat' (first | exact True.intro | exact rho_of rfl | refine And.intro ?_ ?_)) (num_spec l[i] w7) (fun w8 hk8 => ?_)
    refine SG.call rfl rfl rfl (by repeat' (first | exact True.intro | exact rho_of rfl | refine And.intro ?_ ?_)) ((take_spec (((hB5.kp0 hk6).kp hk7 (nm1 (by omega))).kp0 hk8) _).mono (fun e w9 hh => ?_))
    obtain ⟨he, hk9, hB9⟩ := hh
    refine ⟨_, he, ?_⟩
    repeat (first|apply CG.seq|apply CG.region|apply SG.nil|apply NG.next|apply CG.skip|apply CG.block|apply CG.ret|apply CG.exit|apply NG.exit_then|refine NG.exit_block rfl ?_|apply NG.normal_block|refine SG.val rfl rfl rfl rfl (by first|(apply qi64<;>(first|exact rfl|assumption|exact Ar.mk (by omega)|exact dct (by first|assumption|omega)|exact dcf (by first|assumption|omega)|exact List.not_mem_nil|apply dc_length|exact nm1 (by omega)|fail))|((first|apply qmi|apply qqi|apply qia|apply qfh|apply qsa|apply qaa|apply qmv|apply qas|apply qla|apply qix|apply qls|apply qad|apply qln)<;>(first|exact rfl|assumption|exact Ar.mk (by omega)|exact dct (by first|assumption|omega)|exact dcf (by first|assumption|omega)|exact List.not_mem_nil|apply dc_length|exact nm1 (by omega)|fail))|fail) ?_)
    have s6 := hk6.size
    have s7 := hk7.size
    have s8 := hk8.size
    have s9 := hk9.size
    refine NG.round (i + 1) (by (repeat' (first | exact True.intro | exact rfl | refine And.intro ?_ ?_))) ⟨by omega, (((k5.trans hk6).trans_new hk7 (new1 (by omega))).trans hk8).trans_new hk9 (new1 (by omega)), by omega, ?_, (((hB25.kp0 hk6).kp hk7 (nm1 (by omega))).kp0 hk8).kp hk9 (nm1 (by omega))⟩ (by omega)
    rw [List.take_succ_eq_append_getElem hlt, manyS_append]
    exact hB9
  · have g1 : ¬ (i : Int) < (l.length : Int) := by omega
    have e8 : i = l.length := by omega
    subst e8
    rw [List.take_of_length_le (Nat.le_refl _)] at hB5
    repeat (first|apply CG.seq|apply CG.region|apply SG.nil|apply NG.next|apply CG.skip|apply CG.block|apply CG.ret|apply CG.exit|apply NG.exit_then|refine NG.exit_block rfl ?_|apply NG.normal_block|refine SG.val rfl rfl rfl rfl (by first|(apply qi64<;>(first|exact rfl|assumption|exact Ar.mk (by omega)|exact dct (by first|assumption|omega)|exact dcf (by first|assumption|omega)|exact List.not_mem_nil|apply dc_length|exact nm1 (by omega)|fail))|((first|apply qmi|apply qqi|apply qia|apply qfh|apply qsa|apply qaa|apply qmv|apply qas|apply qla|apply qix|apply qls|apply qad|apply qln)<;>(first|exact rfl|assumption|exact Ar.mk (by omega)|exact dct (by first|assumption|omega)|exact dcf (by first|assumption|omega)|exact List.not_mem_nil|apply dc_length|exact nm1 (by omega)|fail))|fail) ?_)
    refine CG.cond_f rfl (by exact rho_of rfl) rfl ?_
    repeat (first|apply CG.seq|apply CG.region|apply SG.nil|apply NG.next|apply CG.skip|apply CG.block|apply CG.ret|apply CG.exit|apply NG.exit_then|refine NG.exit_block rfl ?_|apply NG.normal_block|refine SG.val rfl rfl rfl rfl (by first|(apply qi64<;>(first|exact rfl|assumption|exact Ar.mk (by omega)|exact dct (by first|assumption|omega)|exact dcf (by first|assumption|omega)|exact List.not_mem_nil|apply dc_length|exact nm1 (by omega)|fail))|((first|apply qmi|apply qqi|apply qia|apply qfh|apply qsa|apply qaa|apply qmv|apply qas|apply qla|apply qix|apply qls|apply qad|apply qln)<;>(first|exact rfl|assumption|exact Ar.mk (by omega)|exact dct (by first|assumption|omega)|exact dcf (by first|assumption|omega)|exact List.not_mem_nil|apply dc_length|exact nm1 (by omega)|fail))|fail) ?_)
    refine SG.call rfl rfl rfl (by repeat' (first | exact True.intro | exact rho_of rfl | refine And.intro ?_ ?_)) ((take_spec hB5 _).mono (fun e w6 hh => ?_))
    obtain ⟨he, hk6, hB6⟩ := hh
    refine ⟨_, he, ?_⟩
    repeat (first|apply CG.seq|apply CG.region|apply SG.nil|apply NG.next|apply CG.skip|apply CG.block|apply CG.ret|apply CG.exit|apply NG.exit_then|refine NG.exit_block rfl ?_|apply NG.normal_block|refine SG.val rfl rfl rfl rfl (by first|(apply qi64<;>(first|exact rfl|assumption|exact Ar.mk (by omega)|exact dct (by first|assumption|omega)|exact dcf (by first|assumption|omega)|exact List.not_mem_nil|apply dc_length|exact nm1 (by omega)|fail))|((first|apply qmi|apply qqi|apply qia|apply qfh|apply qsa|apply qaa|apply qmv|apply qas|apply qla|apply qix|apply qls|apply qad|apply qln)<;>(first|exact rfl|assumption|exact Ar.mk (by omega)|exact dct (by first|assumption|omega)|exact dcf (by first|assumption|omega)|exact List.not_mem_nil|apply dc_length|exact nm1 (by omega)|fail))|fail) ?_)
    refine SG.ret rfl rfl rfl (by repeat' (first | exact True.intro | exact rho_of rfl | refine And.intro ?_ ?_)) (gives_spec hB6) (fun w7 hk7 => ?_)
    refine SG.setAll (old := dc zd) (l := dc (manyI l)) rfl rfl (by exact rho_of rfl) (by exact rho_of rfl) ((hB25.kp hk6 (nm1 (by omega))).kp0 hk7) (dc_length _) (dc_length _) (dc_one _) (fun w8 hk8 hB8 => ?_)
    have hr4 : Row w8 b2 0 (dc (manyI l)) := Row.all hB8 rfl
    repeat (first|apply CG.seq|apply CG.region|apply SG.nil|apply NG.next|apply CG.skip|apply CG.block|apply CG.ret|apply CG.exit|apply NG.exit_then|refine NG.exit_block rfl ?_|apply NG.normal_block|refine SG.val rfl rfl rfl rfl (by first|(apply qi64<;>(first|exact rfl|assumption|exact Ar.mk (by omega)|exact dct (by first|assumption|omega)|exact dcf (by first|assumption|omega)|exact List.not_mem_nil|apply dc_length|exact nm1 (by omega)|fail))|((first|apply qmi|apply qqi|apply qia|apply qfh|apply qsa|apply qaa|apply qmv|apply qas|apply qla|apply qix|apply qls|apply qad|apply qln)<;>(first|exact rfl|assumption|exact Ar.mk (by omega)|exact dct (by first|assumption|omega)|exact dcf (by first|assumption|omega)|exact List.not_mem_nil|apply dc_length|exact nm1 (by omega)|fail))|fail) ?_)
    refine ret1 (Or.inl rfl) Try.results67 (by first | exact ResV.tmp rfl | exact ResV.agg rfl rfl (by assumption) (by first | exact dc_length _ | exact nc_length _ | exact rc_length _ _ _ | exact ec_length _ | exact dl_length _ _ _ _ | rfl) | exact ResV.cell rfl rfl (by assumption)) ?_
    exact ⟨rfl, ((k5.trans_new hk6 (new1 (by omega))).trans hk7).trans_new hk8 (new1 (by omega))⟩
end Go.Proofs.Ytnoipmimddoioaa
/-
  append in text order, with where the row lies.
-/
namespace Go.Proofs.Ytnoipmimddoioaa
set_option linter.unusedVariables false
section
variable {P : Program} {n : Nat} {ops : List Oper} {Q : Exit → Act → World → Prop} {w : World} {L : Env} {ty : TypeId} {pos : String} {af : Array Edge} {g : Option (Nat × Bool)} {rest : List Oper}
theorem SG.appendW {base : Nat} {t e : TypeId} {i : TypeInfo} [u : Ut P t (.slice e)] [f : Inf P e i] {z : Value} {d : Nat} {s x : Operand} {v : Value} {nn : Nat} {xs : List Value} {b off m c : Nat} {news : List Value}
    (hd : Nat.blt d n = true) (hw : want ops L ⟨some d, .call { callee := .builtin .append, args := #[s, x], argTypes := #[t, t] }, ty, pos, af, g⟩ = some true) (hk : (known L s && known L x) = true)
    (hs : rho L s = v) (hx : rho L x = .slice (some ⟨b, off, none⟩) m c) (hz : i.zero = some z) (hzs : Nat.beq z.cells.size i.size = true) (hsz : Nat.blt 0 i.size = true) (hown : w.ownsRow base e i.size v nn xs) (hr : Row w b off news) (hl : news.length = m * i.size) (h1 : allOne news = true)
    (h63 : nn + m ≤ maxLen) (hbytes : (nn + m) * i.bytes ≤ 140737488355328) (hbase : base ≤ w.heap.size)
    (h : ∀ v' w', Kp (ownB v) w w' → w'.ownsRow base e i.size v' (nn + m) (xs ++ news) → (∀ g, v'.ownBlock = some g → v.ownBlock = some g ∨ g = w.heap.size) → SG P n ops Q rest ((d, v') :: L) w') : SG P n ops Q (⟨some d, .call { callee := .builtin .append, args := #[s, x], argTypes := #[t, t] }, ty, pos, af, g⟩ :: rest) L w := by
  refine SG.op (by simpa using hd) rfl hw (by simpa [Op.operands, Call.operands] using hk) ?_
  unfold OpRun
  obtain ⟨v', w', h2, h3, h4⟩ := run_append (P := P) (ty := ty) (d := .bool) (c := c) (u := u) (f := f) hz (Nat.eq_of_beq_eq_true hzs) (by simpa [Nat.blt_eq] using hsz) hown hl hr h1 h63 hbytes hbase
  have : (execOp (rho L) ⟨some d, .call { callee := .builtin .append, args := #[s, x], argTypes := #[t, t] }, ty, pos, af, g⟩).run P w = .ok (.value v') w' := by
    simp only [execOp, resolve, invoke, builtin, Sem.run_bind, Sem.run_pure, Result.andThen_ok, List.map_toArray, List.map_cons, List.map_nil, hs, hx, h2]
  rw [this]
  exact h v' w' h4 h3 (append_where (u := u) (f := f) hz hown hl hr h1 h63 hbytes h2)
end
/-- Two owned rows lie apart. -/
def Apart (v o : Value) : Prop := ∀ b, v.ownBlock = some b → o.ownBlock ≠ some b
theorem Apart.symm {v o : Value} (h : Apart v o) : Apart o v := fun b h1 h2 => h b h2 h1
theorem Apart.grow {w : World} {base n sz : Nat} {T : TypeId} {v v' o : Value} {xs : List Value} (h : Apart v o) (hw : ∀ g, v'.ownBlock = some g → v.ownBlock = some g ∨ g = w.heap.size) (ho : w.ownsRow base T sz o n xs) : Apart v' o := fun b h1 h2 => by
  rcases hw b h1 with h3 | h3
  · exact h b h3 h2
  · have := (ho.lt b h2).2
    omega
theorem own_apart {w w' : World} {base n sz : Nat} {T : TypeId} {v o : Value} {xs : List Value} (h : Apart v o) (ho : w.ownsRow base T sz o n xs) (hk : Kp (ownB v) w w') : w'.ownsRow base T sz o n xs := own_kp ho hk (fun b hb hm => by
  unfold ownB at hm
  cases hv : v.ownBlock with
  | none => rw [hv] at hm; cases hm
  | some z =>
    rw [hv, List.mem_singleton] at hm
    subst hm
    exact h _ hv hb)
/-- A block of another type is kept. -/
theorem blk_own {w w' : World} {base n sz : Nat} {T T' : TypeId} {v : Value} {xs : List Value} {z : Nat} {cs : Array Value} (ho : w.ownsRow base T sz v n xs) (hT : T' ≠ T) (hz : Blk w z (.cells cs T')) (hk : Kp (ownB v) w w') : Blk w' z (.cells cs T') := hz.kp hk (fun hm => by
  unfold ownB at hm
  cases hv : v.ownBlock with
  | none => rw [hv] at hm; cases hm
  | some g =>
    rw [hv, List.mem_singleton] at hm
    subst hm
    rcases ho.2 with ⟨rfl, _⟩ | ⟨g', cap, cur, rfl, _, hh, _⟩
    · cases hv
    · simp only [Value.ownBlock, Option.some.injEq] at hv
      subst hv
      have := Blk.uniq (o := .cells cs T') (o' := .cells cur T) hz hh
      simp only [Obj.cells.injEq] at this
      exact hT this.2.1)
end Go.Proofs.Ytnoipmimddoioaa
/-
  Strings of bytes.
-/
namespace Go.Proofs.Ytnoipmimddoioaa
set_option linter.unusedVariables false

/-- A string. -/
def sv (l : List UInt8) : Value := .string ⟨l.toArray⟩
section
variable {P : Program} {S : List Nat} {w0 : World} {F : World → Prop} {L : Env} {d : Option Nat} {ty : TypeId} {pos : String} {af : Array Edge} {g : Option (Nat × Bool)}
theorem vals_bs {T T' E : TypeId} [u : Ut P T (.slice E)] [e : Ut P E (.int .u8)] [t : Ut P T' .string] {x : Operand} {a : Option Addr} {c : Nat} {l : List UInt8} (hx : rho L x = .slice a l.length c) (hS : Sl (fun u : UInt8 => [bv u]) 1 w0 a l) (hb : ∀ b off, a = some ⟨b, off, none⟩ → b ∉ S) :
    Vals P S w0 F L ⟨d, .convert T T' x, ty, pos, af, g⟩ (sv l) := fun w hk _ => by
  have hS' := hS.kp hk (fun b off e hm => hb b off e hm)
  have hrun : (convert T T' (.slice a l.length c)).run P w = .ok (sv l) w := by
    cases a with
    | none =>
      have hl : l = [] := by
        cases l with
        | nil => rfl
        | cons y l =>
          obtain ⟨b, off, e, _⟩ := hS 0 y rfl
          cases e
      subst hl
      rw [run_convert_bytes_string w T T' E none _ c u.eq e.eq t.eq]
      rfl
    | some ad =>
      refine run_convert_bytes_back w T T' E ad c l u.eq e.eq t.eq (fun j hj => ?_)
      obtain ⟨b, off, e1, hr⟩ := hS' j l[j] (List.getElem?_eq_getElem hj)
      cases e1
      have := hr.cell (i := 0) (v := bv l[j]) rfl
      rw [add_none]
      simpa [Nat.mul_one] using this
  simp only [execOp, hx, Sem.run_bind, hrun, Result.andThen, Sem.run_pure]
theorem vals_eqs {T T' : TypeId} {x y : Operand} {a b : List UInt8} (hx : rho L x = sv a) (hy : rho L y = sv b) : Vals P S w0 F L ⟨d, .binOp .eql T x y T', ty, pos, af, g⟩ (.bool (decide (a = b))) := fun w _ _ => by
  simp only [sv] at hx hy
  simp [execOp, hx, hy, eqGuard, binOp_string_eql]
  by_cases h : a = b <;> simp [h]
theorem vals_nes {T T' : TypeId} {x y : Operand} {a b : List UInt8} (hx : rho L x = sv a) (hy : rho L y = sv b) : Vals P S w0 F L ⟨d, .binOp .neq T x y T', ty, pos, af, g⟩ (.bool (decide (a ≠ b))) := fun w _ _ => by
  simp only [sv] at hx hy
  simp [execOp, hx, hy, eqGuard, binOp_string_neq]
  by_cases h : a = b <;> simp [h]
theorem qbs {T T' E : TypeId} [u : Ut P T (.slice E)] [e : Ut P E (.int .u8)] [t : Ut P T' .string] {x : Operand} {a : Option Addr} {c n : Nat} {l : List UInt8} (hx : ro L x = some (.slice a n c)) (hS : Sl (fun u : UInt8 => [bv u]) 1 w0 a l) (hn : n = l.length) (hb : ∀ b off, a = some ⟨b, off, none⟩ → b ∉ S) :
    Vals P S w0 F L ⟨d, .convert T T' x, ty, pos, af, g⟩ (sv l) := by
  subst hn
  exact vals_bs (u := u) (e := e) (t := t) (rho_of hx) hS hb
theorem qes {T T' : TypeId} {x y : Operand} {a b : List UInt8} {c : Bool} (hx : ro L x = some (sv a)) (hy : ro L y = some (sv b)) (h : Dc (a = b) c) : Vals P S w0 F L ⟨d, .binOp .eql T x y T', ty, pos, af, g⟩ (.bool c) := h.eq ▸ vals_eqs (rho_of hx) (rho_of hy)
end
end Go.Proofs.Ytnoipmimddoioaa
/-
  Rows that are owned, and what is appended: any slice (also a nil one, or none of its elements), a text, one element; a row made with room.
-/
namespace Go.Proofs.Ytnoipmimddoioaa
set_option linter.unusedVariables false
section
variable {P : Program} {n : Nat} {Q : Exit → Act → World → Prop} {L : Env} {w : World} {ops : List Oper} {rest : List Oper} {ty : TypeId} {pos : String} {af : Array Edge} {g : Option (Nat × Bool)}
/-- Nothing is appended. -/
theorem run_app0 {base sz : Nat} {t ty e : TypeId} {i : TypeInfo} [u : Ut P t (.slice e)] [f : Inf P e i] {v : Value} {nn : Nat} {xs : List Value} (hown : w.ownsRow base e sz v nn xs) (a2 : Option Addr) (c2 : Nat) : (Builtin.append_ #[t, t] ty #[v, .slice a2 0 c2]).run P w = .ok v w := by
  rcases hown.2 with ⟨rfl, rfl⟩ | ⟨g, cap, cur, rfl, hbg, hg, hnc, hcm, hcs, htake⟩
  · cases a2 <;> simp [Builtin.append_, run_underlying u.eq, sizeOf, typeInfo, f.eq, Builtin.lenOf, Builtin.firstCells, loadCells, loadCellsFrom]
  · cases a2 <;> simp [Builtin.append_, run_underlying u.eq, sizeOf, typeInfo, f.eq, Builtin.lenOf, Builtin.firstCells, loadCells, loadCellsFrom, hnc, storeCells]
/-- Any slice is appended to an owned row. -/
theorem SG.appO {α : Type} {enc : α → List Value} {base : Nat} {t e : TypeId} {i : TypeInfo} [u : Ut P t (.slice e)] [f : Inf P e i] {z : Value} {d : Nat} {s x : Operand} {v : Value} {xs ys : List α} {a2 : Option Addr} {m c2 : Nat}
    (hd : Nat.blt d n = true) (hw : want ops L ⟨some d, .call { callee := .builtin .append, args := #[s, x], argTypes := #[t, t] }, ty, pos, af, g⟩ = some true) (hk : (known L s && known L x) = true)
    (hs : rho L s = v) (hx : rho L x = .slice a2 m c2) (hm : m = ys.length) (hz : i.zero = some z) (hzs : Nat.beq z.cells.size i.size = true) (hsz : Nat.blt 0 i.size = true) (hel : ∀ x, (enc x).length = i.size) (hone : ∀ x, allOne (enc x) = true) (hown : w.ownsRow base e i.size v xs.length (flt enc xs)) (hS : Sl enc i.size w a2 ys)
    (h63 : xs.length + ys.length ≤ maxLen) (hbytes : (xs.length + ys.length) * i.bytes ≤ 140737488355328) (hbase : base ≤ w.heap.size)
    (h : ∀ v' w', Kp (ownB v) w w' → w'.ownsRow base e i.size v' (xs ++ ys).length (flt enc (xs ++ ys)) → (∀ g, v'.ownBlock = some g → v.ownBlock = some g ∨ g = w.heap.size) → SG P n ops Q rest ((d, v') :: L) w') : SG P n ops Q (⟨some d, .call { callee := .builtin .append, args := #[s, x], argTypes := #[t, t] }, ty, pos, af, g⟩ :: rest) L w := by
  subst hm
  cases ys with
  | nil =>
    refine SG.op (by simpa using hd) rfl hw (by simpa [Op.operands, Call.operands] using hk) ?_
    unfold OpRun
    have : (execOp (rho L) ⟨some d, .call { callee := .builtin .append, args := #[s, x], argTypes := #[t, t] }, ty, pos, af, g⟩).run P w = .ok (.value v) w := by
      simp only [execOp, resolve, invoke, builtin, Sem.run_bind, Sem.run_pure, Result.andThen_ok, List.map_toArray, List.map_cons, List.map_nil, hs, hx]
      have := run_app0 (P := P) (ty := ty) (u := u) (f := f) hown a2 c2
      simp only [List.length_nil]
      rw [this]
      rfl
    rw [this]
    exact h v w (Kp.refl _ _) (by rw [List.append_nil]; exact hown) (fun g hg => Or.inl hg)
  | cons y ys =>
    obtain ⟨b, off, rfl, _⟩ := hS.at (i := 0) (by simp)
    have hr := Sl.flat hel (by simp) hS
    refine SG.appendW hd hw hk hs hx hz hzs hsz hown hr (by rw [flt_length hel]) (flt_all hone _) h63 hbytes hbase (fun v' w' h1 h2 h3 => h v' w' h1 ?_ h3)
    rw [flt_append, List.length_append]
    exact h2
/-- A text is appended to an owned row of bytes. -/
theorem run_appT {base : Nat} {t t2 ty e : TypeId} {i : TypeInfo} [u : Ut P t (.slice e)] [u2 : Ut P t2 .string] [f : Inf P e i] (hz : i.zero = some (.int .u8 0)) (hsize : i.size = 1) (hby : i.bytes = 1) {v : Value} {nn : Nat} {xs : List Value} (hown : w.ownsRow base e 1 v nn xs) (l : List UInt8) (h63 : nn + l.length ≤ 140737488355328) (hbase : base ≤ w.heap.size) :
    ∃ v' w', (Builtin.append_ #[t, t2] ty #[v, sv l]).run P w = .ok v' w' ∧ w'.ownsRow base e 1 v' (nn + l.length) (xs ++ l.map bv) ∧ Kp (ownB v) w w' := by
  have hsz : (⟨l.toArray⟩ : ByteArray).size = l.length := rfl
  have hcells : Go.Lib.strCells ⟨l.toArray⟩ = l.map bv := by simp [Go.Lib.strCells]
  obtain ⟨v', w', hrun, hown', _, _⟩ := Go.Lib.run_append_own_string (P := P) w base t t2 ty e i u.eq u2.eq f.eq hz hsize hby v nn xs hown ⟨l.toArray⟩ (by rw [hsz]; simp only [maxLen]; omega) (by rw [hsz]; exact h63) hbase
  rw [hsz, hcells] at hown'
  refine ⟨v', w', hrun, hown', ?_⟩
  have hxl : xs.length = nn := by simpa using hown.1
  rcases hown.2 with ⟨rfl, rfl⟩ | ⟨g, cap, cur, rfl, hbg, hg, hnc, hcm, hcs, htake⟩
  · by_cases hm : l.length = 0
    · have hn : l = [] := List.eq_nil_of_length_eq_zero hm
      subst hn
      have : (Builtin.append_ #[t, t2] ty #[.slice none 0 0, sv []]).run P w = .ok (.slice none 0 0) w := by
        rw [show sv [] = .string ByteArray.empty from rfl]
        simp [Builtin.append_, run_underlying u.eq, run_underlying u2.eq, sizeOf, typeInfo, f.eq, Builtin.lenOf, Builtin.firstCells]
      unfold sv at this
      rw [this] at hrun
      cases hrun
      exact Kp.refl _ _
    · have hr2 := run_append_nil_string (P := P) w t t2 ty e i (.int .u8 0) u.eq u2.eq f.eq hz ⟨l.toArray⟩ (by rw [hsz]; omega) (by rw [hsz]; omega) (by rw [hby, hsz]; omega)
      rw [hr2] at hrun
      cases hrun
      exact Kp.alloc_drew w _ rfl
  · by_cases hroom : nn + l.length ≤ cap
    · have hcs' : cur.size = cap := by simpa using hcs
      have hr2 := Go.Lib.run_append_room_string (P := P) w t t2 ty e i u.eq u2.eq f.eq hsize g nn cap cur hg ⟨l.toArray⟩ (by rw [hsz]; exact hroom) (by rw [hsz]; omega)
      rw [hr2] at hrun
      cases hrun
      have hgl : g < w.heap.size := (Array.getElem?_eq_some_iff.1 hg).1
      have hset : ∀ (x : Array Value), w.setRow g x = { w with heap := w.heap.setIfInBounds g (.cells x e) } := by
        intro x
        unfold World.setRow
        congr 1
        apply Array.ext_getElem?
        intro j
        rw [Array.getElem?_modify]
        by_cases e1 : g = j
        · subst e1
          rw [if_pos rfl, hg, Array.getElem?_setIfInBounds_self_of_lt hgl]
          simp
        · rw [if_neg e1, Array.getElem?_setIfInBounds_ne e1]
      rw [hset]
      exact Kp.set w (b := g) hg rfl rfl
    · have holds : ∀ j u, xs[j]? = some u → w.cell? ((⟨g, 0, none⟩ : Addr).add j) = some u := hown.cells (g := g) rfl
      have hr2 := Go.Lib.run_append_grow_string (P := P) w t t2 ty e i (.int .u8 0) u.eq u2.eq f.eq hz ⟨g, 0, none⟩ nn cap xs (by rw [hsize]; simpa using hxl) holds ⟨l.toArray⟩ (by rw [hsz]; omega) (by rw [hsz]; omega) (by rw [hby, hsz]; exact growslice_fits (by omega) (by omega))
      rw [hr2] at hrun
      cases hrun
      exact (Kp.alloc_drew w _ rfl).any
theorem SG.appT {base : Nat} {t t2 e : TypeId} {i : TypeInfo} [u : Ut P t (.slice e)] [u2 : Ut P t2 .string] [f : Inf P e i] {d : Nat} {s x : Operand} {v : Value} {nn : Nat} {xs : List Value} {l : List UInt8}
    (hd : Nat.blt d n = true) (hw : want ops L ⟨some d, .call { callee := .builtin .append, args := #[s, x], argTypes := #[t, t2] }, ty, pos, af, g⟩ = some true) (hk : (known L s && known L x) = true)
    (hs : rho L s = v) (hx : rho L x = sv l) (hz : i.zero = some (.int .u8 0)) (hsize : i.size = 1) (hby : i.bytes = 1) (hown : w.ownsRow base e 1 v nn xs) (h63 : nn + l.length ≤ 140737488355328) (hbase : base ≤ w.heap.size)
    (h : ∀ v' w', Kp (ownB v) w w' → w'.ownsRow base e 1 v' (nn + l.length) (xs ++ l.map bv) → SG P n ops Q rest ((d, v') :: L) w') : SG P n ops Q (⟨some d, .call { callee := .builtin .append, args := #[s, x], argTypes := #[t, t2] }, ty, pos, af, g⟩ :: rest) L w := by
  refine SG.op (by simpa using hd) rfl hw (by simpa [Op.operands, Call.operands] using hk) ?_
  unfold OpRun
  obtain ⟨v', w', h2, h3, h4⟩ := run_appT (P := P) (ty := ty) (u := u) (u2 := u2) (f := f) hz hsize hby hown l h63 hbase
  have : (execOp (rho L) ⟨some d, .call { callee := .builtin .append, args := #[s, x], argTypes := #[t, t2] }, ty, pos, af, g⟩).run P w = .ok (.value v') w' := by
    simp only [execOp, resolve, invoke, builtin, Sem.run_bind, Sem.run_pure, Result.andThen_ok, List.map_toArray, List.map_cons, List.map_nil, hs, hx, h2]
  rw [this]
  exact h v' w' h4 h3
/-- 'make([]T, 0, c)'. -/
theorem SG.makeRow {d c : Nat} {t e : TypeId} {i : TypeInfo} [u : Ut P t (.slice e)] [f : Inf P e i] {z : Value} {x y : Operand} {zc : Int} (hd : Nat.blt d n = true)
    (hw : want ops L ⟨some d, .makeSlice t x y, ty, pos, af, g⟩ = some true) (hk : (known L x && known L y) = true) (hx : rho L x = .int .i64 0) (hy : rho L y = .int .i64 zc) (hc : zc = (c : Int)) (hz : i.zero = some z) (hbytes : i.bytes * c ≤ 281474976710656) (h63 : c ≤ maxLen)
    (h : ∀ b w', Kp [] w w' → w.heap.size ≤ b → w'.ownsRow w.heap.size e i.size (.slice (some ⟨b, 0, none⟩) 0 c) 0 [] → SG P n ops Q rest ((d, .slice (some ⟨b, 0, none⟩) 0 c) :: L) w') : SG P n ops Q (⟨some d, .makeSlice t x y, ty, pos, af, g⟩ :: rest) L w := by
  subst hc
  refine SG.op (by simpa using hd) rfl hw (by simpa [Op.operands] using hk) ?_
  unfold OpRun
  have h63' : (c : Int) ≤ 9223372036854775807 := by have h := h63; simp [maxLen] at h; omega
  have hb' : (i.bytes : Int) * (c : Int) ≤ 281474976710656 := by
    have h : ((i.bytes * c : Nat) : Int) ≤ 281474976710656 := by omega
    rwa [Int.natCast_mul] at h
  have hr := run_make (P := P) w t e i z u.eq f.eq hz .i64 .i64 0 c (Int.le_refl _) (by omega) hb' h63'
  simp only [Int.toNat_zero, Int.toNat_natCast] at hr
  have : (execOp (rho L) ⟨some d, .makeSlice t x y, ty, pos, af, g⟩).run P w = .ok (.value (.slice (some ⟨w.heap.size, 0, none⟩) 0 c)) (w.alloc (.cells (madeCells z.cells (c * i.size)) e)) := by
    simp only [execOp, hx, hy, Sem.run_bind, hr, Result.andThen, Sem.run_pure]
  rw [this]
  exact h _ _ (Kp.push w _ rfl) (Nat.le_refl _) (World.ownsRow_made w _ c (Nat.le_refl _) h63 (size_madeCells _ _))
end
end Go.Proofs.Ytnoipmimddoioaa
/-
  More of strings: their lengths, and their bytes.
-/
namespace Go.Proofs.Ytnoipmimddoioaa
set_option linter.unusedVariables false

theorem Kp.alloc_any (w : World) (o : Obj) : Kp [] w (w.drew.alloc o) := by
  refine ⟨by show w.heap.size ≤ (w.heap.push o).size; simp, fun b hb _ => ?_, rfl, rfl, rfl, fun a ha => ?_, Nat.le_succ _⟩
  · show (w.heap.push o)[b]? = _
    rw [Array.getElem?_push, if_neg (by omega)]
  · refine frozen_same ?_
    show (w.heap.push o)[a.block]? = _
    rw [Array.getElem?_push, if_neg (by omega)]
theorem run_strB {P : Program} {T T' E : TypeId} [u : Ut P T .string] [u' : Ut P T' (.slice E)] [e : Ut P E (.int .u8)] (w : World) (l : List UInt8) :
    ∃ c o, (convert T T' (sv l)).run P w = .ok (.slice (some ⟨w.heap.size, 0, none⟩) l.length c) (w.drew.alloc o) ∧ Sl (fun u : UInt8 => [bv u]) 1 (w.drew.alloc o) (some ⟨w.heap.size, 0, none⟩) l := by
  have h := run_bytes_of_string (P := P) w T T' E ⟨l.toArray⟩ u.eq u'.eq e.eq
  generalize hc : grownCap w (ByteArray.mk l.toArray).size 0 E = c at h
  refine ⟨c, _, h, fun i x hx => ⟨w.heap.size, 0, rfl, bytesRow ⟨l.toArray⟩ c, E, ((bytesRow ⟨l.toArray⟩ c).size, (bytesRow ⟨l.toArray⟩ c).size + 1), ?_, ?_⟩⟩
  · show (w.heap.push _)[w.heap.size]? = _
    rw [Array.getElem?_push, if_pos rfl]
  · intro j v hv
    have hj : j = 0 := by have := (List.getElem?_eq_some_iff.1 hv).1; simp at this; omega
    subst hj
    simp only [List.getElem?_cons_zero, Option.some.injEq] at hv
    subst hv
    have hi : i < l.length := (List.getElem?_eq_some_iff.1 hx).1
    rw [List.getElem?_eq_getElem hi, Option.some.injEq] at hx
    subst hx
    simp only [bytesRow, Nat.mul_one, Nat.zero_add, Nat.add_zero]
    rw [Array.getElem?_append_left (by simpa using hi)]
    simp [hi]
section
variable {P : Program} {n : Nat} {ops : List Oper} {Q : Exit → Act → World → Prop} {w : World} {L : Env} {ty : TypeId} {pos : String} {af : Array Edge} {g : Option (Nat × Bool)} {rest : List Oper}
/-- '[]byte(s)' in text order. -/
theorem SG.strB {T T' E : TypeId} [u : Ut P T .string] [u' : Ut P T' (.slice E)] [e : Ut P E (.int .u8)] {d : Nat} {x : Operand} {l : List UInt8} (hd : Nat.blt d n = true) (hw : want ops L ⟨some d, .convert T T' x, ty, pos, af, g⟩ = some true) (hk : known L x = true) (hx : ro L x = some (sv l))
    (h : ∀ b c w', Kp [] w w' → w.heap.size ≤ b → Sl (fun u : UInt8 => [bv u]) 1 w' (some ⟨b, 0, none⟩) l → SG P n ops Q rest ((d, .slice (some ⟨b, 0, none⟩) l.length c) :: L) w') : SG P n ops Q (⟨some d, .convert T T' x, ty, pos, af, g⟩ :: rest) L w := by
  refine SG.op (by simpa using hd) rfl hw (by simpa [Op.operands] using hk) ?_
  unfold OpRun
  obtain ⟨c, o, h1, h2⟩ := run_strB (P := P) (T := T) (T' := T') (u := u) (u' := u') (e := e) w l
  have : (execOp (rho L) ⟨some d, .convert T T' x, ty, pos, af, g⟩).run P w = .ok (.value (.slice (some ⟨w.heap.size, 0, none⟩) l.length c)) (w.drew.alloc o) := by
    simp only [execOp, rho_of hx, Sem.run_bind, h1, Result.andThen, Sem.run_pure]
  rw [this]
  exact h _ _ _ (Kp.alloc_any w o) (Nat.le_refl _) h2
end
section
variable {P : Program} {S : List Nat} {w0 : World} {F : World → Prop} {L : Env} {d : Option Nat} {ty : TypeId} {pos : String} {af : Array Edge} {g : Option (Nat × Bool)}
theorem vals_lens {T : TypeId} [u : Ut P T .string] {x : Operand} {l : List UInt8} (hx : ro L x = some (sv l)) : Vals P S w0 F L ⟨d, .call { callee := .builtin .len, args := #[x], argTypes := #[T] }, ty, pos, af, g⟩ (.int .i64 l.length) := fun w _ _ => by
  have hx' : rho L x = .string ⟨l.toArray⟩ := rho_of hx
  have hs : (ByteArray.mk l.toArray).size = l.length := by
    show l.toArray.size = _
    simp
  generalize ByteArray.mk l.toArray = s at hx' hs
  simp [execOp, hx', resolve, invoke, builtin, Builtin.len_, run_underlying u.eq, goInt, hs]
end
end Go.Proofs.Ytnoipmimddoioaa
/-
  Bytes that numbers and texts are put behind.
-/
namespace Go.Proofs.Ytnoipmimddoioaa
open Go.Proofs
set_option linter.unusedVariables false

theorem by1_len (x : UInt8) : (by1 x).length = 1 := rfl
theorem by1_one (x : UInt8) : allOne (by1 x) = true := rfl
theorem bs1 (x : UInt8) (w : World) : (Instr.buildSlice 58 1 #[(0, bv x)]).run Try.prog w = .ok (.slice (some ⟨w.heap.size, 0, none⟩) 1 1) { w with heap := w.heap.push (.cells (by1 x).toArray 5) } := by kernel_rfl
theorem shr7 (n : Nat) : shrI (n : Int) 7 = ((n / 128 : Nat) : Int) := shrI_nat (i := 7) (by omega)
/-- A slice of bytes, as functions take it. -/
structure Bs (w : World) (a : Option Addr) (c : Nat) (l : List UInt8) : Prop where
  sl : Sl by1 1 w a l
  len : l.length ≤ c
  some : l = [] ∧ a = none ∨ ∃ b2 off, a = some ⟨b2, off, none⟩
  lt : ∀ b2 off, a = Option.some ⟨b2, off, none⟩ → b2 < w.heap.size
theorem Bs.own {w : World} {base : Nat} {v : Value} {l : List UInt8} (h : w.ownsRow base 5 1 v l.length (flt by1 l)) : ∃ a c, v = .slice a l.length c ∧ Bs w a c l := by
  obtain ⟨a, c, rfl, hc, hS⟩ := Sl.own by1_len h rfl
  refine ⟨a, c, rfl, hS, hc, ?_, ?_⟩
  · rcases h.2 with ⟨hv, h0⟩ | ⟨g, cap, cur, hv, _⟩
    · simp only [Value.slice.injEq] at hv
      exact Or.inl ⟨List.eq_nil_of_length_eq_zero h0, hv.1⟩
    · cases hv
      exact Or.inr ⟨_, _, rfl⟩
  · rcases h.2 with ⟨hv, h0⟩ | ⟨g, cap, cur, hv, _, hg, _⟩
    · simp only [Value.slice.injEq] at hv
      intro b2 off e
      rw [hv.1] at e
      cases e
    · cases hv
      intro b2 off e
      cases e
      exact (Array.getElem?_eq_some_iff.1 hg).1
theorem Bs.kp {S : List Nat} {w w' : World} {a : Option Addr} {c : Nat} {l : List UInt8} (h : Bs w a c l) (hk : Kp S w w') (hb : ∀ b off, a = Option.some ⟨b, off, none⟩ → b ∉ S) : Bs w' a c l :=
  ⟨h.sl.kp hk hb, h.len, h.some, fun b2 off e => Nat.lt_of_lt_of_le (h.lt b2 off e) hk.size⟩
theorem Bs.nil {w : World} : Bs w none 0 [] := ⟨Sl.nil, Nat.le_refl _, Or.inl ⟨rfl, rfl⟩, fun _ _ e => by cases e⟩

attribute [local irreducible] CG NG SG Vals Der Row Blk MapIs IterAt addI xorI orI andI shlI shrI or8
set_option maxHeartbeats 8000000 in
theorem fresh_spec {w : World} {a : Option Addr} {c : Nat} {l : List UInt8} (hS : Sl by1 1 w a l) (m : Nat) (hl : l.length + m ≤ 1000000000) : RetO Try.prog 5 by1 1 78 #[.slice a l.length c, .int .i64 (m : Int)] w l := by
  refine enter2 Try.func78 rfl Try.ntmps78 rfl ?_
  have e1 : (l.length : Int) + (m : Int) = ((l.length + m : Nat) : Int) := by omega
  repeat (first|apply CG.seq|apply CG.region|apply SG.nil|apply NG.next|apply CG.skip|apply CG.block|apply CG.ret|apply CG.exit|apply NG.exit_then|refine NG.exit_block rfl ?_|apply NG.normal_block|refine SG.val rfl rfl rfl rfl (by first|(apply q64b<;>(first|exact rfl|assumption|exact Ar.mk (by omega)|exact dct (by first|assumption|omega)|exact dcf (by first|assumption|omega)|fail))|(apply qi64<;>(first|exact rfl|assumption|exact Ar.mk (by omega)|exact dct (by first|assumption|omega)|exact dcf (by first|assumption|omega)|fail))|(apply vals_lens<;>(first|exact rfl|assumption|exact Ar.mk (by omega)|exact dct (by first|assumption|omega)|exact dcf (by first|assumption|omega)|fail))|((first|apply quo8|apply qusr|apply qmv|apply qas|apply qad|apply qln|apply qge)<;>(first|exact rfl|assumption|exact Ar.mk (by omega)|exact dct (by first|assumption|omega)|exact dcf (by first|assumption|omega)|fail))|fail) ?_)
  rw [e1]
  refine SG.makeRow (c := l.length + m) rfl rfl rfl (by exact rho_of rfl) (by exact rho_of rfl) rfl rfl (by show 1 * (l.length + m) ≤ _; omega) (by simp only [maxLen]; omega) (fun b9 w1 hk1 hb9 ho1 => ?_)
  repeat (first|apply CG.seq|apply CG.region|apply SG.nil|apply NG.next|apply CG.skip|apply CG.block|apply CG.ret|apply CG.exit|apply NG.exit_then|refine NG.exit_block rfl ?_|apply NG.normal_block|refine SG.val rfl rfl rfl rfl (by first|(apply q64b<;>(first|exact rfl|assumption|exact Ar.mk (by omega)|exact dct (by first|assumption|omega)|exact dcf (by first|assumption|omega)|fail))|(apply qi64<;>(first|exact rfl|assumption|exact Ar.mk (by omega)|exact dct (by first|assumption|omega)|exact dcf (by first|assumption|omega)|fail))|(apply vals_lens<;>(first|exact rfl|assumption|exact Ar.mk (by omega)|exact dct (by first|assumption|omega)|exact dcf (by first|assumption|omega)|fail))|((first|apply quo8|apply qusr|apply qmv|apply qas|apply qad|apply qln|apply qge)<;>(first|exact rfl|assumption|exact Ar.mk (by omega)|exact dct (by first|assumption|omega)|exact dcf (by first|assumption|omega)|fail))|fail) ?_)
  refine SG.appO (enc := by1) (xs := []) (ys := l) (base := w.heap.size) rfl rfl rfl (by exact rho_of rfl) (by exact rho_of rfl) rfl rfl rfl rfl by1_len by1_one ho1 (hS.kp0 hk1) (by simp only [maxLen, List.length_nil]; omega) (by show (0 + l.length) * 1 ≤ _; omega) hk1.size (fun v w2 hk2 ho2 _ => ?_)
  repeat (first|apply CG.seq|apply CG.region|apply SG.nil|apply NG.next|apply CG.skip|apply CG.block|apply CG.ret|apply CG.exit|apply NG.exit_then|refine NG.exit_block rfl ?_|apply NG.normal_block|refine SG.val rfl rfl rfl rfl (by first|(apply q64b<;>(first|exact rfl|assumption|exact Ar.mk (by omega)|exact dct (by first|assumption|omega)|exact dcf (by first|assumption|omega)|fail))|(apply qi64<;>(first|exact rfl|assumption|exact Ar.mk (by omega)|exact dct (by first|assumption|omega)|exact dcf (by first|assumption|omega)|fail))|(apply vals_lens<;>(first|exact rfl|assumption|exact Ar.mk (by omega)|exact dct (by first|assumption|omega)|exact dcf (by first|assumption|omega)|fail))|((first|apply quo8|apply qusr|apply qmv|apply qas|apply qad|apply qln|apply qge)<;>(first|exact rfl|assumption|exact Ar.mk (by omega)|exact dct (by first|assumption|omega)|exact dcf (by first|assumption|omega)|fail))|fail) ?_)
  refine ret1 (Or.inl rfl) Try.results78 (by first | exact ResV.tmp rfl | exact ResV.agg rfl rfl (by assumption) (by first | exact dc_length _ | exact nc_length _ | exact rc_length _ _ _ | exact ec_length _ | exact dl_length _ _ _ _ | rfl) | exact ResV.cell rfl rfl (by assumption)) ?_
  exact ⟨_, rfl, ho2, hk1.trans_new hk2 (own_new ho1 (Nat.le_refl _))⟩
set_option maxHeartbeats 8000000 in
theorem number_spec {w : World} {v : Value} {l : List UInt8} {base : Nat} (ho : w.ownsRow base 5 1 v l.length (flt by1 l)) (hbase : base ≤ w.heap.size) (n : Nat) (hn : n < 18446744073709551616) (hl : l.length ≤ 1000000000) : Calls Try.prog 77 #[v, .int .u64 (n : Int)] w (fun e w' => ∃ v', e = .returned v' ∧ w'.ownsRow base 5 1 v' (l ++ putU n).length (flt by1 (l ++ putU n)) ∧ Kp (ownB v) w w' ∧ (∀ g, v'.ownBlock = some g → v.ownBlock = some g ∨ w.heap.size ≤ g)) := by
  refine enter2 Try.func77 rfl Try.ntmps77 rfl ?_
  repeat (first|apply CG.seq|apply CG.region|apply SG.nil|apply NG.next|apply CG.skip|apply CG.block|apply CG.ret|apply CG.exit|apply NG.exit_then|refine NG.exit_block rfl ?_|apply NG.normal_block|refine SG.val rfl rfl rfl rfl (by first|(apply q64b<;>(first|exact rfl|assumption|exact Ar.mk (by omega)|exact dct (by first|assumption|omega)|exact dcf (by first|assumption|omega)|fail))|(apply qi64<;>(first|exact rfl|assumption|exact Ar.mk (by omega)|exact dct (by first|assumption|omega)|exact dcf (by first|assumption|omega)|fail))|(apply vals_lens<;>(first|exact rfl|assumption|exact Ar.mk (by omega)|exact dct (by first|assumption|omega)|exact dcf (by first|assumption|omega)|fail))|((first|apply quo8|apply qusr|apply qmv|apply qas|apply qad|apply qln|apply qge)<;>(first|exact rfl|assumption|exact Ar.mk (by omega)|exact dct (by first|assumption|omega)|exact dcf (by first|assumption|omega)|fail))|fail) ?_)
  refine CG.loop (X := Value × Nat × List UInt8 × Nat) (fun x => [(0, x.1), (1, .int .u64 (x.2.2.2 : Int))])
    (fun x w' => w'.ownsRow base 5 1 x.1 (l ++ x.2.2.1).length (flt by1 (l ++ x.2.2.1)) ∧ x.2.1 ≤ 10 ∧ x.2.2.1.length = 10 - x.2.1 ∧ x.2.2.2 < 128 ^ (x.2.1 + 1) ∧ x.2.2.1 ++ putN x.2.1 x.2.2.2 = putU n ∧ Kp (ownB v) w w' ∧ (∀ g, x.1.ownBlock = some g → v.ownBlock = some g ∨ w.heap.size ≤ g)) (fun x => x.2.1) (v, 10, [], n) ⟨by simpa using ho, Nat.le_refl _, rfl, Nat.lt_of_lt_of_le hn (show 18446744073709551616 ≤ 128 ^ 11 by decide), rfl, Kp.refl _ _, fun g hg => Or.inl hg⟩ (by (repeat' (first | exact True.intro | exact rfl | refine And.intro ?_ ?_))) ?_
  rintro ⟨v1, f, done, m⟩ w1 ⟨ho1, hf, hd, hm, hp, hk1, hw1⟩
  simp only at ho1 hf hd hm hp hw1
  refine CG.to [(0, v1), (1, .int .u64 (m : Int))] (by (repeat' (first | exact True.intro | exact rfl | refine And.intro ?_ ?_))) ?_
  have hbase1 : base ≤ w1.heap.size := Nat.le_trans hbase hk1.size
  have hs1 := hk1.size
  by_cases hlt : m < 128
  · have g1 : ¬ (128 : Int) ≤ (m : Int) := by omega
    have hput : putN f m = [UInt8.ofNat m] := by
      cases f with
      | zero => rfl
      | succ f => simp [putN, hlt]
    rw [hput] at hp
    repeat (first|apply CG.seq|apply CG.region|apply SG.nil|apply NG.next|apply CG.skip|apply CG.block|apply CG.ret|apply CG.exit|apply NG.exit_then|refine NG.exit_block rfl ?_|apply NG.normal_block|refine SG.val rfl rfl rfl rfl (by first|(apply q64b<;>(first|exact rfl|assumption|exact Ar.mk (by omega)|exact dct (by first|assumption|omega)|exact dcf (by first|assumption|omega)|fail))|(apply qi64<;>(first|exact rfl|assumption|exact Ar.mk (by omega)|exact dct (by first|assumption|omega)|exact dcf (by first|assumption|omega)|fail))|(apply vals_lens<;>(first|exact rfl|assumption|exact Ar.mk (by omega)|exact dct (by first|assumption|omega)|exact dcf (by first|assumption|omega)|fail))|((first|apply quo8|apply qusr|apply qmv|apply qas|apply qad|apply qln|apply qge)<;>(first|exact rfl|assumption|exact Ar.mk (by omega)|exact dct (by first|assumption|omega)|exact dcf (by first|assumption|omega)|fail))|fail) ?_)
    refine CG.cond_f rfl (by exact rho_of rfl) rfl ?_
    repeat (first|apply CG.seq|apply CG.region|apply SG.nil|apply NG.next|apply CG.skip|apply CG.block|apply CG.ret|apply CG.exit|apply NG.exit_then|refine NG.exit_block rfl ?_|apply NG.normal_block|refine SG.val rfl rfl rfl rfl (by first|(apply q64b<;>(first|exact rfl|assumption|exact Ar.mk (by omega)|exact dct (by first|assumption|omega)|exact dcf (by first|assumption|omega)|fail))|(apply qi64<;>(first|exact rfl|assumption|exact Ar.mk (by omega)|exact dct (by first|assumption|omega)|exact dcf (by first|assumption|omega)|fail))|(apply vals_lens<;>(first|exact rfl|assumption|exact Ar.mk (by omega)|exact dct (by first|assumption|omega)|exact dcf (by first|assumption|omega)|fail))|((first|apply quo8|apply qusr|apply qmv|apply qas|apply qad|apply qln|apply qge)<;>(first|exact rfl|assumption|exact Ar.mk (by omega)|exact dct (by first|assumption|omega)|exact dcf (by first|assumption|omega)|fail))|fail) ?_)
    rw [toB_nat]
    refine SG.buildSlice rfl rfl rfl rfl (bs1 (UInt8.ofNat m)) (fun b2 w2 hk2 hb2 hB2 => ?_)
    have hS2 : Sl by1 1 w2 (some ⟨b2, 0, none⟩) [UInt8.ofNat m] := Sl.of_blk (pre := []) (post := []) by1_len (l := [UInt8.ofNat m]) (T := 5) hB2
    refine SG.appO (enc := by1) (xs := l ++ done) (ys := [UInt8.ofNat m]) (base := base) rfl rfl rfl (by exact rho_of rfl) (by exact rho_of rfl) rfl rfl rfl rfl by1_len by1_one (own_kp0 ho1 hk2) hS2 (by simp only [maxLen, List.length_append, List.length_cons, List.length_nil]; omega) (by show ((l ++ done).length + 1) * 1 ≤ _; simp only [List.length_append]; omega) (Nat.le_trans hbase1 hk2.size) (fun v3 w3 hk3 ho3 hw3 => ?_)
    rw [List.append_assoc, hp] at ho3
    repeat (first|apply CG.seq|apply CG.region|apply SG.nil|apply NG.next|apply CG.skip|apply CG.block|apply CG.ret|apply CG.exit|apply NG.exit_then|refine NG.exit_block rfl ?_|apply NG.normal_block|refine SG.val rfl rfl rfl rfl (by first|(apply q64b<;>(first|exact rfl|assumption|exact Ar.mk (by omega)|exact dct (by first|assumption|omega)|exact dcf (by first|assumption|omega)|fail))|(apply qi64<;>(first|exact rfl|assumption|exact Ar.mk (by omega)|exact dct (by first|assumption|omega)|exact dcf (by first|assumption|omega)|fail))|(apply vals_lens<;>(first|exact rfl|assumption|exact Ar.mk (by omega)|exact dct (by first|assumption|omega)|exact dcf (by first|assumption|omega)|fail))|((first|apply quo8|apply qusr|apply qmv|apply qas|apply qad|apply qln|apply qge)<;>(first|exact rfl|assumption|exact Ar.mk (by omega)|exact dct (by first|assumption|omega)|exact dcf (by first|assumption|omega)|fail))|fail) ?_)
    refine ret1 (Or.inl rfl) Try.results77 (by first | exact ResV.tmp rfl | exact ResV.agg rfl rfl (by assumption) (by first | exact dc_length _ | exact nc_length _ | exact rc_length _ _ _ | exact ec_length _ | exact dl_length _ _ _ _ | rfl) | exact ResV.cell rfl rfl (by assumption)) ?_
    refine ⟨_, rfl, ho3, (hk1.trans hk2.any).trans_new hk3 (fun z hz => ?_), fun g hg => ?_⟩
    · have hz' : v1.ownBlock = some z := by
        unfold ownB at hz
        split at hz
        · rename_i b hb
          rw [List.mem_singleton] at hz
          rw [hb, hz]
        · cases hz
      rcases hw1 z hz' with h | h
      · left
        unfold ownB
        rw [h]
        simp
      · exact Or.inr h
    · have s2 := hk2.size
      rcases hw3 g hg with h | h
      · exact hw1 g h
      · exact Or.inr (by omega)
  · have g1 : (128 : Int) ≤ (m : Int) := by omega
    cases f with
    | zero => simp at hm; omega
    | succ f =>
      have hput : putN (f + 1) m = UInt8.ofNat (128 + m % 128) :: putN f (m / 128) := by simp [putN, hlt]
      rw [hput] at hp
      have e8 := or8_nat (n := m)
      repeat (first|apply CG.seq|apply CG.region|apply SG.nil|apply NG.next|apply CG.skip|apply CG.block|apply CG.ret|apply CG.exit|apply NG.exit_then|refine NG.exit_block rfl ?_|apply NG.normal_block|refine SG.val rfl rfl rfl rfl (by first|(apply q64b<;>(first|exact rfl|assumption|exact Ar.mk (by omega)|exact dct (by first|assumption|omega)|exact dcf (by first|assumption|omega)|fail))|(apply qi64<;>(first|exact rfl|assumption|exact Ar.mk (by omega)|exact dct (by first|assumption|omega)|exact dcf (by first|assumption|omega)|fail))|(apply vals_lens<;>(first|exact rfl|assumption|exact Ar.mk (by omega)|exact dct (by first|assumption|omega)|exact dcf (by first|assumption|omega)|fail))|((first|apply quo8|apply qusr|apply qmv|apply qas|apply qad|apply qln|apply qge)<;>(first|exact rfl|assumption|exact Ar.mk (by omega)|exact dct (by first|assumption|omega)|exact dcf (by first|assumption|omega)|fail))|fail) ?_)
      refine CG.cond_t rfl (by exact rho_of rfl) rfl ?_
      repeat (first|apply CG.seq|apply CG.region|apply SG.nil|apply NG.next|apply CG.skip|apply CG.block|apply CG.ret|apply CG.exit|apply NG.exit_then|refine NG.exit_block rfl ?_|apply NG.normal_block|refine SG.val rfl rfl rfl rfl (by first|(apply q64b<;>(first|exact rfl|assumption|exact Ar.mk (by omega)|exact dct (by first|assumption|omega)|exact dcf (by first|assumption|omega)|fail))|(apply qi64<;>(first|exact rfl|assumption|exact Ar.mk (by omega)|exact dct (by first|assumption|omega)|exact dcf (by first|assumption|omega)|fail))|(apply vals_lens<;>(first|exact rfl|assumption|exact Ar.mk (by omega)|exact dct (by first|assumption|omega)|exact dcf (by first|assumption|omega)|fail))|((first|apply quo8|apply qusr|apply qmv|apply qas|apply qad|apply qln|apply qge)<;>(first|exact rfl|assumption|exact Ar.mk (by omega)|exact dct (by first|assumption|omega)|exact dcf (by first|assumption|omega)|fail))|fail) ?_)
      rw [e8]
      refine SG.buildSlice rfl rfl rfl rfl (bs1 (UInt8.ofNat (128 + m % 128))) (fun b2 w2 hk2 hb2 hB2 => ?_)
      have hS2 : Sl by1 1 w2 (some ⟨b2, 0, none⟩) [UInt8.ofNat (128 + m % 128)] := Sl.of_blk (pre := []) (post := []) by1_len (l := [UInt8.ofNat (128 + m % 128)]) (T := 5) hB2
      refine SG.appO (enc := by1) (xs := l ++ done) (ys := [UInt8.ofNat (128 + m % 128)]) (base := base) rfl rfl rfl (by exact rho_of rfl) (by exact rho_of rfl) rfl rfl rfl rfl by1_len by1_one (own_kp0 ho1 hk2) hS2 (by simp only [maxLen, List.length_append, List.length_cons, List.length_nil]; omega) (by show ((l ++ done).length + 1) * 1 ≤ _; simp only [List.length_append]; omega) (Nat.le_trans hbase1 hk2.size) (fun v3 w3 hk3 ho3 hw3 => ?_)
      repeat (first|apply CG.seq|apply CG.region|apply SG.nil|apply NG.next|apply CG.skip|apply CG.block|apply CG.ret|apply CG.exit|apply NG.exit_then|refine NG.exit_block rfl ?_|apply NG.normal_block|refine SG.val rfl rfl rfl rfl (by first|(apply q64b<;>(first|exact rfl|assumption|exact Ar.mk (by omega)|exact dct (by first|assumption|omega)|exact dcf (by first|assumption|omega)|fail))|(apply qi64<;>(first|exact rfl|assumption|exact Ar.mk (by omega)|exact dct (by first|assumption|omega)|exact dcf (by first|assumption|omega)|fail))|(apply vals_lens<;>(first|exact rfl|assumption|exact Ar.mk (by omega)|exact dct (by first|assumption|omega)|exact dcf (by first|assumption|omega)|fail))|((first|apply quo8|apply qusr|apply qmv|apply qas|apply qad|apply qln|apply qge)<;>(first|exact rfl|assumption|exact Ar.mk (by omega)|exact dct (by first|assumption|omega)|exact dcf (by first|assumption|omega)|fail))|fail) ?_)
      rw [shr7]
      refine NG.round (v3, f, done ++ [UInt8.ofNat (128 + m % 128)], m / 128) (by (repeat' (first | exact True.intro | exact rfl | refine And.intro ?_ ?_))) ⟨by simp only; rw [← List.append_assoc]; exact ho3, by simp only; omega, by simp; omega, ?_, by simp only [List.append_assoc, List.singleton_append]; exact hp, (hk1.trans hk2.any).trans_new hk3 (fun z hz => ?_), fun g hg => ?_⟩ (by simp only; omega)
      · simp only
        rw [Nat.pow_succ] at hm
        exact Nat.div_lt_of_lt_mul (by rw [Nat.mul_comm]; exact hm)
      · have hz' : v1.ownBlock = some z := by
          unfold ownB at hz
          split at hz
          · rename_i b hb
            rw [List.mem_singleton] at hz
            rw [hb, hz]
          · cases hz
        rcases hw1 z hz' with h | h
        · left
          unfold ownB
          rw [h]
          simp
        · exact Or.inr h
      · have s2 := hk2.size
        rcases hw3 g hg with h | h
        · exact hw1 g h
        · exact Or.inr (by omega)
theorem own_app {v v' : Value} {n : Nat} (h : ∀ g, v'.ownBlock = some g → v.ownBlock = some g ∨ n ≤ g) (h0 : ∀ g, v.ownBlock = some g → n ≤ g) : ∀ z ∈ ownB v', z ∈ ([] : List Nat) ∨ n ≤ z := by
  intro z hz
  have hz' : v'.ownBlock = some z := by
    unfold ownB at hz
    split at hz
    · rename_i b hb
      rw [List.mem_singleton] at hz
      rw [hb, hz]
    · cases hz
  rcases h z hz' with h | h
  · exact Or.inr (h0 z h)
  · exact Or.inr h
set_option maxHeartbeats 8000000 in
theorem putnum_spec {w : World} {a : Option Addr} {c : Nat} {l : List UInt8} (hS : Bs w a c l) (n : Nat) (hn : n < 18446744073709551616) (hl : l.length ≤ 100000000) : RetO Try.prog 5 by1 1 48 #[.slice a l.length c, .int .u64 (n : Int)] w (l ++ putU n) := by
  refine enter2 Try.func48 rfl Try.ntmps48 rfl ?_
  repeat (first|apply CG.seq|apply CG.region|apply SG.nil|apply NG.next|apply CG.skip|apply CG.block|apply CG.ret|apply CG.exit|apply NG.exit_then|refine NG.exit_block rfl ?_|apply NG.normal_block|refine SG.val rfl rfl rfl rfl (by first|(apply q64b<;>(first|exact rfl|assumption|exact Ar.mk (by omega)|exact dct (by first|assumption|omega)|exact dcf (by first|assumption|omega)|fail))|(apply qi64<;>(first|exact rfl|assumption|exact Ar.mk (by omega)|exact dct (by first|assumption|omega)|exact dcf (by first|assumption|omega)|fail))|(apply vals_lens<;>(first|exact rfl|assumption|exact Ar.mk (by omega)|exact dct (by first|assumption|omega)|exact dcf (by first|assumption|omega)|fail))|((first|apply quo8|apply qusr|apply qmv|apply qas|apply qad|apply qln|apply qge)<;>(first|exact rfl|assumption|exact Ar.mk (by omega)|exact dct (by first|assumption|omega)|exact dcf (by first|assumption|omega)|fail))|fail) ?_)
  refine SG.call rfl rfl rfl (by repeat' (first | exact True.intro | exact rho_of rfl | refine And.intro ?_ ?_)) ((fresh_spec (c := c) hS.sl 10 (by omega)).mono (fun e w1 hh => ?_))
  obtain ⟨v1, he, ho1, hk1⟩ := hh
  refine ⟨_, he, ?_⟩
  repeat (first|apply CG.seq|apply CG.region|apply SG.nil|apply NG.next|apply CG.skip|apply CG.block|apply CG.ret|apply CG.exit|apply NG.exit_then|refine NG.exit_block rfl ?_|apply NG.normal_block|refine SG.val rfl rfl rfl rfl (by first|(apply q64b<;>(first|exact rfl|assumption|exact Ar.mk (by omega)|exact dct (by first|assumption|omega)|exact dcf (by first|assumption|omega)|fail))|(apply qi64<;>(first|exact rfl|assumption|exact Ar.mk (by omega)|exact dct (by first|assumption|omega)|exact dcf (by first|assumption|omega)|fail))|(apply vals_lens<;>(first|exact rfl|assumption|exact Ar.mk (by omega)|exact dct (by first|assumption|omega)|exact dcf (by first|assumption|omega)|fail))|((first|apply quo8|apply qusr|apply qmv|apply qas|apply qad|apply qln|apply qge)<;>(first|exact rfl|assumption|exact Ar.mk (by omega)|exact dct (by first|assumption|omega)|exact dcf (by first|assumption|omega)|fail))|fail) ?_)
  refine SG.call rfl rfl rfl (by repeat' (first | exact True.intro | exact rho_of rfl | refine And.intro ?_ ?_)) ((number_spec ho1 hk1.size n hn (by omega)).mono (fun e w2 hh => ?_))
  obtain ⟨v2, he, ho2, hk2, _⟩ := hh
  refine ⟨_, he, ?_⟩
  repeat (first|apply CG.seq|apply CG.region|apply SG.nil|apply NG.next|apply CG.skip|apply CG.block|apply CG.ret|apply CG.exit|apply NG.exit_then|refine NG.exit_block rfl ?_|apply NG.normal_block|refine SG.val rfl rfl rfl rfl (by first|(apply q64b<;>(first|exact rfl|assumption|exact Ar.mk (by omega)|exact dct (by first|assumption|omega)|exact dcf (by first|assumption|omega)|fail))|(apply qi64<;>(first|exact rfl|assumption|exact Ar.mk (by omega)|exact dct (by first|assumption|omega)|exact dcf (by first|assumption|omega)|fail))|(apply vals_lens<;>(first|exact rfl|assumption|exact Ar.mk (by omega)|exact dct (by first|assumption|omega)|exact dcf (by first|assumption|omega)|fail))|((first|apply quo8|apply qusr|apply qmv|apply qas|apply qad|apply qln|apply qge)<;>(first|exact rfl|assumption|exact Ar.mk (by omega)|exact dct (by first|assumption|omega)|exact dcf (by first|assumption|omega)|fail))|fail) ?_)
  refine ret1 (Or.inl rfl) Try.results48 (by first | exact ResV.tmp rfl | exact ResV.agg rfl rfl (by assumption) (by first | exact dc_length _ | exact nc_length _ | exact rc_length _ _ _ | exact ec_length _ | exact dl_length _ _ _ _ | rfl) | exact ResV.cell rfl rfl (by assumption)) ?_
  exact ⟨_, rfl, ho2, hk1.trans_new hk2 (own_new ho1 (Nat.le_refl _))⟩
set_option maxHeartbeats 8000000 in
theorem puttext_spec {w : World} {a : Option Addr} {c : Nat} {l : List UInt8} (hS : Bs w a c l) (s : List UInt8) (hl : l.length + s.length ≤ 100000000) : RetO Try.prog 5 by1 1 47 #[.slice a l.length c, sv s] w (l ++ putU s.length ++ s) := by
  refine enter2 Try.func47 rfl Try.ntmps47 rfl ?_
  have e1 : (10 : Int) + (s.length : Int) = ((10 + s.length : Nat) : Int) := by omega
  repeat (first|apply CG.seq|apply CG.region|apply SG.nil|apply NG.next|apply CG.skip|apply CG.block|apply CG.ret|apply CG.exit|apply NG.exit_then|refine NG.exit_block rfl ?_|apply NG.normal_block|refine SG.val rfl rfl rfl rfl (by first|(apply q64b<;>(first|exact rfl|assumption|exact Ar.mk (by omega)|exact dct (by first|assumption|omega)|exact dcf (by first|assumption|omega)|fail))|(apply qi64<;>(first|exact rfl|assumption|exact Ar.mk (by omega)|exact dct (by first|assumption|omega)|exact dcf (by first|assumption|omega)|fail))|(apply vals_lens<;>(first|exact rfl|assumption|exact Ar.mk (by omega)|exact dct (by first|assumption|omega)|exact dcf (by first|assumption|omega)|fail))|((first|apply quo8|apply qusr|apply qmv|apply qas|apply qad|apply qln|apply qge)<;>(first|exact rfl|assumption|exact Ar.mk (by omega)|exact dct (by first|assumption|omega)|exact dcf (by first|assumption|omega)|fail))|fail) ?_)
  rw [e1]
  refine SG.call rfl rfl rfl (by repeat' (first | exact True.intro | exact rho_of rfl | refine And.intro ?_ ?_)) ((fresh_spec (c := c) hS.sl (10 + s.length) (by omega)).mono (fun e w1 hh => ?_))
  obtain ⟨v1, he, ho1, hk1⟩ := hh
  refine ⟨_, he, ?_⟩
  repeat (first|apply CG.seq|apply CG.region|apply SG.nil|apply NG.next|apply CG.skip|apply CG.block|apply CG.ret|apply CG.exit|apply NG.exit_then|refine NG.exit_block rfl ?_|apply NG.normal_block|refine SG.val rfl rfl rfl rfl (by first|(apply q64b<;>(first|exact rfl|assumption|exact Ar.mk (by omega)|exact dct (by first|assumption|omega)|exact dcf (by first|assumption|omega)|fail))|(apply qi64<;>(first|exact rfl|assumption|exact Ar.mk (by omega)|exact dct (by first|assumption|omega)|exact dcf (by first|assumption|omega)|fail))|(apply vals_lens<;>(first|exact rfl|assumption|exact Ar.mk (by omega)|exact dct (by first|assumption|omega)|exact dcf (by first|assumption|omega)|fail))|((first|apply quo8|apply qusr|apply qmv|apply qas|apply qad|apply qln|apply qge)<;>(first|exact rfl|assumption|exact Ar.mk (by omega)|exact dct (by first|assumption|omega)|exact dcf (by first|assumption|omega)|fail))|fail) ?_)
  refine SG.call rfl rfl rfl (by repeat' (first | exact True.intro | exact rho_of rfl | refine And.intro ?_ ?_)) ((number_spec ho1 hk1.size s.length (by omega) (by omega)).mono (fun e w2 hh => ?_))
  obtain ⟨v2, he, ho2, hk2, _⟩ := hh
  refine ⟨_, he, ?_⟩
  have k2 := hk1.trans_new hk2 (own_new ho1 (Nat.le_refl _))
  have hp := putN_len 10 s.length
  repeat (first|apply CG.seq|apply CG.region|apply SG.nil|apply NG.next|apply CG.skip|apply CG.block|apply CG.ret|apply CG.exit|apply NG.exit_then|refine NG.exit_block rfl ?_|apply NG.normal_block|refine SG.val rfl rfl rfl rfl (by first|(apply q64b<;>(first|exact rfl|assumption|exact Ar.mk (by omega)|exact dct (by first|assumption|omega)|exact dcf (by first|assumption|omega)|fail))|(apply qi64<;>(first|exact rfl|assumption|exact Ar.mk (by omega)|exact dct (by first|assumption|omega)|exact dcf (by first|assumption|omega)|fail))|(apply vals_lens<;>(first|exact rfl|assumption|exact Ar.mk (by omega)|exact dct (by first|assumption|omega)|exact dcf (by first|assumption|omega)|fail))|((first|apply quo8|apply qusr|apply qmv|apply qas|apply qad|apply qln|apply qge)<;>(first|exact rfl|assumption|exact Ar.mk (by omega)|exact dct (by first|assumption|omega)|exact dcf (by first|assumption|omega)|fail))|fail) ?_)
  refine SG.appT (l := s) (base := w.heap.size) rfl rfl rfl (by exact rho_of rfl) (by exact rho_of rfl) rfl rfl rfl ho2 (by rw [List.length_append]; show l.length + (putN 10 s.length).length + _ ≤ _; omega) k2.size (fun v3 w3 hk3 ho3 => ?_)
  repeat (first|apply CG.seq|apply CG.region|apply SG.nil|apply NG.next|apply CG.skip|apply CG.block|apply CG.ret|apply CG.exit|apply NG.exit_then|refine NG.exit_block rfl ?_|apply NG.normal_block|refine SG.val rfl rfl rfl rfl (by first|(apply q64b<;>(first|exact rfl|assumption|exact Ar.mk (by omega)|exact dct (by first|assumption|omega)|exact dcf (by first|assumption|omega)|fail))|(apply qi64<;>(first|exact rfl|assumption|exact Ar.mk (by omega)|exact dct (by first|assumption|omega)|exact dcf (by first|assumption|omega)|fail))|(apply vals_lens<;>(first|exact rfl|assumption|exact Ar.mk (by omega)|exact dct (by first|assumption|omega)|exact dcf (by first|assumption|omega)|fail))|((first|apply quo8|apply qusr|apply qmv|apply qas|apply qad|apply qln|apply qge)<;>(first|exact rfl|assumption|exact Ar.mk (by omega)|exact dct (by first|assumption|omega)|exact dcf (by first|assumption|omega)|fail))|fail) ?_)
  refine ret1 (Or.inl rfl) Try.results47 (by first | exact ResV.tmp rfl | exact ResV.agg rfl rfl (by assumption) (by first | exact dc_length _ | exact nc_length _ | exact rc_length _ _ _ | exact ec_length _ | exact dl_length _ _ _ _ | rfl) | exact ResV.cell rfl rfl (by assumption)) ?_
  refine ⟨_, rfl, ?_, k2.trans_new hk3 (own_new ho2 (Nat.le_refl _))⟩
  rw [← flt_by1, ← flt_append] at ho3
  have el : (l ++ putU s.length ++ s).length = (l ++ putU s.length).length + s.length := by simp only [List.length_append]
  rw [el]
  exact ho3
end Go.Proofs.Ytnoipmimddoioaa
/-
  Rows of cells, read as slices; what owned rows own.
-/
namespace Go.Proofs.Ytnoipmimddoioaa
set_option linter.unusedVariables false
theorem flt_rowf {α : Type} {enc : α → List Value} {sz : Nat} (he : ∀ x, (enc x).length = sz) {w : World} {b : Nat} {l : List α} {T : TypeId} {f : Nat × Nat} (h : Blk w b (.cells (flt enc l).toArray T f)) : Sl enc sz w (some ⟨b, 0, none⟩) l := fun i x hx => by
  obtain ⟨hi, rfl⟩ := List.getElem?_eq_some_iff.1 hx
  refine ⟨b, 0, rfl, Row.of h (flt enc (l.take i)) (flt enc (l.drop (i + 1))) (by rw [List.toList_toArray]; exact flt_split l i hi) ?_⟩
  rw [flt_length he, List.length_take, Nat.zero_add, Nat.min_eq_left (by omega)]
theorem ownB_mem {v : Value} {z : Nat} (hz : z ∈ ownB v) : v.ownBlock = some z := by
  unfold ownB at hz
  split at hz
  · rename_i b hb
    rw [List.mem_singleton] at hz
    rw [hb, hz]
  · cases hz
end Go.Proofs.Ytnoipmimddoioaa
/-
  Offers: how they lie in memory; whether one may be, whether two fit.
-/
namespace Go.Proofs.Ytnoipmimddoioaa
open Go.Proofs
set_option linter.unusedVariables false

structure Ofr where
  who : Dg
  rules : Dg
  seats : Int
  least : Int
  most : Int
  window : Int
  till : Int
def i64s (l : List Int) : List Value := l.map (fun z => .int .i64 z)
def ec (o : Ofr) : List Value := dc o.who ++ (dc o.rules ++ [.int .i64 o.seats, .int .i64 o.least, .int .i64 o.most, .int .i64 o.window, .int .i64 o.till])
theorem ec_length (o : Ofr) : (ec o).length = 21 := by simp [ec, dc_length]
theorem ec_one (o : Ofr) : allOne (ec o) = true := by simp [ec, allOne, dc, oneB]
def ov (o : Ofr) : Value := .agg (ec o).toArray
theorem ec_rows {w : World} {b : Nat} {T : TypeId} {o : Ofr} (h : Blk w b (.cells (ec o).toArray T)) : Row w b 0 (dc o.who) ∧ Row w b 8 (dc o.rules) ∧ Row w b 16 [.int .i64 o.seats] ∧ Row w b 17 [.int .i64 o.least] ∧ Row w b 18 [.int .i64 o.most] ∧ Row w b 19 [.int .i64 o.window] ∧ Row w b 20 [.int .i64 o.till] ∧ Row w b 0 (ec o) := by
  have e : ∀ (pre l post : List Value), ec o = pre ++ (l ++ post) → Row w b pre.length l := fun pre l post he => Row.of h pre post (by simpa using he) rfl
  have l8 : (dc o.who).length = 8 := dc_length _
  have l16 : (dc o.who ++ dc o.rules).length = 16 := by simp [dc_length]
  refine ⟨?_, ?_, ?_, ?_, ?_, ?_, ?_, Row.all h (by simp)⟩
  · exact e [] (dc o.who) _ rfl
  · have := e (dc o.who) (dc o.rules) _ rfl
    rwa [l8] at this
  · have := e (dc o.who ++ dc o.rules) [.int .i64 o.seats] [.int .i64 o.least, .int .i64 o.most, .int .i64 o.window, .int .i64 o.till] (by simp [ec])
    rwa [l16] at this
  · have := e (dc o.who ++ dc o.rules ++ [.int .i64 o.seats]) [.int .i64 o.least] [.int .i64 o.most, .int .i64 o.window, .int .i64 o.till] (by simp [ec])
    rwa [List.length_append, l16] at this
  · have := e (dc o.who ++ dc o.rules ++ [.int .i64 o.seats, .int .i64 o.least]) [.int .i64 o.most] [.int .i64 o.window, .int .i64 o.till] (by simp [ec])
    rwa [List.length_append, l16] at this
  · have := e (dc o.who ++ dc o.rules ++ [.int .i64 o.seats, .int .i64 o.least, .int .i64 o.most]) [.int .i64 o.window] [.int .i64 o.till] (by simp [ec])
    rwa [List.length_append, l16] at this
  · have := e (dc o.who ++ dc o.rules ++ [.int .i64 o.seats, .int .i64 o.least, .int .i64 o.most, .int .i64 o.window]) [.int .i64 o.till] [] (by simp [ec])
    rwa [List.length_append, l16] at this
/-- What of an offer is right. -/
structure Ofr.Ok (o : Ofr) : Prop where
  s1 : 2 ≤ o.seats
  s2 : o.seats ≤ 8
  l1 : 1 ≤ o.least
  l2 : o.least ≤ o.most
  l3 : o.most ≤ 1099511627776
  w1 : 1 ≤ o.window
  w2 : o.window ≤ 1048576
  t1 : 0 ≤ o.till
  t2 : o.till ≤ 1099511627776
def fitP (a b : Ofr) : Prop := a.who ≠ b.who ∧ a.rules = b.rules ∧ a.seats = b.seats ∧ a.least ≤ b.most ∧ b.least ≤ a.most
instance (a b : Ofr) : Decidable (fitP a b) := by unfold fitP; infer_instance
theorem okk (o : Ofr) : o.Ok ↔ (2 ≤ o.seats ∧ o.seats ≤ 8 ∧ 1 ≤ o.least ∧ o.least ≤ o.most ∧ o.most ≤ 1099511627776 ∧ 1 ≤ o.window ∧ o.window ≤ 1048576 ∧ 0 ≤ o.till ∧ o.till ≤ 1099511627776) :=
  ⟨fun h => ⟨h.s1, h.s2, h.l1, h.l2, h.l3, h.w1, h.w2, h.t1, h.t2⟩, fun ⟨a, b, c, d, e, f, g, h, i⟩ => ⟨a, b, c, d, e, f, g, h, i⟩⟩
instance (o : Ofr) : Decidable o.Ok := decidable_of_iff _ (okk o).symm
/-- What is looked at, one behind the other. -/
theorem ok_cases (o : Ofr) : (¬ o.Ok ∧ ¬ 2 ≤ o.seats) ∨ (¬ o.Ok ∧ 2 ≤ o.seats ∧ ¬ o.seats ≤ 8) ∨ (¬ o.Ok ∧ 2 ≤ o.seats ∧ o.seats ≤ 8 ∧ ¬ 1 ≤ o.least) ∨ (¬ o.Ok ∧ 2 ≤ o.seats ∧ o.seats ≤ 8 ∧ 1 ≤ o.least ∧ ¬ o.least ≤ o.most) ∨
    (¬ o.Ok ∧ 2 ≤ o.seats ∧ o.seats ≤ 8 ∧ 1 ≤ o.least ∧ o.least ≤ o.most ∧ ¬ o.most ≤ 1099511627776) ∨ (¬ o.Ok ∧ 2 ≤ o.seats ∧ o.seats ≤ 8 ∧ 1 ≤ o.least ∧ o.least ≤ o.most ∧ o.most ≤ 1099511627776 ∧ ¬ 1 ≤ o.window) ∨
    (¬ o.Ok ∧ 2 ≤ o.seats ∧ o.seats ≤ 8 ∧ 1 ≤ o.least ∧ o.least ≤ o.most ∧ o.most ≤ 1099511627776 ∧ 1 ≤ o.window ∧ ¬ o.window ≤ 1048576) ∨
    (¬ o.Ok ∧ 2 ≤ o.seats ∧ o.seats ≤ 8 ∧ 1 ≤ o.least ∧ o.least ≤ o.most ∧ o.most ≤ 1099511627776 ∧ 1 ≤ o.window ∧ o.window ≤ 1048576 ∧ ¬ 0 ≤ o.till) ∨
    (¬ o.Ok ∧ 2 ≤ o.seats ∧ o.seats ≤ 8 ∧ 1 ≤ o.least ∧ o.least ≤ o.most ∧ o.most ≤ 1099511627776 ∧ 1 ≤ o.window ∧ o.window ≤ 1048576 ∧ 0 ≤ o.till ∧ ¬ o.till ≤ 1099511627776) ∨
    (o.Ok ∧ 2 ≤ o.seats ∧ o.seats ≤ 8 ∧ 1 ≤ o.least ∧ o.least ≤ o.most ∧ o.most ≤ 1099511627776 ∧ 1 ≤ o.window ∧ o.window ≤ 1048576 ∧ 0 ≤ o.till ∧ o.till ≤ 1099511627776) := by
  by_cases h1 : 2 ≤ o.seats
  rotate_left
  · exact Or.inl ⟨fun h => h1 h.s1, h1⟩
  by_cases h2 : o.seats ≤ 8
  rotate_left
  · exact Or.inr (Or.inl ⟨fun h => h2 h.s2, h1, h2⟩)
  by_cases h3 : 1 ≤ o.least
  rotate_left
  · exact Or.inr (Or.inr (Or.inl ⟨fun h => h3 h.l1, h1, h2, h3⟩))
  by_cases h4 : o.least ≤ o.most
  rotate_left
  · exact Or.inr (Or.inr (Or.inr (Or.inl ⟨fun h => h4 h.l2, h1, h2, h3, h4⟩)))
  by_cases h5 : o.most ≤ 1099511627776
  rotate_left
  · exact Or.inr (Or.inr (Or.inr (Or.inr (Or.inl ⟨fun h => h5 h.l3, h1, h2, h3, h4, h5⟩))))
  by_cases h6 : 1 ≤ o.window
  rotate_left
  · exact Or.inr (Or.inr (Or.inr (Or.inr (Or.inr (Or.inl ⟨fun h => h6 h.w1, h1, h2, h3, h4, h5, h6⟩)))))
  by_cases h7 : o.window ≤ 1048576
  rotate_left
  · exact Or.inr (Or.inr (Or.inr (Or.inr (Or.inr (Or.inr (Or.inl ⟨fun h => h7 h.w2, h1, h2, h3, h4, h5, h6, h7⟩))))))
  by_cases h8 : 0 ≤ o.till
  rotate_left
  · exact Or.inr (Or.inr (Or.inr (Or.inr (Or.inr (Or.inr (Or.inr (Or.inl ⟨fun h => h8 h.t1, h1, h2, h3, h4, h5, h6, h7, h8⟩)))))))
  by_cases h9 : o.till ≤ 1099511627776
  rotate_left
  · exact Or.inr (Or.inr (Or.inr (Or.inr (Or.inr (Or.inr (Or.inr (Or.inr (Or.inl ⟨fun h => h9 h.t2, h1, h2, h3, h4, h5, h6, h7, h8, h9⟩))))))))
  exact Or.inr (Or.inr (Or.inr (Or.inr (Or.inr (Or.inr (Or.inr (Or.inr (Or.inr (⟨⟨h1, h2, h3, h4, h5, h6, h7, h8, h9⟩, h1, h2, h3, h4, h5, h6, h7, h8, h9⟩)))))))))
theorem dec_not {p : Prop} [Decidable p] (h : ¬ p) : decide p = false := decide_eq_false h

attribute [local irreducible] CG NG SG Vals Der Row Blk MapIs IterAt addI xorI orI andI shlI shrI mulI
set_option maxHeartbeats 16000000 in
theorem check_spec (o : Ofr) (w : World) : Ret Try.prog 20 #[ov o] w (.int .i64 (if o.Ok then 0 else 2)) := by
  refine enter1 Try.func20 rfl Try.ntmps20 rfl ?_
  repeat (first|apply CG.seq|apply CG.region|apply SG.nil|apply NG.next|apply CG.skip|apply CG.ret|apply NG.ret_then|refine SG.val rfl rfl rfl rfl (by first|((first|apply qmv|apply qas|apply qlc|apply qla|apply qfa|apply qpk|apply qls|apply qei|apply qed|apply qnd|apply qle|apply qgt|apply qge)<;>(first|exact rfl|assumption|exact dct (by first|assumption|omega)|exact dcf (by first|assumption|omega)|exact List.not_mem_nil|apply dc_length|fail))|fail) ?_)
  refine SG.box rfl rfl rfl (by exact rho_of rfl) (fun b1 w1 hk1 hb1 hB1 => ?_)
  have hB1 : Blk w1 b1 (.cells (ec o).toArray 47) := hB1
  obtain ⟨-, -, r2, r3, r4, r5, r6, -⟩ := ec_rows hB1
  rcases ok_cases o with ⟨h0, h1⟩ | ⟨h0, h1, h2⟩ | ⟨h0, h1, h2, h3⟩ | ⟨h0, h1, h2, h3, h4⟩ | ⟨h0, h1, h2, h3, h4, h5⟩ | ⟨h0, h1, h2, h3, h4, h5, h6⟩ | ⟨h0, h1, h2, h3, h4, h5, h6, h7⟩ | ⟨h0, h1, h2, h3, h4, h5, h6, h7, h8⟩ | ⟨h0, h1, h2, h3, h4, h5, h6, h7, h8, h9⟩ | ⟨h0, h1, h2, h3, h4, h5, h6, h7, h8, h9⟩
  all_goals
    repeat (first | first|apply CG.seq|apply CG.region|apply SG.nil|apply NG.next|apply CG.skip|apply CG.ret|apply NG.ret_then|refine SG.val rfl rfl rfl rfl (by first|((first|apply qmv|apply qas|apply qlc|apply qla|apply qfa|apply qpk|apply qls|apply qei|apply qed|apply qnd|apply qle|apply qgt|apply qge)<;>(first|exact rfl|assumption|exact dct (by first|assumption|omega)|exact dcf (by first|assumption|omega)|exact List.not_mem_nil|apply dc_length|fail))|fail) ?_ | refine SG.skip rfl rfl ?_)
    first
      | refine CG.cond_t rfl (by exact rho_of rfl) rfl ?_
      | refine CG.cond_f rfl (by exact rho_of rfl) rfl ?_
    repeat (first|apply CG.seq|apply CG.region|apply SG.nil|apply NG.next|apply CG.skip|apply CG.ret|apply NG.ret_then|refine SG.val rfl rfl rfl rfl (by first|((first|apply qmv|apply qas|apply qlc|apply qla|apply qfa|apply qpk|apply qls|apply qei|apply qed|apply qnd|apply qle|apply qgt|apply qge)<;>(first|exact rfl|assumption|exact dct (by first|assumption|omega)|exact dcf (by first|assumption|omega)|exact List.not_mem_nil|apply dc_length|fail))|fail) ?_)
    refine ret1 (Or.inl rfl) Try.results20 (by first | exact ResV.tmp rfl | exact ResV.agg rfl rfl (by assumption) (by first | exact dc_length _ | exact nc_length _ | exact rc_length _ _ _ | exact ec_length _ | exact dl_length _ _ _ _ | rfl) | exact ResV.cell rfl rfl (by assumption)) ?_
    first
      | rw [if_neg h0]; exact ⟨rfl, hk1⟩
      | rw [if_pos h0]; exact ⟨rfl, hk1⟩
set_option maxHeartbeats 16000000 in
theorem right_spec (o : Ofr) (w : World) : Ret Try.prog 21 #[ov o] w (.bool (decide o.Ok)) := by
  refine enter1 Try.func21 rfl Try.ntmps21 rfl ?_
  repeat (first|apply CG.seq|apply CG.region|apply SG.nil|apply NG.next|apply CG.skip|apply CG.ret|apply NG.ret_then|refine SG.val rfl rfl rfl rfl (by first|((first|apply qmv|apply qas|apply qlc|apply qla|apply qfa|apply qpk|apply qls|apply qei|apply qed|apply qnd|apply qle|apply qgt|apply qge)<;>(first|exact rfl|assumption|exact dct (by first|assumption|omega)|exact dcf (by first|assumption|omega)|exact List.not_mem_nil|apply dc_length|fail))|fail) ?_)
  refine SG.box rfl rfl rfl (by exact rho_of rfl) (fun b1 w1 hk1 hb1 hB1 => ?_)
  have hB1 : Blk w1 b1 (.cells (ec o).toArray 35) := hB1
  obtain ⟨-, -, r2, r3, r4, r5, r6, -⟩ := ec_rows hB1
  rcases ok_cases o with ⟨h0, h1⟩ | ⟨h0, h1, h2⟩ | ⟨h0, h1, h2, h3⟩ | ⟨h0, h1, h2, h3, h4⟩ | ⟨h0, h1, h2, h3, h4, h5⟩ | ⟨h0, h1, h2, h3, h4, h5, h6⟩ | ⟨h0, h1, h2, h3, h4, h5, h6, h7⟩ | ⟨h0, h1, h2, h3, h4, h5, h6, h7, h8⟩ | ⟨h0, h1, h2, h3, h4, h5, h6, h7, h8, h9⟩ | ⟨h0, h1, h2, h3, h4, h5, h6, h7, h8, h9⟩
  all_goals
    repeat (first | first|apply CG.seq|apply CG.region|apply SG.nil|apply NG.next|apply CG.skip|apply CG.ret|apply NG.ret_then|refine SG.val rfl rfl rfl rfl (by first|((first|apply qmv|apply qas|apply qlc|apply qla|apply qfa|apply qpk|apply qls|apply qei|apply qed|apply qnd|apply qle|apply qgt|apply qge)<;>(first|exact rfl|assumption|exact dct (by first|assumption|omega)|exact dcf (by first|assumption|omega)|exact List.not_mem_nil|apply dc_length|fail))|fail) ?_ | refine SG.skip rfl rfl ?_)
    refine ret1 (Or.inl rfl) Try.results21 (by first | exact ResV.tmp rfl | exact ResV.agg rfl rfl (by assumption) (by first | exact dc_length _ | exact nc_length _ | exact rc_length _ _ _ | exact ec_length _ | exact dl_length _ _ _ _ | rfl) | exact ResV.cell rfl rfl (by assumption)) ?_
    first
      | rw [decide_eq_false h0]; exact ⟨rfl, hk1⟩
      | rw [decide_eq_true h0]; exact ⟨rfl, hk1⟩
theorem fit_cases (a b : Ofr) : (¬ fitP a b ∧ a.who = b.who) ∨ (¬ fitP a b ∧ a.who ≠ b.who ∧ a.rules ≠ b.rules) ∨ (¬ fitP a b ∧ a.who ≠ b.who ∧ a.rules = b.rules ∧ a.seats ≠ b.seats) ∨ (¬ fitP a b ∧ a.who ≠ b.who ∧ a.rules = b.rules ∧ a.seats = b.seats ∧ ¬ a.least ≤ b.most) ∨
    (¬ fitP a b ∧ a.who ≠ b.who ∧ a.rules = b.rules ∧ a.seats = b.seats ∧ a.least ≤ b.most ∧ ¬ b.least ≤ a.most) ∨ (fitP a b ∧ a.who ≠ b.who ∧ a.rules = b.rules ∧ a.seats = b.seats ∧ a.least ≤ b.most ∧ b.least ≤ a.most) := by
  unfold fitP
  by_cases h1 : a.who = b.who
  · exact Or.inl ⟨fun h => h.1 h1, h1⟩
  by_cases h2 : a.rules = b.rules
  rotate_left
  · exact Or.inr (Or.inl ⟨fun h => h2 h.2.1, h1, h2⟩)
  by_cases h3 : a.seats = b.seats
  rotate_left
  · exact Or.inr (Or.inr (Or.inl ⟨fun h => h3 h.2.2.1, h1, h2, h3⟩))
  by_cases h4 : a.least ≤ b.most
  rotate_left
  · exact Or.inr (Or.inr (Or.inr (Or.inl ⟨fun h => h4 h.2.2.2.1, h1, h2, h3, h4⟩)))
  by_cases h5 : b.least ≤ a.most
  rotate_left
  · exact Or.inr (Or.inr (Or.inr (Or.inr (Or.inl ⟨fun h => h5 h.2.2.2.2, h1, h2, h3, h4, h5⟩))))
  exact Or.inr (Or.inr (Or.inr (Or.inr (Or.inr ⟨⟨h1, h2, h3, h4, h5⟩, h1, h2, h3, h4, h5⟩))))
set_option maxHeartbeats 16000000 in
theorem fit_spec (a b : Ofr) (w : World) : Ret Try.prog 24 #[ov a, ov b] w (.bool (decide (fitP a b))) := by
  refine enter2 Try.func24 rfl Try.ntmps24 rfl ?_
  repeat (first|apply CG.seq|apply CG.region|apply SG.nil|apply NG.next|apply CG.skip|apply CG.ret|apply NG.ret_then|refine SG.val rfl rfl rfl rfl (by first|((first|apply qmv|apply qas|apply qlc|apply qla|apply qfa|apply qpk|apply qls|apply qei|apply qed|apply qnd|apply qle|apply qgt|apply qge)<;>(first|exact rfl|assumption|exact dct (by first|assumption|omega)|exact dcf (by first|assumption|omega)|exact List.not_mem_nil|apply dc_length|fail))|fail) ?_)
  refine SG.box rfl rfl rfl (by exact rho_of rfl) (fun b1 w1 hk1 hb1 hB1 => ?_)
  have hB1 : Blk w1 b1 (.cells (ec a).toArray 47) := hB1
  refine SG.box rfl rfl rfl (by exact rho_of rfl) (fun b2 w2 hk2 hb2 hB2 => ?_)
  have hB2 : Blk w2 b2 (.cells (ec b).toArray 47) := hB2
  have hkk := hk1.trans hk2
  obtain ⟨a0, a1, a2, a3, a4, -, -, -⟩ := ec_rows (hB1.kp0 hk2)
  obtain ⟨r0, r1, r2, r3, r4, -, -, -⟩ := ec_rows hB2
  rcases fit_cases a b with ⟨h0, h1⟩ | ⟨h0, h1, h2⟩ | ⟨h0, h1, h2, h3⟩ | ⟨h0, h1, h2, h3, h4⟩ | ⟨h0, h1, h2, h3, h4, h5⟩ | ⟨h0, h1, h2, h3, h4, h5⟩
  all_goals
    repeat (first | first|apply CG.seq|apply CG.region|apply SG.nil|apply NG.next|apply CG.skip|apply CG.ret|apply NG.ret_then|refine SG.val rfl rfl rfl rfl (by first|((first|apply qmv|apply qas|apply qlc|apply qla|apply qfa|apply qpk|apply qls|apply qei|apply qed|apply qnd|apply qle|apply qgt|apply qge)<;>(first|exact rfl|assumption|exact dct (by first|assumption|omega)|exact dcf (by first|assumption|omega)|exact List.not_mem_nil|apply dc_length|fail))|fail) ?_ | refine SG.skip rfl rfl ?_)
    refine ret1 (Or.inl rfl) Try.results24 (by first | exact ResV.tmp rfl | exact ResV.agg rfl rfl (by assumption) (by first | exact dc_length _ | exact nc_length _ | exact rc_length _ _ _ | exact ec_length _ | exact dl_length _ _ _ _ | rfl) | exact ResV.cell rfl rfl (by assumption)) ?_
    first
      | rw [decide_eq_false h0]; exact ⟨rfl, hkk⟩
      | rw [decide_eq_true h0]; exact ⟨rfl, hkk⟩
set_option maxHeartbeats 16000000 in
theorem rfit_spec (a b : Ofr) (w : World) : Ret Try.prog 25 #[ov a, ov b] w (.bool (decide (fitP a b))) := by
  refine enter2 Try.func25 rfl Try.ntmps25 rfl ?_
  repeat (first|apply CG.seq|apply CG.region|apply SG.nil|apply NG.next|apply CG.skip|apply CG.ret|apply NG.ret_then|refine SG.val rfl rfl rfl rfl (by first|((first|apply qmv|apply qas|apply qlc|apply qla|apply qfa|apply qpk|apply qls|apply qei|apply qed|apply qnd|apply qle|apply qgt|apply qge)<;>(first|exact rfl|assumption|exact dct (by first|assumption|omega)|exact dcf (by first|assumption|omega)|exact List.not_mem_nil|apply dc_length|fail))|fail) ?_)
  refine SG.box rfl rfl rfl (by exact rho_of rfl) (fun b1 w1 hk1 hb1 hB1 => ?_)
  have hB1 : Blk w1 b1 (.cells (ec a).toArray 35) := hB1
  refine SG.box rfl rfl rfl (by exact rho_of rfl) (fun b2 w2 hk2 hb2 hB2 => ?_)
  have hB2 : Blk w2 b2 (.cells (ec b).toArray 35) := hB2
  have hkk := hk1.trans hk2
  obtain ⟨a0, a1, a2, a3, a4, -, -, -⟩ := ec_rows (hB1.kp0 hk2)
  obtain ⟨r0, r1, r2, r3, r4, -, -, -⟩ := ec_rows hB2
  rcases fit_cases a b with ⟨h0, h1⟩ | ⟨h0, h1, h2⟩ | ⟨h0, h1, h2, h3⟩ | ⟨h0, h1, h2, h3, h4⟩ | ⟨h0, h1, h2, h3, h4, h5⟩ | ⟨h0, h1, h2, h3, h4, h5⟩
  all_goals
    repeat (first | first|apply CG.seq|apply CG.region|apply SG.nil|apply NG.next|apply CG.skip|apply CG.ret|apply NG.ret_then|refine SG.val rfl rfl rfl rfl (by first|((first|apply qmv|apply qas|apply qlc|apply qla|apply qfa|apply qpk|apply qls|apply qei|apply qed|apply qnd|apply qle|apply qgt|apply qge)<;>(first|exact rfl|assumption|exact dct (by first|assumption|omega)|exact dcf (by first|assumption|omega)|exact List.not_mem_nil|apply dc_length|fail))|fail) ?_ | refine SG.skip rfl rfl ?_)
    refine ret1 (Or.inl rfl) Try.results25 (by first | exact ResV.tmp rfl | exact ResV.agg rfl rfl (by assumption) (by first | exact dc_length _ | exact nc_length _ | exact rc_length _ _ _ | exact ec_length _ | exact dl_length _ _ _ _ | rfl) | exact ResV.cell rfl rfl (by assumption)) ?_
    first
      | rw [decide_eq_false h0]; exact ⟨rfl, hkk⟩
      | rw [decide_eq_true h0]; exact ⟨rfl, hkk⟩
end Go.Proofs.Ytnoipmimddoioaa
/-
  The rows' own: how what comes is read.
-/
namespace Go.Proofs.Ytnoipmimddoioaa
open Go.ChangeShapes Go.WideShapes Go.ChangeAt Go.RowKit
set_option linter.unusedVariables false

theorem own : ownKnob Try.prog.godebug = none := by kernel_rfl
theorem laidOut : laidOutB Try.prog = true := by kernel_rfl
theorem cells5 : Try.prog.cellsOf 5 = 1 := by kernel_rfl
theorem cells3 : Try.prog.cellsOf 3 = 1 := by kernel_rfl
theorem cellsD : Try.prog.cellsOf 23 = 8 := by kernel_rfl
theorem cellsO : Try.prog.cellsOf 35 = 21 := by kernel_rfl

/-- The elements of a slice, by how one is read. -/
theorem elems_of {H α : Type} {en : TypeId × Value → H} {P : Program} {w : World} {e : TypeId} {a : Option Addr} {n : Nat} (enc : α → List Value) (p : α → Prop) (h : SlOf en P w e a n)
    (rd : ∀ cs fuel y, DataW.trod en P w 0 (fun _ => true) true fuel e cs = some y → ∃ x : α, cs = enc x ∧ p x) : ∃ l : List α, l.length = n ∧ Sl enc (P.cellsOf e) w a l ∧ ∀ x ∈ l, p x := by
  have key : ∀ i : _root_.Fin n, ∃ x : α, (∃ b off, a = some ⟨b, off, none⟩ ∧ Row w b (off + i.1 * P.cellsOf e) (enc x)) ∧ p x := by
    intro i
    obtain ⟨b, off, cs, fuel, y, h1, h2, h3, h4⟩ := h.row i.1 i.2
    obtain ⟨x, rfl, hp⟩ := rd cs fuel y h4
    exact ⟨x, ⟨b, off, h1, h2⟩, hp⟩
  refine ⟨List.ofFn (fun i => Classical.choose (key i)), by simp, fun i x hx => ?_, fun x hx => ?_⟩
  · rw [List.getElem?_ofFn] at hx
    split at hx
    · rename_i hi
      cases hx
      exact (Classical.choose_spec (key ⟨i, hi⟩)).1
    · cases hx
  · obtain ⟨i, rfl⟩ := List.mem_ofFn.1 hx
    exact (Classical.choose_spec (key i)).2
theorem bytes_of {H : Type} {enc : TypeId × Value → H} {w : World} {a : Option Addr} {n : Nat} (h : SlOf enc Try.prog w 5 a n) : ∃ l : List UInt8, l.length = n ∧ Sl (fun u => [bv u]) 1 w a l := by
  obtain ⟨l, h1, h2, _⟩ := elems_of (fun u : UInt8 => [bv u]) (fun _ => True) h (fun cs fuel y hy => by
    obtain ⟨u, hu⟩ := one_byte Try.underlying5 hy
    exact ⟨u, hu, trivial⟩)
  rw [cells5] at h2
  exact ⟨l, h1, h2⟩
theorem cut_drop {α : Type} (l : List α) (a n : Nat) : l.drop a = (l.drop a).take n ++ l.drop (a + n) := by
  rw [← List.drop_drop, List.take_append_drop]
set_option maxRecDepth 100000 in
theorem ofc_of {H : Type} {enc : TypeId × Value → H} {w : World} {cs : List Value} {fuel : Nat} {y : DataW H × List MemPlace} (h : DataW.trod enc Try.prog w 0 (fun _ => true) true fuel 35 cs = some y) : ∃ o : Ofr, cs = ec o := by
  obtain ⟨xs, m, _, _, hl, hlen, hf⟩ := DataW.trod_struct Try.underlying35 h
  rw [cellsO] at hl
  match xs, hlen with
  | [y0, y1, y2, y3, y4, y5, y6], _ =>
    have h0 : DataW.trod enc Try.prog w 0 (fun _ => true) true m 23 ((cs.drop 0).take (Try.prog.cellsOf 23)) = some y0 := hf 0 _ rfl
    have h1 : DataW.trod enc Try.prog w 0 (fun _ => true) true m 23 ((cs.drop 8).take (Try.prog.cellsOf 23)) = some y1 := hf 1 _ rfl
    have h2 : DataW.trod enc Try.prog w 0 (fun _ => true) true m 3 ((cs.drop 16).take (Try.prog.cellsOf 3)) = some y2 := hf 2 _ rfl
    have h3 : DataW.trod enc Try.prog w 0 (fun _ => true) true m 3 ((cs.drop 17).take (Try.prog.cellsOf 3)) = some y3 := hf 3 _ rfl
    have h4 : DataW.trod enc Try.prog w 0 (fun _ => true) true m 3 ((cs.drop 18).take (Try.prog.cellsOf 3)) = some y4 := hf 4 _ rfl
    have h5 : DataW.trod enc Try.prog w 0 (fun _ => true) true m 3 ((cs.drop 19).take (Try.prog.cellsOf 3)) = some y5 := hf 5 _ rfl
    have h6 : DataW.trod enc Try.prog w 0 (fun _ => true) true m 3 ((cs.drop 20).take (Try.prog.cellsOf 3)) = some y6 := hf 6 _ rfl
    rw [cellsD] at h0 h1
    rw [cells3] at h2 h3 h4 h5 h6
    obtain ⟨d0, e0⟩ := arr_bytes Try.underlying23 Try.underlying5 cells5 cellsD h0
    obtain ⟨d1, e1⟩ := arr_bytes Try.underlying23 Try.underlying5 cells5 cellsD h1
    obtain ⟨n2, e2, _, _⟩ := DataW.trod_int Try.underlying3 h2
    obtain ⟨n3, e3, _, _⟩ := DataW.trod_int Try.underlying3 h3
    obtain ⟨n4, e4, _, _⟩ := DataW.trod_int Try.underlying3 h4
    obtain ⟨n5, e5, _, _⟩ := DataW.trod_int Try.underlying3 h5
    obtain ⟨n6, e6, _, _⟩ := DataW.trod_int Try.underlying3 h6
    refine ⟨⟨d0, d1, n2, n3, n4, n5, n6⟩, ?_⟩
    have hd : cs.drop (20 + 1) = [] := List.drop_of_length_le (by omega)
    have e : cs = cs.drop 0 := rfl
    rw [e, cut_drop cs 0 8, e0, cut_drop cs (0 + 8) 8, e1, cut_drop cs (0 + 8 + 8) 1, e2, cut_drop cs (0 + 8 + 8 + 1) 1, e3, cut_drop cs (0 + 8 + 8 + 1 + 1) 1, e4, cut_drop cs (0 + 8 + 8 + 1 + 1 + 1) 1, e5, cut_drop cs (0 + 8 + 8 + 1 + 1 + 1 + 1) 1, e6, hd]
    rfl
theorem ofrs_of {H : Type} {enc : TypeId × Value → H} {w : World} {a : Option Addr} {n : Nat} (h : SlOf enc Try.prog w 35 a n) : ∃ l : List Ofr, l.length = n ∧ Sl ec 21 w a l := by
  obtain ⟨l, h1, h2, h3⟩ := elems_of ec (fun _ => True) h (fun cs fuel y hy => by
    obtain ⟨o, e⟩ := ofc_of hy
    exact ⟨o, e, trivial⟩)
  rw [cellsO] at h2
  exact ⟨l, h1, h2⟩
theorem ofr_of {H : Type} {enc : TypeId × Value → H} {w : World} {cs : Array Value} {d : DataW H} {ps : List MemPlace} (h : DataW.Trod enc Try.prog w 0 (fun _ => true) true 35 (.agg cs) d ps) : ∃ o : Ofr, cs = (ec o).toArray := by
  obtain ⟨fuel, hf⟩ := h
  obtain ⟨o, e⟩ := ofc_of hf
  refine ⟨o, ?_⟩
  have : cs.toList = ec o := by simpa [Value.cells] using e
  exact Array.toList_inj.1 (by simpa using this)
end Go.Proofs.Ytnoipmimddoioaa
/-
  The digest of an offer, by the program and by the document.
-/
namespace Go.Proofs.Ytnoipmimddoioaa
open Go.Proofs
set_option linter.unusedVariables false

def un (z : Int) : Nat := (IntKind.wrap .u64 z).toNat
theorem un_eq (z : Int) : IntKind.wrap .u64 z = ((un z : Nat) : Int) := by
  have := wrap64_bd z
  unfold un
  omega
theorem un_lt (z : Int) : un z < 18446744073709551616 := by
  have := wrap64_bd z
  unfold un
  omega
theorem un_nat {n : Nat} (h : n < 18446744073709551616) : un (n : Int) = n := by
  unfold un
  rw [wrap64_nat h]
  simp
def offT : List UInt8 := [111, 102, 102, 101, 114]
def dealT : List UInt8 := [100, 101, 97, 108]
def putZ (zs : List Int) : List UInt8 := zs.flatMap (fun z => putU (un z))
theorem putU_len (n : Nat) : (putU n).length ≤ 11 := putN_len 10 n
theorem putZ_len : ∀ zs : List Int, (putZ zs).length ≤ 11 * zs.length
  | [] => Nat.le_refl _
  | z :: zs => by
    have h1 := putU_len (un z)
    have h2 := putZ_len zs
    simp only [putZ, List.flatMap_cons, List.length_append, List.length_cons] at h2 ⊢
    omega
def digB (o : Ofr) : List UInt8 := putU 5 ++ offT ++ putU (num o.who) ++ putU (num o.rules) ++ putZ [o.seats, o.least, o.most, o.window, o.till]
def digO (o : Ofr) : Dg := ofI (digB o)
abbrev ic (z : Int) : List Value := [.int .i64 z]
theorem ic_len (x : Int) : (ic x).length = 1 := rfl
theorem ic_one (x : Int) : allOne (ic x) = true := rfl
theorem putZ_snoc (zs : List Int) (i : Nat) (h : i < zs.length) : putZ (zs.take (i + 1)) = putZ (zs.take i) ++ putU (un zs[i]) := by
  unfold putZ
  rw [List.take_succ_eq_append_getElem h, List.flatMap_append]
  simp only [List.flatMap_cons, List.flatMap_nil, List.append_nil]

attribute [local irreducible] CG NG SG Vals Der Row Blk MapIs IterAt addI xorI orI andI shlI shrI mulI
set_option maxHeartbeats 16000000 in
theorem put_spec {w : World} {a : Option Addr} {c : Nat} {l : List UInt8} {a2 : Option Addr} {c2 : Nat} {zs : List Int} (hB : Bs w a c l) (hS : Sl ic 1 w a2 zs) (hz : 0 < zs.length) (hz2 : zs.length ≤ 100) (hl : l.length ≤ 1000000) : RetO Try.prog 5 by1 1 50 #[.slice a l.length c, .slice a2 zs.length c2] w (l ++ putZ zs) := by
  refine enter2 Try.func50 rfl Try.ntmps50 rfl ?_
  repeat (first|apply CG.seq|apply CG.region|apply SG.nil|apply NG.next|apply CG.skip|apply CG.block|apply CG.ret|apply CG.exit|apply NG.exit_then|refine NG.exit_block rfl ?_|apply NG.normal_block|refine SG.val rfl rfl rfl rfl (by first|((first|apply qmv|apply qas|apply qlc|apply qla|apply qfa|apply qix|apply qls|apply qad|apply qln|apply qcv)<;>(first|exact rfl|assumption|exact Ar.mk (by omega)|exact dct (by first|assumption|omega)|exact dcf (by first|assumption|omega)|exact List.not_mem_nil|apply dc_length|fail))|fail) ?_)
  refine CG.loop (X := Value × Nat) (fun x => [(0, x.1), (7, .slice a2 zs.length c2), (8, .int .i64 (zs.length : Int)), (9, .int .i64 (x.2 : Int))])
    (fun x w' => x.2 ≤ zs.length ∧ Kp [] w w' ∧ (∃ a' c', x.1 = .slice a' (l ++ putZ (zs.take x.2)).length c' ∧ Bs w' a' c' (l ++ putZ (zs.take x.2))) ∧ (0 < x.2 → w'.ownsRow w.heap.size 5 1 x.1 (l ++ putZ (zs.take x.2)).length (flt by1 (l ++ putZ (zs.take x.2))))) (fun x => zs.length - x.2) (.slice a l.length c, 0) ⟨by simp only; omega, Kp.refl _ _, ⟨a, c, by simp [putZ], by simpa [putZ] using hB⟩, fun h => absurd h (Nat.lt_irrefl _)⟩ (by (repeat' (first | exact True.intro | exact rfl | refine And.intro ?_ ?_))) ?_
  rintro ⟨v, i⟩ w1 ⟨hi, hk1, ⟨a1, c1, hv, hB1⟩, ho1⟩
  simp only at hi hv hB1 ho1
  subst hv
  refine CG.to [(0, .slice a1 (l ++ putZ (zs.take i)).length c1), (7, .slice a2 zs.length c2), (8, .int .i64 (zs.length : Int)), (9, .int .i64 (i : Int))] (by (repeat' (first | exact True.intro | exact rfl | refine And.intro ?_ ?_))) ?_
  by_cases hlt : i < zs.length
  · have g1 : (i : Int) < (zs.length : Int) := by omega
    obtain ⟨bz, oz, rfl, hrz⟩ := (hS.kp0 hk1).at hlt
    have hlen : (l ++ putZ (zs.take i)).length ≤ 100000000 := by
      have := putZ_len (zs.take i)
      rw [List.length_append]
      rw [List.length_take] at this
      omega
    have hp := putnum_spec hB1 (un zs[i]) (un_lt _) hlen
    repeat (first|apply CG.seq|apply CG.region|apply SG.nil|apply NG.next|apply CG.skip|apply CG.block|apply CG.ret|apply CG.exit|apply NG.exit_then|refine NG.exit_block rfl ?_|apply NG.normal_block|refine SG.val rfl rfl rfl rfl (by first|((first|apply qmv|apply qas|apply qlc|apply qla|apply qfa|apply qix|apply qls|apply qad|apply qln|apply qcv)<;>(first|exact rfl|assumption|exact Ar.mk (by omega)|exact dct (by first|assumption|omega)|exact dcf (by first|assumption|omega)|exact List.not_mem_nil|apply dc_length|fail))|fail) ?_)
    refine CG.cond_t rfl (by exact rho_of rfl) rfl ?_
    repeat (first|apply CG.seq|apply CG.region|apply SG.nil|apply NG.next|apply CG.skip|apply CG.block|apply CG.ret|apply CG.exit|apply NG.exit_then|refine NG.exit_block rfl ?_|apply NG.normal_block|refine SG.val rfl rfl rfl rfl (by first|((first|apply qmv|apply qas|apply qlc|apply qla|apply qfa|apply qix|apply qls|apply qad|apply qln|apply qcv)<;>(first|exact rfl|assumption|exact Ar.mk (by omega)|exact dct (by first|assumption|omega)|exact dcf (by first|assumption|omega)|exact List.not_mem_nil|apply dc_length|fail))|fail) ?_)
    rw [un_eq]
    refine SG.call rfl rfl rfl (by repeat' (first | exact True.intro | exact rho_of rfl | refine And.intro ?_ ?_)) (hp.mono (fun e w2 hh => ?_))
    obtain ⟨v2, he, ho2, hk2⟩ := hh
    refine ⟨_, he, ?_⟩
    rw [List.append_assoc, ← putZ_snoc zs i hlt] at ho2
    have ho2 := own_mono ho2 hk1.size
    obtain ⟨a3, c3, e3, hB3⟩ := Bs.own ho2
    repeat (first|apply CG.seq|apply CG.region|apply SG.nil|apply NG.next|apply CG.skip|apply CG.block|apply CG.ret|apply CG.exit|apply NG.exit_then|refine NG.exit_block rfl ?_|apply NG.normal_block|refine SG.val rfl rfl rfl rfl (by first|((first|apply qmv|apply qas|apply qlc|apply qla|apply qfa|apply qix|apply qls|apply qad|apply qln|apply qcv)<;>(first|exact rfl|assumption|exact Ar.mk (by omega)|exact dct (by first|assumption|omega)|exact dcf (by first|assumption|omega)|exact List.not_mem_nil|apply dc_length|fail))|fail) ?_)
    exact NG.round (v2, i + 1) (by (repeat' (first | exact True.intro | exact rfl | refine And.intro ?_ ?_))) ⟨by simp only; omega, hk1.trans hk2, ⟨a3, c3, e3, hB3⟩, fun _ => ho2⟩ (by simp only; omega)
  · have g1 : ¬ (i : Int) < (zs.length : Int) := by omega
    have ei : i = zs.length := by omega
    subst ei
    rw [List.take_of_length_le (Nat.le_refl _)] at ho1 ⊢
    repeat (first|apply CG.seq|apply CG.region|apply SG.nil|apply NG.next|apply CG.skip|apply CG.block|apply CG.ret|apply CG.exit|apply NG.exit_then|refine NG.exit_block rfl ?_|apply NG.normal_block|refine SG.val rfl rfl rfl rfl (by first|((first|apply qmv|apply qas|apply qlc|apply qla|apply qfa|apply qix|apply qls|apply qad|apply qln|apply qcv)<;>(first|exact rfl|assumption|exact Ar.mk (by omega)|exact dct (by first|assumption|omega)|exact dcf (by first|assumption|omega)|exact List.not_mem_nil|apply dc_length|fail))|fail) ?_)
    refine CG.cond_f rfl (by exact rho_of rfl) rfl ?_
    repeat (first|apply CG.seq|apply CG.region|apply SG.nil|apply NG.next|apply CG.skip|apply CG.block|apply CG.ret|apply CG.exit|apply NG.exit_then|refine NG.exit_block rfl ?_|apply NG.normal_block|refine SG.val rfl rfl rfl rfl (by first|((first|apply qmv|apply qas|apply qlc|apply qla|apply qfa|apply qix|apply qls|apply qad|apply qln|apply qcv)<;>(first|exact rfl|assumption|exact Ar.mk (by omega)|exact dct (by first|assumption|omega)|exact dcf (by first|assumption|omega)|exact List.not_mem_nil|apply dc_length|fail))|fail) ?_)
    refine ret1 (Or.inl rfl) Try.results50 (by first | exact ResV.tmp rfl | exact ResV.agg rfl rfl (by assumption) (by first | exact dc_length _ | exact nc_length _ | exact rc_length _ _ _ | exact ec_length _ | exact dl_length _ _ _ _ | rfl) | exact ResV.cell rfl rfl (by assumption)) ?_
    exact ⟨_, rfl, ho1 hz, hk1⟩
theorem bsi5 (a b c d e : Int) (w : World) : (Instr.buildSlice 108 5 #[(0, .int .i64 a), (1, .int .i64 b), (2, .int .i64 c), (3, .int .i64 d), (4, .int .i64 e)]).run Try.prog w = .ok (.slice (some ⟨w.heap.size, 0, none⟩) 5 5) { w with heap := w.heap.push (.cells (flt ic [a, b, c, d, e]).toArray 3) } := by kernel_rfl
theorem bsi2 (a b : Int) (w : World) : (Instr.buildSlice 108 2 #[(0, .int .i64 a), (1, .int .i64 b)]).run Try.prog w = .ok (.slice (some ⟨w.heap.size, 0, none⟩) 2 2) { w with heap := w.heap.push (.cells (flt ic [a, b]).toArray 3) } := by kernel_rfl
theorem bsi1 (a : Int) (w : World) : (Instr.buildSlice 108 1 #[(0, .int .i64 a)]).run Try.prog w = .ok (.slice (some ⟨w.heap.size, 0, none⟩) 1 1) { w with heap := w.heap.push (.cells (flt ic [a]).toArray 3) } := by kernel_rfl
set_option maxHeartbeats 16000000 in
theorem digest_spec (o : Ofr) (w : World) : Ret Try.prog 22 #[ov o] w (dv (digO o)) := by
  refine enter1 Try.func22 rfl Try.ntmps22 rfl ?_
  repeat (first|apply CG.seq|apply CG.region|apply SG.nil|apply NG.next|apply CG.skip|apply CG.block|apply CG.ret|apply CG.exit|apply NG.exit_then|refine NG.exit_block rfl ?_|apply NG.normal_block|refine SG.val rfl rfl rfl rfl (by first|((first|apply qmv|apply qas|apply qlc|apply qla|apply qfa|apply qix|apply qls|apply qad|apply qln|apply qcv)<;>(first|exact rfl|assumption|exact Ar.mk (by omega)|exact dct (by first|assumption|omega)|exact dcf (by first|assumption|omega)|exact List.not_mem_nil|apply dc_length|fail))|fail) ?_)
  refine SG.box rfl rfl rfl (by exact rho_of rfl) (fun b1 w1 hk1 hb1 hB1 => ?_)
  have hB1 : Blk w1 b1 (.cells (ec o).toArray 47) := hB1
  refine SG.alloc rfl rfl rfl (fun b2 w2 hk2 hb2 hB2 => ?_)
  have hB2 : Blk w2 b2 (.cells (dc zd).toArray 24) := hB2
  have s1 := hk1.size
  have k2 := hk1.trans hk2
  repeat (first|apply CG.seq|apply CG.region|apply SG.nil|apply NG.next|apply CG.skip|apply CG.block|apply CG.ret|apply CG.exit|apply NG.exit_then|refine NG.exit_block rfl ?_|apply NG.normal_block|refine SG.val rfl rfl rfl rfl (by first|((first|apply qmv|apply qas|apply qlc|apply qla|apply qfa|apply qix|apply qls|apply qad|apply qln|apply qcv)<;>(first|exact rfl|assumption|exact Ar.mk (by omega)|exact dct (by first|assumption|omega)|exact dcf (by first|assumption|omega)|exact List.not_mem_nil|apply dc_length|fail))|fail) ?_)
  refine SG.call rfl rfl rfl (by repeat' (first | exact True.intro | exact rho_of rfl | refine And.intro ?_ ?_)) ((puttext_spec (w := w2) Bs.nil offT (by simp [offT])).mono (fun e w3 hh => ?_))
  obtain ⟨v3, he, ho3, hk3⟩ := hh
  refine ⟨_, he, ?_⟩
  have ho3 : w3.ownsRow w2.heap.size 5 1 v3 (putU 5 ++ offT).length (flt by1 (putU 5 ++ offT)) := ho3
  obtain ⟨a3, c3, rfl, hS3⟩ := Bs.own ho3
  obtain ⟨r0, r1, r2, r3, r4, r5, r6, -⟩ := ec_rows (hB1.kp0 (hk2.trans hk3))
  have l1 := putU_len 5
  have l2 := putU_len (num o.who)
  have l3 := putU_len (num o.rules)
  have l4 : offT.length = 5 := rfl
  have p4 := fun w (h : Bs w a3 c3 (putU 5 ++ offT)) => putnum_spec h (num o.who) (num_lt _) (by rw [List.length_append]; omega)
  repeat (first|apply CG.seq|apply CG.region|apply SG.nil|apply NG.next|apply CG.skip|apply CG.block|apply CG.ret|apply CG.exit|apply NG.exit_then|refine NG.exit_block rfl ?_|apply NG.normal_block|refine SG.val rfl rfl rfl rfl (by first|((first|apply qmv|apply qas|apply qlc|apply qla|apply qfa|apply qix|apply qls|apply qad|apply qln|apply qcv)<;>(first|exact rfl|assumption|exact Ar.mk (by omega)|exact dct (by first|assumption|omega)|exact dcf (by first|assumption|omega)|exact List.not_mem_nil|apply dc_length|fail))|fail) ?_)
  refine SG.ret rfl rfl rfl (by repeat' (first | exact True.intro | exact rho_of rfl | refine And.intro ?_ ?_)) (num_spec o.who w3) (fun w4 hk4 => ?_)
  refine SG.call rfl rfl rfl (by repeat' (first | exact True.intro | exact rho_of rfl | refine And.intro ?_ ?_)) ((p4 w4 (hS3.kp hk4 (by simp))).mono (fun e w5 hh => ?_))
  obtain ⟨v5, he, ho5, hk5⟩ := hh
  refine ⟨_, he, ?_⟩
  obtain ⟨a5, c5, rfl, hS5⟩ := Bs.own ho5
  have p6 := fun w (h : Bs w a5 c5 (putU 5 ++ offT ++ putU (num o.who))) => putnum_spec h (num o.rules) (num_lt _) (by simp only [List.length_append]; omega)
  have k5 := hk4.trans hk5
  have r1 := r1.kp0 k5
  have r2 := r2.kp0 k5
  have r3 := r3.kp0 k5
  have r4 := r4.kp0 k5
  have r5 := r5.kp0 k5
  have r6 := r6.kp0 k5
  repeat (first|apply CG.seq|apply CG.region|apply SG.nil|apply NG.next|apply CG.skip|apply CG.block|apply CG.ret|apply CG.exit|apply NG.exit_then|refine NG.exit_block rfl ?_|apply NG.normal_block|refine SG.val rfl rfl rfl rfl (by first|((first|apply qmv|apply qas|apply qlc|apply qla|apply qfa|apply qix|apply qls|apply qad|apply qln|apply qcv)<;>(first|exact rfl|assumption|exact Ar.mk (by omega)|exact dct (by first|assumption|omega)|exact dcf (by first|assumption|omega)|exact List.not_mem_nil|apply dc_length|fail))|fail) ?_)
  refine SG.ret rfl rfl rfl (by repeat' (first | exact True.intro | exact rho_of rfl | refine And.intro ?_ ?_)) (num_spec o.rules w5) (fun w6 hk6 => ?_)
  refine SG.call rfl rfl rfl (by repeat' (first | exact True.intro | exact rho_of rfl | refine And.intro ?_ ?_)) ((p6 w6 (hS5.kp hk6 (by simp))).mono (fun e w7 hh => ?_))
  obtain ⟨v7, he, ho7, hk7⟩ := hh
  refine ⟨_, he, ?_⟩
  obtain ⟨a7, c7, rfl, hS7⟩ := Bs.own ho7
  have k7 := hk6.trans hk7
  have r2 := r2.kp0 k7
  have r3 := r3.kp0 k7
  have r4 := r4.kp0 k7
  have r5 := r5.kp0 k7
  have r6 := r6.kp0 k7
  repeat (first|apply CG.seq|apply CG.region|apply SG.nil|apply NG.next|apply CG.skip|apply CG.block|apply CG.ret|apply CG.exit|apply NG.exit_then|refine NG.exit_block rfl ?_|apply NG.normal_block|refine SG.val rfl rfl rfl rfl (by first|((first|apply qmv|apply qas|apply qlc|apply qla|apply qfa|apply qix|apply qls|apply qad|apply qln|apply qcv)<;>(first|exact rfl|assumption|exact Ar.mk (by omega)|exact dct (by first|assumption|omega)|exact dcf (by first|assumption|omega)|exact List.not_mem_nil|apply dc_length|fail))|fail) ?_)
  refine SG.buildSlice rfl rfl rfl rfl (bsi5 _ _ _ _ _) (fun b8 w8 hk8 hb8 hB8 => ?_)
  have hS8 : Sl ic 1 w8 (some ⟨b8, 0, none⟩) [o.seats, o.least, o.most, o.window, o.till] := Sl.of_blk (pre := []) (post := []) ic_len (T := 3) hB8
  refine SG.call rfl rfl rfl (by repeat' (first | exact True.intro | exact rho_of rfl | refine And.intro ?_ ?_)) ((put_spec (zs := [o.seats, o.least, o.most, o.window, o.till]) (c2 := 5) (hS7.kp hk8 (by simp)) hS8 (by simp) (by simp) (by simp only [List.length_append]; omega)).mono (fun e w9 hh => ?_))
  obtain ⟨v9, he, ho9, hk9⟩ := hh
  refine ⟨_, he, ?_⟩
  have ho9 : w9.ownsRow w8.heap.size 5 1 v9 (digB o).length (flt by1 (digB o)) := ho9
  obtain ⟨a9, c9, rfl, hS9⟩ := Bs.own ho9
  have hdl : (digB o).length ≤ 1000000000 := by
    have := putZ_len [o.seats, o.least, o.most, o.window, o.till]
    unfold digB
    simp only [List.length_append, List.length_cons, List.length_nil] at this ⊢
    omega
  refine SG.ret rfl rfl rfl (by repeat' (first | exact True.intro | exact rho_of rfl | refine And.intro ?_ ?_)) (of_spec (l := digB o) hS9.sl hS9.some hS9.lt hdl hS9.len) (fun w10 hk10 => ?_)
  have kz : Kp [] w2 w10 := ((((hk3.trans k5).trans k7).trans hk8).trans hk9).trans hk10
  refine SG.setAll (old := dc zd) (l := dc (digO o)) rfl rfl (by exact rho_of rfl) (by exact rho_of rfl) (hB2.kp0 kz) (dc_length _) (dc_length _) (dc_one _) (fun w11 hk11 hB11 => ?_)
  have hrr : Row w11 b2 0 (dc (digO o)) := Row.all hB11 rfl
  repeat (first|apply CG.seq|apply CG.region|apply SG.nil|apply NG.next|apply CG.skip|apply CG.block|apply CG.ret|apply CG.exit|apply NG.exit_then|refine NG.exit_block rfl ?_|apply NG.normal_block|refine SG.val rfl rfl rfl rfl (by first|((first|apply qmv|apply qas|apply qlc|apply qla|apply qfa|apply qix|apply qls|apply qad|apply qln|apply qcv)<;>(first|exact rfl|assumption|exact Ar.mk (by omega)|exact dct (by first|assumption|omega)|exact dcf (by first|assumption|omega)|exact List.not_mem_nil|apply dc_length|fail))|fail) ?_)
  refine ret1 (Or.inl rfl) Try.results22 (by first | exact ResV.tmp rfl | exact ResV.agg rfl rfl (by assumption) (by first | exact dc_length _ | exact nc_length _ | exact rc_length _ _ _ | exact ec_length _ | exact dl_length _ _ _ _ | rfl) | exact ResV.cell rfl rfl (by assumption)) ?_
  exact ⟨rfl, (k2.trans kz).trans_new hk11 (new1 (by omega))⟩
end Go.Proofs.Ytnoipmimddoioaa
/-
  Deals: how they lie in memory; a deal's name.
-/
namespace Go.Proofs.Ytnoipmimddoioaa
open Go.Proofs
set_option linter.unusedVariables false

structure Del where
  rules : Dg
  who : List Dg
  stake : Int
  window : Int
def dl (r : Dg) (s : Value) (st wi : Int) : List Value := dc r ++ [s, .int .i64 st, .int .i64 wi]
theorem dl_length (r : Dg) (s : Value) (st wi : Int) : (dl r s st wi).length = 11 := by simp [dl, dc_length]
theorem dl_one (r : Dg) (a : Option Addr) (n c : Nat) (st wi : Int) : allOne (dl r (.slice a n c) st wi) = true := by simp [dl, allOne, dc, oneB]
def dealV (r : Dg) (s : Value) (st wi : Int) : Value := .agg (dl r s st wi).toArray
theorem dl_rows {w : World} {b : Nat} {T : TypeId} {r : Dg} {s : Value} {st wi : Int} (h : Blk w b (.cells (dl r s st wi).toArray T)) : Row w b 0 (dc r) ∧ Row w b 8 [s] ∧ Row w b 9 [.int .i64 st] ∧ Row w b 10 [.int .i64 wi] ∧ Row w b 0 (dl r s st wi) := by
  have e : ∀ (pre l post : List Value), dl r s st wi = pre ++ (l ++ post) → Row w b pre.length l := fun pre l post he => Row.of h pre post (by simpa using he) rfl
  have l8 : (dc r).length = 8 := dc_length _
  refine ⟨?_, ?_, ?_, ?_, Row.all h (by simp)⟩
  · exact e [] (dc r) _ rfl
  · have := e (dc r) [s] [.int .i64 st, .int .i64 wi] rfl
    rwa [l8] at this
  · have := e (dc r ++ [s]) [.int .i64 st] [.int .i64 wi] (by simp [dl])
    rwa [List.length_append, l8] at this
  · have := e (dc r ++ [s, .int .i64 st]) [.int .i64 wi] [] (by simp [dl])
    rwa [List.length_append, l8] at this
def whoB (l : List Dg) : List UInt8 := l.flatMap (fun d => putU (num d))
def nameB (d : Del) : List UInt8 := putU 4 ++ dealT ++ putU (num d.rules) ++ putU d.who.length ++ whoB d.who ++ putZ [d.stake, d.window]
def nameD (d : Del) : Dg := ofI (nameB d)
theorem whoB_len : ∀ l : List Dg, (whoB l).length ≤ 11 * l.length
  | [] => Nat.le_refl _
  | x :: l => by
    have h1 := putU_len (num x)
    have h2 := whoB_len l
    simp only [whoB, List.flatMap_cons, List.length_append, List.length_cons] at h2 ⊢
    omega
theorem whoB_snoc (l : List Dg) (i : Nat) (h : i < l.length) : whoB (l.take (i + 1)) = whoB (l.take i) ++ putU (num l[i]) := by
  unfold whoB
  rw [List.take_succ_eq_append_getElem h, List.flatMap_append]
  simp only [List.flatMap_cons, List.flatMap_nil, List.append_nil]
theorem nameB_len {d : Del} (h : d.who.length ≤ 1000) : (nameB d).length ≤ 20000 := by
  have h1 := putU_len 4
  have h2 := putU_len (num d.rules)
  have h3 := putU_len d.who.length
  have h4 := whoB_len d.who
  have h5 := putZ_len [d.stake, d.window]
  have h6 : dealT.length = 4 := rfl
  unfold nameB
  simp only [List.length_append, List.length_cons, List.length_nil] at h5 ⊢
  omega

attribute [local irreducible] CG NG SG Vals Der Row Blk MapIs IterAt addI xorI orI andI shlI shrI mulI
set_option maxHeartbeats 16000000 in
theorem name_spec {w : World} (d : Del) {a : Option Addr} {c : Nat} (hS : Sl dc 8 w a d.who) (hl : d.who.length ≤ 1000) : Ret Try.prog 17 #[dealV d.rules (.slice a d.who.length c) d.stake d.window] w (dv (nameD d)) := by
  refine enter1 Try.func17 rfl Try.ntmps17 rfl ?_
  repeat (first|apply CG.seq|apply CG.region|apply SG.nil|apply NG.next|apply CG.skip|apply CG.block|apply CG.ret|apply CG.exit|apply NG.exit_then|refine NG.exit_block rfl ?_|apply NG.normal_block|refine SG.val rfl rfl rfl rfl (by first|((first|apply qmv|apply qas|apply qlc|apply qla|apply qfa|apply qix|apply qls|apply qad|apply qln)<;>(first|exact rfl|assumption|exact Ar.mk (by omega)|exact dct (by first|assumption|omega)|exact dcf (by first|assumption|omega)|exact List.not_mem_nil|apply dc_length|fail))|fail) ?_)
  refine SG.box rfl rfl rfl (by exact rho_of rfl) (fun b1 w1 hk1 hb1 hB1 => ?_)
  have hB1 : Blk w1 b1 (.cells (dl d.rules (.slice a d.who.length c) d.stake d.window).toArray 27) := hB1
  refine SG.alloc rfl rfl rfl (fun b2 w2 hk2 hb2 hB2 => ?_)
  have hB2 : Blk w2 b2 (.cells (dc zd).toArray 24) := hB2
  have s1 := hk1.size
  have l1 := hB1.lt
  have l2 := hB2.lt
  have k2 := hk1.trans hk2
  have hB1 := hB1.kp0 hk2
  have q1 := putU_len 4
  have q2 := putU_len (num d.rules)
  have q3 : dealT.length = 4 := rfl
  have q4 := putU_len d.who.length
  repeat (first|apply CG.seq|apply CG.region|apply SG.nil|apply NG.next|apply CG.skip|apply CG.block|apply CG.ret|apply CG.exit|apply NG.exit_then|refine NG.exit_block rfl ?_|apply NG.normal_block|refine SG.val rfl rfl rfl rfl (by first|((first|apply qmv|apply qas|apply qlc|apply qla|apply qfa|apply qix|apply qls|apply qad|apply qln)<;>(first|exact rfl|assumption|exact Ar.mk (by omega)|exact dct (by first|assumption|omega)|exact dcf (by first|assumption|omega)|exact List.not_mem_nil|apply dc_length|fail))|fail) ?_)
  refine SG.call rfl rfl rfl (by repeat' (first | exact True.intro | exact rho_of rfl | refine And.intro ?_ ?_)) ((puttext_spec (w := w2) Bs.nil dealT (by simp [dealT])).mono (fun e w3 hh => ?_))
  obtain ⟨v3, he, ho3, hk3⟩ := hh
  refine ⟨_, he, ?_⟩
  have ho3 : w3.ownsRow w2.heap.size 5 1 v3 (putU 4 ++ dealT).length (flt by1 (putU 4 ++ dealT)) := ho3
  obtain ⟨a3, c3, rfl, hS3⟩ := Bs.own ho3
  obtain ⟨r0, r1, r2, r3, -⟩ := dl_rows (hB1.kp0 hk3)
  have p4 := fun w (h : Bs w a3 c3 (putU 4 ++ dealT)) => putnum_spec h (num d.rules) (num_lt _) (by rw [List.length_append]; omega)
  repeat (first|apply CG.seq|apply CG.region|apply SG.nil|apply NG.next|apply CG.skip|apply CG.block|apply CG.ret|apply CG.exit|apply NG.exit_then|refine NG.exit_block rfl ?_|apply NG.normal_block|refine SG.val rfl rfl rfl rfl (by first|((first|apply qmv|apply qas|apply qlc|apply qla|apply qfa|apply qix|apply qls|apply qad|apply qln)<;>(first|exact rfl|assumption|exact Ar.mk (by omega)|exact dct (by first|assumption|omega)|exact dcf (by first|assumption|omega)|exact List.not_mem_nil|apply dc_length|fail))|fail) ?_)
  refine SG.ret rfl rfl rfl (by repeat' (first | exact True.intro | exact rho_of rfl | refine And.intro ?_ ?_)) (num_spec d.rules w3) (fun w4 hk4 => ?_)
  refine SG.call rfl rfl rfl (by repeat' (first | exact True.intro | exact rho_of rfl | refine And.intro ?_ ?_)) ((p4 w4 (hS3.kp hk4 (by simp))).mono (fun e w5 hh => ?_))
  obtain ⟨v5, he, ho5, hk5⟩ := hh
  refine ⟨_, he, ?_⟩
  obtain ⟨a5, c5, rfl, hS5⟩ := Bs.own ho5
  have k5 := hk4.trans hk5
  have r1 := r1.kp0 k5
  repeat (first|apply CG.seq|apply CG.region|apply SG.nil|apply NG.next|apply CG.skip|apply CG.block|apply CG.ret|apply CG.exit|apply NG.exit_then|refine NG.exit_block rfl ?_|apply NG.normal_block|refine SG.val rfl rfl rfl rfl (by first|((first|apply qmv|apply qas|apply qlc|apply qla|apply qfa|apply qix|apply qls|apply qad|apply qln)<;>(first|exact rfl|assumption|exact Ar.mk (by omega)|exact dct (by first|assumption|omega)|exact dcf (by first|assumption|omega)|exact List.not_mem_nil|apply dc_length|fail))|fail) ?_)
  refine SG.buildSlice rfl rfl rfl rfl (bsi1 _) (fun b6 w6 hk6 hb6 hB6 => ?_)
  have hS6 : Sl ic 1 w6 (some ⟨b6, 0, none⟩) [(d.who.length : Int)] := Sl.of_blk (pre := []) (post := []) ic_len (T := 3) hB6
  refine SG.call rfl rfl rfl (by repeat' (first | exact True.intro | exact rho_of rfl | refine And.intro ?_ ?_)) ((put_spec (zs := [(d.who.length : Int)]) (c2 := 1) (hS5.kp hk6 (by simp)) hS6 (by simp) (by simp) (by simp only [List.length_append]; omega)).mono (fun e w7 hh => ?_))
  obtain ⟨v7, he, ho7, hk7⟩ := hh
  refine ⟨_, he, ?_⟩
  have ez : putZ [(d.who.length : Int)] = putU d.who.length := by
    simp only [putZ, List.flatMap_cons, List.flatMap_nil, List.append_nil]
    rw [un_nat (by omega)]
  rw [ez] at ho7
  have k7 : Kp [] w2 w7 := ((hk3.trans k5).trans hk6).trans hk7
  have ho7 := own_mono ho7 (show w2.heap.size ≤ w6.heap.size from ((hk3.trans k5).trans hk6).size)
  generalize hX : putU 4 ++ dealT ++ putU (num d.rules) ++ putU d.who.length = X at ho7
  have hXl : X.length ≤ 37 := by rw [← hX]; simp only [List.length_append]; omega
  obtain ⟨r0, r1, r2, r3, -⟩ := dl_rows (hB1.kp0 k7)
  clear hS3 hS5 ho3 ho5 hS6 p4 hk3 hk4 hk5 hk6 hk7 k5
  repeat (first|apply CG.seq|apply CG.region|apply SG.nil|apply NG.next|apply CG.skip|apply CG.block|apply CG.ret|apply CG.exit|apply NG.exit_then|refine NG.exit_block rfl ?_|apply NG.normal_block|refine SG.val rfl rfl rfl rfl (by first|((first|apply qmv|apply qas|apply qlc|apply qla|apply qfa|apply qix|apply qls|apply qad|apply qln)<;>(first|exact rfl|assumption|exact Ar.mk (by omega)|exact dct (by first|assumption|omega)|exact dcf (by first|assumption|omega)|exact List.not_mem_nil|apply dc_length|fail))|fail) ?_)
  refine CG.loop (X := Value × Nat) (fun x => [(1, .pointer (some ⟨b1, 0, none⟩)), (2, .pointer (some ⟨b2, 0, none⟩)), (3, x.1), (19, .slice a d.who.length c), (20, .int .i64 (d.who.length : Int)), (21, .int .i64 (x.2 : Int))])
    (fun x w' => x.2 ≤ d.who.length ∧ Kp [] w2 w' ∧ w'.ownsRow w2.heap.size 5 1 x.1 (X ++ whoB (d.who.take x.2)).length (flt by1 (X ++ whoB (d.who.take x.2)))) (fun x => d.who.length - x.2) (v7, 0) ⟨by simp only; omega, k7, by simpa [whoB] using ho7⟩ (by (repeat' (first | exact True.intro | exact rfl | refine And.intro ?_ ?_))) ?_
  rintro ⟨v8, i⟩ w8 ⟨hi, k8, ho8⟩
  simp only at hi ho8
  refine CG.to [(1, .pointer (some ⟨b1, 0, none⟩)), (2, .pointer (some ⟨b2, 0, none⟩)), (3, v8), (19, .slice a d.who.length c), (20, .int .i64 (d.who.length : Int)), (21, .int .i64 (i : Int))] (by (repeat' (first | exact True.intro | exact rfl | refine And.intro ?_ ?_))) ?_
  clear ho7
  obtain ⟨a8, c8, rfl, hS8⟩ := Bs.own ho8
  have hwl := whoB_len (d.who.take i)
  rw [List.length_take] at hwl
  by_cases hlt : i < d.who.length
  · have g1 : (i : Int) < (d.who.length : Int) := by omega
    obtain ⟨bz, oz, rfl, hrz⟩ := (hS.kp0 (k2.trans k8)).at hlt
    repeat (first|apply CG.seq|apply CG.region|apply SG.nil|apply NG.next|apply CG.skip|apply CG.block|apply CG.ret|apply CG.exit|apply NG.exit_then|refine NG.exit_block rfl ?_|apply NG.normal_block|refine SG.val rfl rfl rfl rfl (by first|((first|apply qmv|apply qas|apply qlc|apply qla|apply qfa|apply qix|apply qls|apply qad|apply qln)<;>(first|exact rfl|assumption|exact Ar.mk (by omega)|exact dct (by first|assumption|omega)|exact dcf (by first|assumption|omega)|exact List.not_mem_nil|apply dc_length|fail))|fail) ?_)
    refine CG.cond_t rfl (by exact rho_of rfl) rfl ?_
    repeat (first|apply CG.seq|apply CG.region|apply SG.nil|apply NG.next|apply CG.skip|apply CG.block|apply CG.ret|apply CG.exit|apply NG.exit_then|refine NG.exit_block rfl ?_|apply NG.normal_block|refine SG.val rfl rfl rfl rfl (by first|((first|apply qmv|apply qas|apply qlc|apply qla|apply qfa|apply qix|apply qls|apply qad|apply qln)<;>(first|exact rfl|assumption|exact Ar.mk (by omega)|exact dct (by first|assumption|omega)|exact dcf (by first|assumption|omega)|exact List.not_mem_nil|apply dc_length|fail))|fail) ?_)
    refine SG.alloc rfl rfl rfl (fun b9 w9 hk9 hb9 hB9 => ?_)
    have hB9 : Blk w9 b9 (.cells (dc zd).toArray 24) := hB9
    refine SG.setAll (old := dc zd) (l := dc d.who[i]) rfl rfl (by exact rho_of rfl) (by exact rho_of rfl) hB9 (dc_length _) (dc_length _) (dc_one _) (fun w10 hk10 hB10 => ?_)
    have hrr : Row w10 b9 0 (dc d.who[i]) := Row.all hB10 rfl
    have k10 : Kp [] w8 w10 := hk9.trans_new hk10 (new1 (by omega))
    have p5 := fun w (h : Bs w a8 c8 (X ++ whoB (d.who.take i))) => putnum_spec h (num d.who[i]) (num_lt _) (by rw [List.length_append]; omega)
    repeat (first|apply CG.seq|apply CG.region|apply SG.nil|apply NG.next|apply CG.skip|apply CG.block|apply CG.ret|apply CG.exit|apply NG.exit_then|refine NG.exit_block rfl ?_|apply NG.normal_block|refine SG.val rfl rfl rfl rfl (by first|((first|apply qmv|apply qas|apply qlc|apply qla|apply qfa|apply qix|apply qls|apply qad|apply qln)<;>(first|exact rfl|assumption|exact Ar.mk (by omega)|exact dct (by first|assumption|omega)|exact dcf (by first|assumption|omega)|exact List.not_mem_nil|apply dc_length|fail))|fail) ?_)
    refine SG.ret rfl rfl rfl (by repeat' (first | exact True.intro | exact rho_of rfl | refine And.intro ?_ ?_)) (num_spec d.who[i] w10) (fun w11 hk11 => ?_)
    refine SG.call rfl rfl rfl (by repeat' (first | exact True.intro | exact rho_of rfl | refine And.intro ?_ ?_)) ((p5 w11 (hS8.kp (k10.trans hk11) (by simp))).mono (fun e w12 hh => ?_))
    obtain ⟨v12, he, ho12, hk12⟩ := hh
    refine ⟨_, he, ?_⟩
    have k11 := (k8.trans k10).trans hk11
    have ho12 := own_mono ho12 k11.size
    rw [List.append_assoc, ← whoB_snoc d.who i hlt] at ho12
    repeat (first|apply CG.seq|apply CG.region|apply SG.nil|apply NG.next|apply CG.skip|apply CG.block|apply CG.ret|apply CG.exit|apply NG.exit_then|refine NG.exit_block rfl ?_|apply NG.normal_block|refine SG.val rfl rfl rfl rfl (by first|((first|apply qmv|apply qas|apply qlc|apply qla|apply qfa|apply qix|apply qls|apply qad|apply qln)<;>(first|exact rfl|assumption|exact Ar.mk (by omega)|exact dct (by first|assumption|omega)|exact dcf (by first|assumption|omega)|exact List.not_mem_nil|apply dc_length|fail))|fail) ?_)
    exact NG.round (v12, i + 1) (by (repeat' (first | exact True.intro | exact rfl | refine And.intro ?_ ?_))) ⟨by simp only; omega, k11.trans hk12, ho12⟩ (by simp only; omega)
  · have g1 : ¬ (i : Int) < (d.who.length : Int) := by omega
    have ei : i = d.who.length := by omega
    subst ei
    rw [List.take_of_length_le (Nat.le_refl _)] at ho8 hS8 ⊢
    obtain ⟨r0, r1, r2, r3, -⟩ := dl_rows (hB1.kp0 k8)
    repeat (first|apply CG.seq|apply CG.region|apply SG.nil|apply NG.next|apply CG.skip|apply CG.block|apply CG.ret|apply CG.exit|apply NG.exit_then|refine NG.exit_block rfl ?_|apply NG.normal_block|refine SG.val rfl rfl rfl rfl (by first|((first|apply qmv|apply qas|apply qlc|apply qla|apply qfa|apply qix|apply qls|apply qad|apply qln)<;>(first|exact rfl|assumption|exact Ar.mk (by omega)|exact dct (by first|assumption|omega)|exact dcf (by first|assumption|omega)|exact List.not_mem_nil|apply dc_length|fail))|fail) ?_)
    refine CG.cond_f rfl (by exact rho_of rfl) rfl ?_
    repeat (first|apply CG.seq|apply CG.region|apply SG.nil|apply NG.next|apply CG.skip|apply CG.block|apply CG.ret|apply CG.exit|apply NG.exit_then|refine NG.exit_block rfl ?_|apply NG.normal_block|refine SG.val rfl rfl rfl rfl (by first|((first|apply qmv|apply qas|apply qlc|apply qla|apply qfa|apply qix|apply qls|apply qad|apply qln)<;>(first|exact rfl|assumption|exact Ar.mk (by omega)|exact dct (by first|assumption|omega)|exact dcf (by first|assumption|omega)|exact List.not_mem_nil|apply dc_length|fail))|fail) ?_)
    refine SG.buildSlice rfl rfl rfl rfl (bsi2 _ _) (fun b9 w9 hk9 hb9 hB9 => ?_)
    have hS9 : Sl ic 1 w9 (some ⟨b9, 0, none⟩) [d.stake, d.window] := Sl.of_blk (pre := []) (post := []) ic_len (T := 3) hB9
    refine SG.call rfl rfl rfl (by repeat' (first | exact True.intro | exact rho_of rfl | refine And.intro ?_ ?_)) ((put_spec (zs := [d.stake, d.window]) (c2 := 2) (hS8.kp hk9 (by simp)) hS9 (by simp) (by simp) (by have hw := whoB_len d.who; simp only [List.length_append]; omega)).mono (fun e w10 hh => ?_))
    obtain ⟨v10, he, ho10, hk10⟩ := hh
    refine ⟨_, he, ?_⟩
    have en : X ++ whoB d.who ++ putZ [d.stake, d.window] = nameB d := by rw [← hX]; rfl
    rw [en] at ho10
    obtain ⟨a10, c10, rfl, hS10⟩ := Bs.own ho10
    have hnl := nameB_len hl
    refine SG.ret rfl rfl rfl (by repeat' (first | exact True.intro | exact rho_of rfl | refine And.intro ?_ ?_)) (of_spec (l := nameB d) hS10.sl hS10.some hS10.lt (by omega) hS10.len) (fun w11 hk11 => ?_)
    have kz : Kp [] w2 w11 := ((k8.trans hk9).trans hk10).trans hk11
    refine SG.setAll (old := dc zd) (l := dc (nameD d)) rfl rfl (by exact rho_of rfl) (by exact rho_of rfl) (hB2.kp0 kz) (dc_length _) (dc_length _) (dc_one _) (fun w12 hk12 hB12 => ?_)
    have hrr : Row w12 b2 0 (dc (nameD d)) := Row.all hB12 rfl
    repeat (first|apply CG.seq|apply CG.region|apply SG.nil|apply NG.next|apply CG.skip|apply CG.block|apply CG.ret|apply CG.exit|apply NG.exit_then|refine NG.exit_block rfl ?_|apply NG.normal_block|refine SG.val rfl rfl rfl rfl (by first|((first|apply qmv|apply qas|apply qlc|apply qla|apply qfa|apply qix|apply qls|apply qad|apply qln)<;>(first|exact rfl|assumption|exact Ar.mk (by omega)|exact dct (by first|assumption|omega)|exact dcf (by first|assumption|omega)|exact List.not_mem_nil|apply dc_length|fail))|fail) ?_)
    refine ret1 (Or.inl rfl) Try.results17 (by first | exact ResV.tmp rfl | exact ResV.agg rfl rfl (by assumption) (by first | exact dc_length _ | exact nc_length _ | exact rc_length _ _ _ | exact ec_length _ | exact dl_length _ _ _ _ | rfl) | exact ResV.cell rfl rfl (by assumption)) ?_
    exact ⟨rfl, (k2.trans kz).trans_new hk12 (new1 (by omega))⟩
end Go.Proofs.Ytnoipmimddoioaa
/-
  slices.SortFunc, laid at this seat; printed by a program.
-/
namespace Go.Proofs.Ytnoipmimddoioaa
open Go.Proofs Go.Shelf
set_option linter.unusedVariables false

def sortRen : Go.Shelf.Ren := ⟨fun | 6 => 37 | 15 => 69 | 14 => 68 | 28 => 94 | 29 => 95 | 20 => 86 | 21 => 87 | 22 => 88 | 23 => 89 | 24 => 90 | 25 => 91 | 26 => 92 | 27 => 93 | 46 => 103 | 47 => 104 | 48 => 105 | 49 => 106 | 50 => 107 | 57 => 110 | n => n, fun | 22 => 25 | 24 => 24 | 25 => 76 | 3 => 3 | 39 => 107 | 0 => 0 | 53 => 133 | 55 => 81 | 4 => 4 | 46 => 126 | 45 => 125 | 50 => 130 | 5 => 5 | 9 => 9 | 66 => 140 | 70 => 144 | 76 => 148 | 77 => 149 | n => n, fun n => n⟩
theorem sortL : SlLaysF0.n6 Try.prog sortRen where
  mixed := by kernel_rfl
  f6 := ⟨"slices.SortFunc[[]baize/hash.Digest,baize/hash.Digest]", by decide, Try.func37.trans (congrArg some (by kernel_rfl))⟩
  f14 := ⟨"slices.pdqsortCmpFunc[baize/hash.Digest]", by decide, Try.func68.trans (congrArg some (by kernel_rfl))⟩
  f15 := Try.func69.trans (congrArg some (by kernel_rfl))
  f20 := ⟨"slices.insertionSortCmpFunc[baize/hash.Digest]", by decide, Try.func86.trans (congrArg some (by kernel_rfl))⟩
  f21 := ⟨"slices.heapSortCmpFunc[baize/hash.Digest]", by decide, Try.func87.trans (congrArg some (by kernel_rfl))⟩
  f22 := ⟨"slices.breakPatternsCmpFunc[baize/hash.Digest]", by decide, Try.func88.trans (congrArg some (by kernel_rfl))⟩
  f23 := ⟨"slices.choosePivotCmpFunc[baize/hash.Digest]", by decide, Try.func89.trans (congrArg some (by kernel_rfl))⟩
  f24 := ⟨"slices.reverseRangeCmpFunc[baize/hash.Digest]", by decide, Try.func90.trans (congrArg some (by kernel_rfl))⟩
  f25 := ⟨"slices.partialInsertionSortCmpFunc[baize/hash.Digest]", by decide, Try.func91.trans (congrArg some (by kernel_rfl))⟩
  f26 := ⟨"slices.partitionEqualCmpFunc[baize/hash.Digest]", by decide, Try.func92.trans (congrArg some (by kernel_rfl))⟩
  f27 := ⟨"slices.partitionCmpFunc[baize/hash.Digest]", by decide, Try.func93.trans (congrArg some (by kernel_rfl))⟩
  f28 := Try.func94.trans (congrArg some (by kernel_rfl))
  f29 := Try.func95.trans (congrArg some (by kernel_rfl))
  f46 := ⟨"slices.siftDownCmpFunc[baize/hash.Digest]", by decide, Try.func103.trans (congrArg some (by kernel_rfl))⟩
  f47 := Try.func104.trans (congrArg some (by kernel_rfl))
  f48 := Try.func105.trans (congrArg some (by kernel_rfl))
  f49 := ⟨"slices.medianAdjacentCmpFunc[baize/hash.Digest]", by decide, Try.func106.trans (congrArg some (by kernel_rfl))⟩
  f50 := ⟨"slices.medianCmpFunc[baize/hash.Digest]", by decide, Try.func107.trans (congrArg some (by kernel_rfl))⟩
  f57 := ⟨"slices.order2CmpFunc[baize/hash.Digest]", by decide, Try.func110.trans (congrArg some (by kernel_rfl))⟩
  t0 := Try.underlying0
  a0 := Try.isAgg0
  z0 := Try.sizeOf0
  v0 := Try.zeroValue0
  t3 := Try.underlying3
  a3 := Try.isAgg3
  z3 := Try.sizeOf3
  v3 := Try.zeroValue3
  t4 := Try.underlying4
  a4 := Try.isAgg4
  z4 := Try.sizeOf4
  v4 := Try.zeroValue4
  t5 := Try.underlying5
  a5 := Try.isAgg5
  z5 := Try.sizeOf5
  v5 := Try.zeroValue5
  t9 := Try.underlying9
  a9 := Try.isAgg9
  z9 := Try.sizeOf9
  v9 := Try.zeroValue9
  t22 := Try.underlying25
  a22 := Try.isAgg25
  z22 := Try.sizeOf25
  v22 := Try.zeroValue25
  t25 := Try.underlying76
  a25 := Try.isAgg76
  z25 := Try.sizeOf76
  v25 := Try.zeroValue76
  t39 := Try.underlying107
  a39 := Try.isAgg107
  z39 := Try.sizeOf107
  v39 := Try.zeroValue107
  t45 := Try.underlying125
  a45 := Try.isAgg125
  z45 := Try.sizeOf125
  v45 := Try.zeroValue125
  t46 := Try.underlying126
  a46 := Try.isAgg126
  z46 := Try.sizeOf126
  v46 := Try.zeroValue126
  t50 := Try.underlying130
  a50 := Try.isAgg130
  z50 := Try.sizeOf130
  v50 := Try.zeroValue130
  t53 := Try.underlying133
  a53 := Try.isAgg133
  z53 := Try.sizeOf133
  v53 := Try.zeroValue133
  t55 := Try.underlying81
  a55 := Try.isAgg81
  z55 := Try.sizeOf81
  v55 := Try.zeroValue81
  t66 := Try.underlying140
  a66 := Try.isAgg140
  z66 := Try.sizeOf140
  v66 := Try.zeroValue140
  t70 := Try.underlying144
  a70 := Try.isAgg144
  z70 := Try.sizeOf144
  v70 := Try.zeroValue144
  t76 := Try.underlying148
  a76 := Try.isAgg148
  z76 := Try.sizeOf148
  v76 := Try.zeroValue148
  t77 := Try.underlying149
  a77 := Try.isAgg149
  z77 := Try.sizeOf149
  v77 := Try.zeroValue149
end Go.Proofs.Ytnoipmimddoioaa
/-
  slices.SortFunc on an owned row, by the kit's contract.
-/
namespace Go.Proofs.Ytnoipmimddoioaa
open Go.Proofs Go.Shelf Go.Sort
set_option linter.unusedVariables false

theorem Kp.grown {w w' : World} (h : Kp [] w w') : ∃ q os', w' = grow (w.drewN q) os' := by
  refine ⟨w'.drawn - w.drawn, w'.heap.extract w.heap.size w'.heap.size, ?_⟩
  obtain ⟨h1, h2, h3, h4, h5, h6, h7⟩ := h
  obtain ⟨hp, tp, dr, os, out⟩ := w
  obtain ⟨hp', tp', dr', os', out'⟩ := w'
  simp only at h1 h2 h3 h4 h5 h7
  subst h3
  subst h4
  subst h5
  have e1 : hp' = hp ++ hp'.extract hp.size hp'.size := by
    apply Array.ext_getElem?
    intro i
    rw [Array.getElem?_append]
    by_cases hi : i < hp.size
    · rw [if_pos hi]
      exact h2 i hi (by simp)
    · rw [if_neg hi, Array.getElem?_extract]
      by_cases hi2 : i < hp'.size
      · rw [if_pos (by omega), show hp.size + (i - hp.size) = i by omega]
      · rw [if_neg (by omega), Array.getElem?_eq_none (by omega)]
  have e2 : dr' = dr + (dr' - dr) := by omega
  simp only [grow, World.drewN, World.mk.injEq, true_and, and_true]
  exact ⟨e1, e2⟩
theorem Kp.grow (w : World) (os : Array Obj) : Kp [] w (grow w os) := by
  refine ⟨by simp, fun b hb _ => ?_, rfl, rfl, rfl, fun a ha => ?_, Nat.le_refl _⟩
  · show (w.heap ++ os)[b]? = _
    rw [Array.getElem?_append, if_pos hb]
  · refine frozen_same ?_
    show (w.heap ++ os)[a.block]? = _
    rw [Array.getElem?_append, if_pos ha]
theorem Kp.ahead (w : World) (n : Nat) : Kp [] w (Go.Sort.ahead w n) := ⟨Nat.le_refl _, fun _ _ _ => rfl, rfl, rfl, rfl, fun _ _ => rfl, Nat.le_add_right _ _⟩
theorem mapBlock_set {w : World} {g : Nat} {cs : Array Value} {T : TypeId} {fz : Nat × Nat} (h : Blk w g (.cells cs T fz)) (f : Array Value → Array Value) : mapBlock w g f = { w with heap := w.heap.setIfInBounds g (.cells (f cs) T fz) } := by
  unfold mapBlock
  congr 1
  apply Array.ext_getElem?
  intro i
  rw [Array.getElem?_modify, Array.getElem?_setIfInBounds]
  by_cases e : g = i
  · subst e
    rw [if_pos rfl, if_pos rfl, if_pos h.lt]
    have h' : w.heap[g]? = some (.cells cs T fz) := h
    rw [h']
    rfl
  · rw [if_neg e, if_neg e]

section
variable {α : Type} [Inhabited α] {enc : α → List Value} {k : Nat}
theorem flt_get (hk0 : 0 < k) (hk : ∀ x, (enc x).length = k) : ∀ (l : List α) (t : Nat), t < l.length * k → (flt enc l)[t]? = some ((enc l.toArray[t / k]!)[t % k]!) := by
  intro l
  induction l with
  | nil => intro t h; simp at h
  | cons x l ih =>
    intro t h
    have e : flt enc (x :: l) = enc x ++ flt enc l := by simp [flt]
    rw [e]
    by_cases ht : t < k
    · rw [List.getElem?_append_left (by rw [hk]; exact ht), Nat.div_eq_of_lt ht, Nat.mod_eq_of_lt ht]
      have : t < (enc x).length := by rw [hk]; exact ht
      simp [this]
    · rw [List.getElem?_append_right (by rw [hk]; omega), hk]
      have h' : t - k < l.length * k := by
        simp only [List.length_cons, Nat.add_mul, Nat.one_mul] at h
        omega
      rw [ih (t - k) h']
      have d1 : t / k = (t - k) / k + 1 := by
        rw [Nat.div_eq_sub_div hk0 (by omega)]
      have d2 : t % k = (t - k) % k := by rw [Nat.mod_eq_sub_mod (by omega)]
      rw [d1, d2]
      simp
theorem flatK_toList (hk0 : 0 < k) (hk : ∀ x, (enc x).length = k) (l : List α) : (flatK enc k l.toArray).toList = flt enc l := by
  apply List.ext_getElem?
  intro t
  by_cases ht : t < l.length * k
  · rw [flt_get hk0 hk l t ht]
    have hs : t < (flatK enc k l.toArray).size := by simpa using ht
    have := get_flatK enc k l.toArray t (by simpa using ht)
    rw [getElem!_pos _ t hs] at this
    rw [Array.getElem?_toList, Array.getElem?_eq_getElem hs, this]
  · rw [List.getElem?_eq_none (by simpa using Nat.le_of_not_lt ht), List.getElem?_eq_none (by rw [flt_length hk]; omega)]

theorem sort_own {P : Program} {ρ : Ren} (L : SlLaysF0.n6 P ρ) (aE : ∀ w, (isAgg (ρ.t 24)).run P w = .ok true w) (zE : ∀ w, (Go.sizeOf (ρ.t 24)).run P w = .ok k w) (hk0 : 0 < k) (hk : ∀ x, (enc x).length = k) (hone : ∀ x, allOne (enc x) = true)
    (cf : α → α → Int) (hO : SWO (ltOf cf)) (g : Nat) (eg : ∀ args w, (callFunc g args).run P w = .ok (.enter g args) w)
    (hcmp : ∀ x y W, Calls P g #[.agg (enc x).toArray, .agg (enc y).toArray] W (fun e w' => e = .returned (.int .i64 (cf x y)) ∧ Kp [] W w'))
    {w : World} {base : Nat} {T : TypeId} {v : Value} {l : List α} (ho : w.ownsRow base T k v l.length (flt enc l)) (hsz : l.length < 4611686018427387904) :
    Calls P (ρ.f 6) #[v, .func (.func g) #[] #[]] w (fun e w' => e = .returned (.tuple #[]) ∧ Kp (ownB v) w w' ∧ ∃ l', l'.Perm l ∧ l'.Pairwise (fun x y => ltOf cf y x = false) ∧ w'.ownsRow base T k v l.length (flt enc l')) := by
  have h1 : ∀ x, ∀ v ∈ enc x, v.oneCell' = true := fun x u hu => by rw [one_iff]; exact List.all_eq_true.1 (hone x) u hu
  have ho' := ho
  obtain ⟨hlen, ⟨rfl, h0⟩ | ⟨b, cap, cur, rfl, hb, hh, hc1, hc2, hc3, hc4⟩⟩ := ho
  · have hl : l = [] := by cases l with
      | nil => rfl
      | cons x l => simp at h0
    subst hl
    exact (AnyF.slices_SortFunc_none L none 0 _ w).mono (fun e w' ⟨he, hw⟩ => ⟨he, by rw [hw]; exact Kp.refl _ _, [], List.Perm.refl _, List.Pairwise.nil, by rw [hw]; exact ho'⟩)
  have hB : Blk w b (.cells cur T (0, 0)) := hh
  have hcur : ∀ t, t < l.length * k → cur[t]? = some ((enc l.toArray[t / k]!)[t % k]!) := fun t ht => by
    rw [← flt_get hk0 hk l t ht, ← hc4, List.getElem?_take_of_lt ht, Array.getElem?_toList]
  have hcell : ∀ (d : Array α), True := fun _ => trivial
  have hH : HoldsK enc k w b 0 l.toArray := fun j hj => by
    have hj' : j < l.length * k := by simpa using hj
    refine ⟨?_, frozen_soft (o := .cells cur T (0, 0)) hh rfl⟩
    unfold World.cell?
    simp only [hh, Nat.zero_add]
    rw [get_flatK enc k l.toArray j (by simpa using hj')]
    simpa using hcur j hj'
  have hcl : CmpLays P g #[] enc k cf b 0 l.toArray.size w := fun m os dk hdk x y => (hcmp x y _).mono (fun e w' ⟨he, hw⟩ => ⟨he, hw.grown⟩)
  have hc := AnyQ.slices_SortFunc L k aE zE enc hk h1 cf hO g #[] b 0 cap l.toArray w eg hcl hH hB.lt (by simpa using hsz)
  refine (show Calls P (ρ.f 6) #[.slice (some ⟨b, 0, none⟩) l.length cap, .func (.func g) #[] #[]] w _ from hc).mono (fun e w' hh' => ?_)
  obtain ⟨he, d', n, os, ⟨hp1, hp2, hp3⟩, hs, rfl⟩ := hh'
  have hd' : d'.size = l.length := by simpa using hp1
  have hperm : d'.toList.Perm l := by
    have e1 : (d'.extract 0 l.toArray.size).toList = d'.toList := by
      have : l.toArray.size = d'.size := hp1.symm
      rw [this]
      simp
    have e2 : (l.toArray.extract 0 l.toArray.size).toList = l := by simp
    rw [e1, e2] at hp3
    exact hp3
  have hBa : Blk (Go.Sort.ahead w n) b (.cells cur T (0, 0)) := hh
  have hset : putRowK enc k (Go.Sort.ahead w n) b 0 d' = { Go.Sort.ahead w n with heap := (Go.Sort.ahead w n).heap.setIfInBounds b (.cells (putCells id 0 (flatK enc k d') cur) T (0, 0)) } := mapBlock_set hBa _
  have hk1 : Kp [b] (Go.Sort.ahead w n) (putRowK enc k (Go.Sort.ahead w n) b 0 d') := by
    rw [hset]
    exact Kp.set _ hBa rfl rfl
  refine ⟨he, ?_, d'.toList, hperm, ?_, ?_⟩
  · show Kp [b] w _
    exact ((Kp.ahead w n).any.trans hk1).trans (Kp.grow _ _).any
  · rw [List.pairwise_iff_getElem]
    intro i j hi hj hij
    have := hs i j (Nat.zero_le _) hij (by simp at hj ⊢; omega)
    rw [getElem!_pos d' i (by simpa using hi), getElem!_pos d' j (by simpa using hj)] at this
    simpa using this
  · have hlist : d'.toList.length = l.length := by simpa using hd'
    refine ⟨by rw [flt_length hk, hlist], Or.inr ⟨b, cap, putCells id 0 (flatK enc k d') cur, rfl, hb, ?_, hc1, hc2, by simp [putCells, hc3], ?_⟩⟩
    · have : Blk (putRowK enc k (Go.Sort.ahead w n) b 0 d') b (.cells (putCells id 0 (flatK enc k d') cur) T (0, 0)) := by
        rw [hset]
        show ((Go.Sort.ahead w n).heap.setIfInBounds b _)[b]? = _
        rw [Array.getElem?_setIfInBounds, if_pos rfl, if_pos hBa.lt]
      exact this.kp0 (Kp.grow _ _)
    · have hcs : l.length * k ≤ cur.size := by rw [hc3]; exact Nat.mul_le_mul_right k hc1
      rw [← flatK_toList hk0 hk d'.toList]
      apply List.ext_getElem?
      intro t
      by_cases ht : t < l.length * k
      · have htc : t < cur.size := by omega
        have htf : t < (flatK enc k d').size := by simp [hd']; exact ht
        rw [List.getElem?_take_of_lt ht, Array.getElem?_toList, Array.getElem?_toList]
        simp only [putCells, Array.getElem?_mapIdx, Array.getElem?_eq_getElem htc, Option.map_some, Nat.zero_le, true_and, Nat.zero_add, Nat.sub_zero, id_eq]
        rw [if_pos htf, getElem!_pos _ t htf, Array.toArray_toList, Array.getElem?_eq_getElem htf]
      · rw [List.getElem?_eq_none (by simp; omega), List.getElem?_eq_none (by simp [hd']; omega)]
end
end Go.Proofs.Ytnoipmimddoioaa
/-
  Function values: made, with what they hold; called.
-/
namespace Go.Proofs.Ytnoipmimddoioaa
set_option linter.unusedVariables false
section
variable {P : Program} {n : Nat} {Q : Exit → Act → World → Prop} {L : Env} {w w0 : World} {ops rest : List Oper} {ty : TypeId} {pos : String} {af : Array Edge} {g : Option (Nat × Bool)} {S : List Nat} {F : World → Prop}
/-- A function value. -/
def fnv (f : FuncId) (caps : List Value) : Value := .func (.func f) #[] caps.toArray
theorem ro_map : ∀ {cs : List Operand} {vs : List Value}, cs.map (ro L) = vs.map some → cs.map (rho L) = vs
  | [], vs, h => by cases vs <;> simp at h ⊢
  | x :: cs, [], h => by simp at h
  | x :: cs, v :: vs, h => by
    simp only [List.map_cons, List.cons.injEq] at h ⊢
    exact ⟨rho_of h.1, ro_map h.2⟩
theorem qmf {d : Option Nat} {f : FuncId} {cs : List Operand} {vs : List Value} (h : cs.map (ro L) = vs.map some) : Vals P S w0 F L ⟨d, .makeFunc (.func f) #[] cs.toArray, ty, pos, af, g⟩ (fnv f vs) := fun w _ _ => by
  have e : cs.map (rho L) = vs := ro_map h
  simp [execOp, Instr.makeFunc, fnv, e]
theorem run_callV {f : FuncId} [Fn : Fnc P f] {x : Operand} {args : List Operand} {vs caps : List Value} {tys : Array TypeId} {d : Option Nat} (hf : rho L x = fnv f caps) (he : Evs L args vs) :
    (execOp (rho L) ⟨d, .call ⟨.value x, args.toArray, tys⟩, ty, pos, af, g⟩).run P w = .ok (.enter f (vs ++ caps).toArray) w := by
  simp only [execOp, resolve, hf, fnv, Deferred.ofValue, he.arr]
  simp [invoke, Fn.run]
/-- A call of a function value in text order. -/
theorem SG.callV {d : Nat} {f : FuncId} [Fn : Fnc P f] {x : Operand} {args : List Operand} {vs caps : List Value} {tys : Array TypeId} (hd : Nat.blt d n = true) (hw : want ops L ⟨some d, .call ⟨.value x, args.toArray, tys⟩, ty, pos, af, g⟩ = some true) (hk : (Op.call ⟨.value x, args.toArray, tys⟩).operands.toList.all (known L) = true)
    (hf : rho L x = fnv f caps) (he : Evs L args vs) (hc : Calls P f (vs ++ caps).toArray w (fun e w' => ∃ v, e = .returned v ∧ SG P n ops Q rest ((d, v) :: L) w')) : SG P n ops Q (⟨some d, .call ⟨.value x, args.toArray, tys⟩, ty, pos, af, g⟩ :: rest) L w := by
  refine SG.op (by simpa using hd) rfl hw hk ?_
  unfold OpRun
  rw [run_callV (Fn := Fn) hf he]
  exact hc
theorem SG.retVC {d : Nat} {f : FuncId} [Fn : Fnc P f] {x : Operand} {args : List Operand} {vs caps : List Value} {tys : Array TypeId} {v : Value} (hd : Nat.blt d n = true) (hw : want ops L ⟨some d, .call ⟨.value x, args.toArray, tys⟩, ty, pos, af, g⟩ = some true) (hk : (Op.call ⟨.value x, args.toArray, tys⟩).operands.toList.all (known L) = true)
    (hf : rho L x = fnv f caps) (he : Evs L args vs) (hc : Ret P f (vs ++ caps).toArray w v) (h : ∀ w', Kp [] w w' → SG P n ops Q rest ((d, v) :: L) w') : SG P n ops Q (⟨some d, .call ⟨.value x, args.toArray, tys⟩, ty, pos, af, g⟩ :: rest) L w :=
  SG.callV (Fn := Fn) hd hw hk hf he (hc.mono (fun e w' ⟨h1, h2⟩ => ⟨v, h1, h w' h2⟩))
end
end Go.Proofs.Ytnoipmimddoioaa
/-
  slices.SortFunc on an owned row, by a function value that holds something.
-/
namespace Go.Proofs.Ytnoipmimddoioaa
open Go.Proofs Go.Shelf Go.Sort
set_option linter.unusedVariables false
section
variable {α : Type} [Inhabited α] {enc : α → List Value} {k : Nat}
theorem sort_ownC {P : Program} {ρ : Ren} (L : SlLaysF0.n6 P ρ) (aE : ∀ w, (isAgg (ρ.t 24)).run P w = .ok true w) (zE : ∀ w, (Go.sizeOf (ρ.t 24)).run P w = .ok k w) (hk0 : 0 < k) (hk : ∀ x, (enc x).length = k) (hone : ∀ x, allOne (enc x) = true)
    (cf : α → α → Int) (hO : SWO (ltOf cf)) (g : Nat) (eg : ∀ args w, (callFunc g args).run P w = .ok (.enter g args) w)
    (cb : List Value) {w : World} {base : Nat} {T : TypeId} {v : Value} {l : List α} (ho : w.ownsRow base T k v l.length (flt enc l)) (hsz : l.length < 4611686018427387904)
    (hcmp : ∀ x y W, Kp (ownB v) w W → Calls P g (#[.agg (enc x).toArray, .agg (enc y).toArray] ++ cb.toArray) W (fun e w' => e = .returned (.int .i64 (cf x y)) ∧ Kp [] W w')) :
    Calls P (ρ.f 6) #[v, fnv g cb] w (fun e w' => e = .returned (.tuple #[]) ∧ Kp (ownB v) w w' ∧ ∃ l', l'.Perm l ∧ l'.Pairwise (fun x y => ltOf cf y x = false) ∧ w'.ownsRow base T k v l.length (flt enc l')) := by
  have h1 : ∀ x, ∀ v ∈ enc x, v.oneCell' = true := fun x u hu => by rw [one_iff]; exact List.all_eq_true.1 (hone x) u hu
  have ho' := ho
  obtain ⟨hlen, ⟨rfl, h0⟩ | ⟨b, cap, cur, rfl, hb, hh, hc1, hc2, hc3, hc4⟩⟩ := ho
  · have hl : l = [] := by cases l with
      | nil => rfl
      | cons x l => simp at h0
    subst hl
    exact (AnyF.slices_SortFunc_none L none 0 _ w).mono (fun e w' ⟨he, hw⟩ => ⟨he, by rw [hw]; exact Kp.refl _ _, [], List.Perm.refl _, List.Pairwise.nil, by rw [hw]; exact ho'⟩)
  have hB : Blk w b (.cells cur T (0, 0)) := hh
  have hcur : ∀ t, t < l.length * k → cur[t]? = some ((enc l.toArray[t / k]!)[t % k]!) := fun t ht => by
    rw [← flt_get hk0 hk l t ht, ← hc4, List.getElem?_take_of_lt ht, Array.getElem?_toList]
  have hcell : ∀ (d : Array α), True := fun _ => trivial
  have hH : HoldsK enc k w b 0 l.toArray := fun j hj => by
    have hj' : j < l.length * k := by simpa using hj
    refine ⟨?_, frozen_soft (o := .cells cur T (0, 0)) hh rfl⟩
    unfold World.cell?
    simp only [hh, Nat.zero_add]
    rw [get_flatK enc k l.toArray j (by simpa using hj')]
    simpa using hcur j hj'
  have hkw : ∀ (m : Nat) (os : Array Obj) (dk : Array α), Kp [b] w (sortWorldK enc k w b 0 m dk os) := fun m os dk => by
    have hBa : Blk (Go.Sort.ahead w m) b (.cells cur T (0, 0)) := hh
    have hset : putRowK enc k (Go.Sort.ahead w m) b 0 dk = { Go.Sort.ahead w m with heap := (Go.Sort.ahead w m).heap.setIfInBounds b (.cells (putCells id 0 (flatK enc k dk) cur) T (0, 0)) } := mapBlock_set hBa _
    have hk1 : Kp [b] (Go.Sort.ahead w m) (putRowK enc k (Go.Sort.ahead w m) b 0 dk) := by
      rw [hset]
      exact Kp.set _ hBa rfl rfl
    exact ((Kp.ahead w m).any.trans hk1).trans (Kp.grow _ _).any
  have hcl : CmpLays P g cb.toArray enc k cf b 0 l.toArray.size w := fun m os dk hdk x y => (hcmp x y _ (hkw m os dk)).mono (fun e w' ⟨he, hw⟩ => ⟨he, hw.grown⟩)
  have hc := AnyQ.slices_SortFunc L k aE zE enc hk h1 cf hO g cb.toArray b 0 cap l.toArray w eg hcl hH hB.lt (by simpa using hsz)
  refine (show Calls P (ρ.f 6) #[.slice (some ⟨b, 0, none⟩) l.length cap, fnv g cb] w _ from hc).mono (fun e w' hh' => ?_)
  obtain ⟨he, d', n, os, ⟨hp1, hp2, hp3⟩, hs, rfl⟩ := hh'
  have hd' : d'.size = l.length := by simpa using hp1
  have hperm : d'.toList.Perm l := by
    have e1 : (d'.extract 0 l.toArray.size).toList = d'.toList := by
      have : l.toArray.size = d'.size := hp1.symm
      rw [this]
      simp
    have e2 : (l.toArray.extract 0 l.toArray.size).toList = l := by simp
    rw [e1, e2] at hp3
    exact hp3
  have hBa : Blk (Go.Sort.ahead w n) b (.cells cur T (0, 0)) := hh
  have hset : putRowK enc k (Go.Sort.ahead w n) b 0 d' = { Go.Sort.ahead w n with heap := (Go.Sort.ahead w n).heap.setIfInBounds b (.cells (putCells id 0 (flatK enc k d') cur) T (0, 0)) } := mapBlock_set hBa _
  have hk1 : Kp [b] (Go.Sort.ahead w n) (putRowK enc k (Go.Sort.ahead w n) b 0 d') := by
    rw [hset]
    exact Kp.set _ hBa rfl rfl
  refine ⟨he, ?_, d'.toList, hperm, ?_, ?_⟩
  · show Kp [b] w _
    exact ((Kp.ahead w n).any.trans hk1).trans (Kp.grow _ _).any
  · rw [List.pairwise_iff_getElem]
    intro i j hi hj hij
    have := hs i j (Nat.zero_le _) hij (by simp at hj ⊢; omega)
    rw [getElem!_pos d' i (by simpa using hi), getElem!_pos d' j (by simpa using hj)] at this
    simpa using this
  · have hlist : d'.toList.length = l.length := by simpa using hd'
    refine ⟨by rw [flt_length hk, hlist], Or.inr ⟨b, cap, putCells id 0 (flatK enc k d') cur, rfl, hb, ?_, hc1, hc2, by simp [putCells, hc3], ?_⟩⟩
    · have : Blk (putRowK enc k (Go.Sort.ahead w n) b 0 d') b (.cells (putCells id 0 (flatK enc k d') cur) T (0, 0)) := by
        rw [hset]
        show ((Go.Sort.ahead w n).heap.setIfInBounds b _)[b]? = _
        rw [Array.getElem?_setIfInBounds, if_pos rfl, if_pos hBa.lt]
      exact this.kp0 (Kp.grow _ _)
    · have hcs : l.length * k ≤ cur.size := by rw [hc3]; exact Nat.mul_le_mul_right k hc1
      rw [← flatK_toList hk0 hk d'.toList]
      apply List.ext_getElem?
      intro t
      by_cases ht : t < l.length * k
      · have htc : t < cur.size := by omega
        have htf : t < (flatK enc k d').size := by simp [hd']; exact ht
        rw [List.getElem?_take_of_lt ht, Array.getElem?_toList, Array.getElem?_toList]
        simp only [putCells, Array.getElem?_mapIdx, Array.getElem?_eq_getElem htc, Option.map_some, Nat.zero_le, true_and, Nat.zero_add, Nat.sub_zero, id_eq]
        rw [if_pos htf, getElem!_pos _ t htf, Array.toArray_toList, Array.getElem?_eq_getElem htf]
      · rw [List.getElem?_eq_none (by simp; omega), List.getElem?_eq_none (by simp [hd']; omega)]
end
end Go.Proofs.Ytnoipmimddoioaa
/-
  Digests by their numbers; digests with a mix, by their numbers.
-/
namespace Go.Proofs.Ytnoipmimddoioaa
open Go.Proofs Go.Shelf Go.Sort
set_option linter.unusedVariables false

/-! ### plainly -/
def cmpN (x y : Nat) : Int := if x < y then -1 else if y < x then 1 else 0
def firstNZ : List Int → Int
  | [] => 0
  | z :: zs => if z = 0 then firstNZ zs else z
def cmpD (a b : Dg) : Int := cmpN (num a) (num b)
def cmpW (m : Dg) (a b : Dg) : Int := firstNZ [cmpD (twoI m a) (twoI m b), cmpD a b]
def kW (m : Dg) (d : Dg) : Nat := num (twoI m d) * 18446744073709551616 + num d
theorem cmpW_eq (m a b : Dg) : cmpW m a b = firstNZ [cmpD (twoI m a) (twoI m b), cmpD a b] := rfl
theorem cmpN_lt {x y : Nat} : cmpN x y < 0 ↔ x < y := by
  unfold cmpN
  split
  · exact ⟨fun _ => by assumption, fun _ => by decide⟩
  · split
    · exact ⟨fun h => absurd h (by decide), fun h => absurd h (by assumption)⟩
    · exact ⟨fun h => absurd h (by decide), fun h => absurd h (by assumption)⟩
theorem cmpN_zero {x y : Nat} : cmpN x y = 0 ↔ x = y := by
  unfold cmpN
  by_cases h1 : x < y
  · rw [if_pos h1]; omega
  · rw [if_neg h1]
    by_cases h2 : y < x
    · rw [if_pos h2]; omega
    · rw [if_neg h2]; omega
theorem cmpW_lt {m a b : Dg} : cmpW m a b < 0 ↔ kW m a < kW m b := by
  have ha := num_lt a
  have hb := num_lt b
  unfold cmpW kW cmpD firstNZ firstNZ firstNZ
  by_cases h : cmpN (num (twoI m a)) (num (twoI m b)) = 0
  · rw [if_pos h]
    have he := cmpN_zero.1 h
    rw [he]
    by_cases h2 : cmpN (num a) (num b) = 0
    · rw [if_pos h2]
      have := cmpN_zero.1 h2
      omega
    · rw [if_neg h2, cmpN_lt]
      omega
  · rw [if_neg h, cmpN_lt]
    have hne : num (twoI m a) ≠ num (twoI m b) := fun e => h (cmpN_zero.2 e)
    omega
theorem kW_inj {m a b : Dg} (h : kW m a = kW m b) : a = b := by
  have ha := num_lt a
  have hb := num_lt b
  refine num_inj ?_
  unfold kW at h
  omega
/-- An order by a number. -/
theorem swo_key {α : Type} (cf : α → α → Int) (key : α → Nat) (h : ∀ x y, cf x y < 0 ↔ key x < key y) : SWO (ltOf cf) where
  irrefl x := decide_eq_false (by rw [h]; omega)
  trans x y z h1 h2 := by
    have h1 := of_decide_eq_true h1
    have h2 := of_decide_eq_true h2
    rw [h] at h1 h2
    exact decide_eq_true (by rw [h]; omega)
  ntrans x y z h1 h2 := by
    have h1 := of_decide_eq_false h1
    have h2 := of_decide_eq_false h2
    rw [h] at h1 h2
    exact decide_eq_false (by rw [h]; omega)
theorem ltOf_false {α : Type} {cf : α → α → Int} {key : α → Nat} (h : ∀ x y, cf x y < 0 ↔ key x < key y) {x y : α} : ltOf cf y x = false ↔ key x ≤ key y := by
  constructor
  · intro h1
    have h1 := of_decide_eq_false h1
    rw [h] at h1
    omega
  · intro h1
    exact decide_eq_false (by rw [h]; omega)
/-- Put where it belongs, behind its likes; all put so. -/
def insK {α : Type} (key : α → Nat) (x : α) : List α → List α
  | [] => [x]
  | y :: r => if key y ≤ key x then y :: insK key x r else x :: y :: r
def sortK {α : Type} (key : α → Nat) (l : List α) : List α := l.foldl (fun acc x => insK key x acc) []
theorem insK_perm {α : Type} (key : α → Nat) (x : α) : ∀ l : List α, (insK key x l).Perm (x :: l)
  | [] => List.Perm.refl _
  | y :: r => by
    unfold insK
    split
    · exact ((insK_perm key x r).cons y).trans (List.Perm.swap x y r)
    · exact List.Perm.refl _
theorem insK_sorted {α : Type} (key : α → Nat) (x : α) : ∀ l : List α, l.Pairwise (fun a b => key a ≤ key b) → (insK key x l).Pairwise (fun a b => key a ≤ key b)
  | [], _ => by simp [insK]
  | y :: r, h => by
    have h' := List.pairwise_cons.1 h
    unfold insK
    split
    · rename_i hle
      refine List.pairwise_cons.2 ⟨fun z hz => ?_, insK_sorted key x r h'.2⟩
      rcases List.mem_cons.1 ((insK_perm key x r).mem_iff.1 hz) with rfl | hz
      · exact hle
      · exact h'.1 z hz
    · rename_i hle
      refine List.pairwise_cons.2 ⟨fun z hz => ?_, h⟩
      rcases List.mem_cons.1 hz with rfl | hz
      · omega
      · have := h'.1 z hz
        omega
theorem sortK_go {α : Type} (key : α → Nat) : ∀ (l acc : List α), acc.Pairwise (fun a b => key a ≤ key b) → (l.foldl (fun acc x => insK key x acc) acc).Perm (l ++ acc) ∧ (l.foldl (fun acc x => insK key x acc) acc).Pairwise (fun a b => key a ≤ key b)
  | [], acc, h => ⟨List.Perm.refl _, h⟩
  | x :: l, acc, h => by
    obtain ⟨h1, h2⟩ := sortK_go key l (insK key x acc) (insK_sorted key x acc h)
    refine ⟨h1.trans ?_, h2⟩
    exact ((insK_perm key x acc).append_left l).trans List.perm_middle
theorem sortK_perm {α : Type} (key : α → Nat) (l : List α) : (sortK key l).Perm l := by simpa [sortK] using (sortK_go key l [] List.Pairwise.nil).1
theorem sortK_sorted {α : Type} (key : α → Nat) (l : List α) : (sortK key l).Pairwise (fun a b => key a ≤ key b) := (sortK_go key l [] List.Pairwise.nil).2
/-- There is one such order. -/
theorem sorted_uniq {α : Type} {key : α → Nat} (hk : ∀ x y, key x = key y → x = y) {l l' m : List α} (h1 : l.Perm m) (h2 : l'.Perm m) (s1 : l.Pairwise (fun a b => key a ≤ key b)) (s2 : l'.Pairwise (fun a b => key a ≤ key b)) : l = l' :=
  (h1.trans h2.symm).eq_of_pairwise (fun a b _ _ h h' => hk a b (by omega)) s1 s2

end Go.Proofs.Ytnoipmimddoioaa
/-
  Digests by their numbers; digests with a mix, by their numbers.
-/
namespace Go.Proofs.Ytnoipmimddoioaa
open Go.Proofs Go.Shelf Go.Sort
set_option linter.unusedVariables false

theorem sl_ic {w : World} {b : Nat} {T : TypeId} {zs : List Int} (h : Blk w b (.cells (flt ic zs).toArray T)) : Sl ic 1 w (some ⟨b, 0, none⟩) zs := flt_rowf ic_len h
theorem cmpD_lt {a b : Dg} : cmpD a b < 0 ↔ num a < num b := cmpN_lt
theorem cmpD_eq (a b : Dg) : cmpD a b = cmpN (num a) (num b) := rfl
/-! ### the walks -/
attribute [local irreducible] CG NG SG Vals Der Row Blk MapIs IterAt addI xorI orI andI shlI shrI mulI twoI cmpD cmpW kW
set_option maxHeartbeats 16000000 in
theorem nan_spec (x : Int) (w : World) : Ret Try.prog 96 #[.int .u64 x] w (.bool false) := by
  refine enter1 Try.func96 rfl Try.ntmps96 rfl ?_
  have g : x = x := rfl
  repeat (first|apply CG.seq|apply CG.region|apply SG.nil|apply NG.next|apply CG.skip|apply CG.block|apply CG.ret|apply CG.exit|apply NG.ret_then|apply NG.ret_block|apply NG.exit_then|refine NG.exit_block rfl ?_|apply NG.normal_block|refine SG.val rfl rfl rfl rfl (by first|((first|apply qmv|apply qas|apply qlc|apply qla|apply qix|apply qls|apply qni|apply qad|apply qln|apply qgt)<;>(first|exact rfl|assumption|exact Ar.mk (by omega)|exact dct (by first|assumption|omega)|exact dcf (by first|assumption|omega)|exact List.not_mem_nil|apply dc_length|fail))|fail) ?_)
  refine ret1 (Or.inl rfl) Try.results96 (by first | exact ResV.tmp rfl | exact ResV.agg rfl rfl (by assumption) (by first | exact dc_length _ | exact nc_length _ | exact rc_length _ _ _ | exact ec_length _ | exact dl_length _ _ _ _ | rfl) | exact ResV.cell rfl rfl (by assumption)) ?_
  exact ⟨by simp, Kp.refl _ _⟩
set_option maxHeartbeats 16000000 in
theorem compare_spec (x y : Nat) (w : World) : Ret Try.prog 70 #[.int .u64 (x : Int), .int .u64 (y : Int)] w (.int .i64 (cmpN x y)) := by
  refine enter2 Try.func70 rfl Try.ntmps70 rfl ?_
  unfold cmpN
  repeat (first|apply CG.seq|apply CG.region|apply SG.nil|apply NG.next|apply CG.skip|apply CG.block|apply CG.ret|apply CG.exit|apply NG.ret_then|apply NG.ret_block|apply NG.exit_then|refine NG.exit_block rfl ?_|apply NG.normal_block|refine SG.val rfl rfl rfl rfl (by first|((first|apply qmv|apply qas|apply qlc|apply qla|apply qix|apply qls|apply qni|apply qad|apply qln|apply qgt)<;>(first|exact rfl|assumption|exact Ar.mk (by omega)|exact dct (by first|assumption|omega)|exact dcf (by first|assumption|omega)|exact List.not_mem_nil|apply dc_length|fail))|fail) ?_)
  refine SG.ret rfl rfl rfl (by repeat' (first | exact True.intro | exact rho_of rfl | refine And.intro ?_ ?_)) (nan_spec x w) (fun w1 hk1 => ?_)
  repeat (first|apply CG.seq|apply CG.region|apply SG.nil|apply NG.next|apply CG.skip|apply CG.block|apply CG.ret|apply CG.exit|apply NG.ret_then|apply NG.ret_block|apply NG.exit_then|refine NG.exit_block rfl ?_|apply NG.normal_block|refine SG.val rfl rfl rfl rfl (by first|((first|apply qmv|apply qas|apply qlc|apply qla|apply qix|apply qls|apply qni|apply qad|apply qln|apply qgt)<;>(first|exact rfl|assumption|exact Ar.mk (by omega)|exact dct (by first|assumption|omega)|exact dcf (by first|assumption|omega)|exact List.not_mem_nil|apply dc_length|fail))|fail) ?_)
  refine SG.ret rfl rfl rfl (by repeat' (first | exact True.intro | exact rho_of rfl | refine And.intro ?_ ?_)) (nan_spec y w1) (fun w2 hk2 => ?_)
  have k2 := hk1.trans hk2
  repeat (first|apply CG.seq|apply CG.region|apply SG.nil|apply NG.next|apply CG.skip|apply CG.block|apply CG.ret|apply CG.exit|apply NG.ret_then|apply NG.ret_block|apply NG.exit_then|refine NG.exit_block rfl ?_|apply NG.normal_block|refine SG.val rfl rfl rfl rfl (by first|((first|apply qmv|apply qas|apply qlc|apply qla|apply qix|apply qls|apply qni|apply qad|apply qln|apply qgt)<;>(first|exact rfl|assumption|exact Ar.mk (by omega)|exact dct (by first|assumption|omega)|exact dcf (by first|assumption|omega)|exact List.not_mem_nil|apply dc_length|fail))|fail) ?_)
  refine CG.cond_f rfl (by exact rho_of rfl) rfl ?_
  repeat (first|apply CG.seq|apply CG.region|apply SG.nil|apply NG.next|apply CG.skip|apply CG.block|apply CG.ret|apply CG.exit|apply NG.ret_then|apply NG.ret_block|apply NG.exit_then|refine NG.exit_block rfl ?_|apply NG.normal_block|refine SG.val rfl rfl rfl rfl (by first|((first|apply qmv|apply qas|apply qlc|apply qla|apply qix|apply qls|apply qni|apply qad|apply qln|apply qgt)<;>(first|exact rfl|assumption|exact Ar.mk (by omega)|exact dct (by first|assumption|omega)|exact dcf (by first|assumption|omega)|exact List.not_mem_nil|apply dc_length|fail))|fail) ?_)
  refine CG.cond_f rfl (by exact rho_of rfl) rfl ?_
  by_cases h1 : x < y
  · have g1 : (x : Int) < (y : Int) := by omega
    rw [if_pos h1]
    repeat (first|apply CG.seq|apply CG.region|apply SG.nil|apply NG.next|apply CG.skip|apply CG.block|apply CG.ret|apply CG.exit|apply NG.ret_then|apply NG.ret_block|apply NG.exit_then|refine NG.exit_block rfl ?_|apply NG.normal_block|refine SG.val rfl rfl rfl rfl (by first|((first|apply qmv|apply qas|apply qlc|apply qla|apply qix|apply qls|apply qni|apply qad|apply qln|apply qgt)<;>(first|exact rfl|assumption|exact Ar.mk (by omega)|exact dct (by first|assumption|omega)|exact dcf (by first|assumption|omega)|exact List.not_mem_nil|apply dc_length|fail))|fail) ?_)
    refine CG.cond_t rfl (by exact rho_of rfl) rfl ?_
    repeat (first|apply CG.seq|apply CG.region|apply SG.nil|apply NG.next|apply CG.skip|apply CG.block|apply CG.ret|apply CG.exit|apply NG.ret_then|apply NG.ret_block|apply NG.exit_then|refine NG.exit_block rfl ?_|apply NG.normal_block|refine SG.val rfl rfl rfl rfl (by first|((first|apply qmv|apply qas|apply qlc|apply qla|apply qix|apply qls|apply qni|apply qad|apply qln|apply qgt)<;>(first|exact rfl|assumption|exact Ar.mk (by omega)|exact dct (by first|assumption|omega)|exact dcf (by first|assumption|omega)|exact List.not_mem_nil|apply dc_length|fail))|fail) ?_)
    refine ret1 (Or.inl rfl) Try.results70 (by first | exact ResV.tmp rfl | exact ResV.agg rfl rfl (by assumption) (by first | exact dc_length _ | exact nc_length _ | exact rc_length _ _ _ | exact ec_length _ | exact dl_length _ _ _ _ | rfl) | exact ResV.cell rfl rfl (by assumption)) ?_
    exact ⟨rfl, k2⟩
  · have g1 : ¬ (x : Int) < (y : Int) := by omega
    rw [if_neg h1]
    by_cases h2 : y < x
    · have g2 : (y : Int) < (x : Int) := by omega
      rw [if_pos h2]
      repeat (first|apply CG.seq|apply CG.region|apply SG.nil|apply NG.next|apply CG.skip|apply CG.block|apply CG.ret|apply CG.exit|apply NG.ret_then|apply NG.ret_block|apply NG.exit_then|refine NG.exit_block rfl ?_|apply NG.normal_block|refine SG.val rfl rfl rfl rfl (by first|((first|apply qmv|apply qas|apply qlc|apply qla|apply qix|apply qls|apply qni|apply qad|apply qln|apply qgt)<;>(first|exact rfl|assumption|exact Ar.mk (by omega)|exact dct (by first|assumption|omega)|exact dcf (by first|assumption|omega)|exact List.not_mem_nil|apply dc_length|fail))|fail) ?_)
      refine CG.cond_f rfl (by exact rho_of rfl) rfl ?_
      repeat (first|apply CG.seq|apply CG.region|apply SG.nil|apply NG.next|apply CG.skip|apply CG.block|apply CG.ret|apply CG.exit|apply NG.ret_then|apply NG.ret_block|apply NG.exit_then|refine NG.exit_block rfl ?_|apply NG.normal_block|refine SG.val rfl rfl rfl rfl (by first|((first|apply qmv|apply qas|apply qlc|apply qla|apply qix|apply qls|apply qni|apply qad|apply qln|apply qgt)<;>(first|exact rfl|assumption|exact Ar.mk (by omega)|exact dct (by first|assumption|omega)|exact dcf (by first|assumption|omega)|exact List.not_mem_nil|apply dc_length|fail))|fail) ?_)
      refine CG.cond_t rfl (by exact rho_of rfl) rfl ?_
      repeat (first|apply CG.seq|apply CG.region|apply SG.nil|apply NG.next|apply CG.skip|apply CG.block|apply CG.ret|apply CG.exit|apply NG.ret_then|apply NG.ret_block|apply NG.exit_then|refine NG.exit_block rfl ?_|apply NG.normal_block|refine SG.val rfl rfl rfl rfl (by first|((first|apply qmv|apply qas|apply qlc|apply qla|apply qix|apply qls|apply qni|apply qad|apply qln|apply qgt)<;>(first|exact rfl|assumption|exact Ar.mk (by omega)|exact dct (by first|assumption|omega)|exact dcf (by first|assumption|omega)|exact List.not_mem_nil|apply dc_length|fail))|fail) ?_)
      refine ret1 (Or.inl rfl) Try.results70 (by first | exact ResV.tmp rfl | exact ResV.agg rfl rfl (by assumption) (by first | exact dc_length _ | exact nc_length _ | exact rc_length _ _ _ | exact ec_length _ | exact dl_length _ _ _ _ | rfl) | exact ResV.cell rfl rfl (by assumption)) ?_
      exact ⟨rfl, k2⟩
    · have g2 : ¬ (y : Int) < (x : Int) := by omega
      rw [if_neg h2]
      repeat (first|apply CG.seq|apply CG.region|apply SG.nil|apply NG.next|apply CG.skip|apply CG.block|apply CG.ret|apply CG.exit|apply NG.ret_then|apply NG.ret_block|apply NG.exit_then|refine NG.exit_block rfl ?_|apply NG.normal_block|refine SG.val rfl rfl rfl rfl (by first|((first|apply qmv|apply qas|apply qlc|apply qla|apply qix|apply qls|apply qni|apply qad|apply qln|apply qgt)<;>(first|exact rfl|assumption|exact Ar.mk (by omega)|exact dct (by first|assumption|omega)|exact dcf (by first|assumption|omega)|exact List.not_mem_nil|apply dc_length|fail))|fail) ?_)
      refine CG.cond_f rfl (by exact rho_of rfl) rfl ?_
      repeat (first|apply CG.seq|apply CG.region|apply SG.nil|apply NG.next|apply CG.skip|apply CG.block|apply CG.ret|apply CG.exit|apply NG.ret_then|apply NG.ret_block|apply NG.exit_then|refine NG.exit_block rfl ?_|apply NG.normal_block|refine SG.val rfl rfl rfl rfl (by first|((first|apply qmv|apply qas|apply qlc|apply qla|apply qix|apply qls|apply qni|apply qad|apply qln|apply qgt)<;>(first|exact rfl|assumption|exact Ar.mk (by omega)|exact dct (by first|assumption|omega)|exact dcf (by first|assumption|omega)|exact List.not_mem_nil|apply dc_length|fail))|fail) ?_)
      refine CG.cond_f rfl (by exact rho_of rfl) rfl ?_
      repeat (first|apply CG.seq|apply CG.region|apply SG.nil|apply NG.next|apply CG.skip|apply CG.block|apply CG.ret|apply CG.exit|apply NG.ret_then|apply NG.ret_block|apply NG.exit_then|refine NG.exit_block rfl ?_|apply NG.normal_block|refine SG.val rfl rfl rfl rfl (by first|((first|apply qmv|apply qas|apply qlc|apply qla|apply qix|apply qls|apply qni|apply qad|apply qln|apply qgt)<;>(first|exact rfl|assumption|exact Ar.mk (by omega)|exact dct (by first|assumption|omega)|exact dcf (by first|assumption|omega)|exact List.not_mem_nil|apply dc_length|fail))|fail) ?_)
      refine ret1 (Or.inl rfl) Try.results70 (by first | exact ResV.tmp rfl | exact ResV.agg rfl rfl (by assumption) (by first | exact dc_length _ | exact nc_length _ | exact rc_length _ _ _ | exact ec_length _ | exact dl_length _ _ _ _ | rfl) | exact ResV.cell rfl rfl (by assumption)) ?_
      exact ⟨rfl, k2⟩
set_option maxHeartbeats 16000000 in
theorem byn_spec (a b : Dg) (w : World) : Ret Try.prog 40 #[dv a, dv b] w (.int .i64 (cmpD a b)) := by
  rw [cmpD_eq]
  refine enter2 Try.func40 rfl Try.ntmps40 rfl ?_
  repeat (first|apply CG.seq|apply CG.region|apply SG.nil|apply NG.next|apply CG.skip|apply CG.block|apply CG.ret|apply CG.exit|apply NG.ret_then|apply NG.ret_block|apply NG.exit_then|refine NG.exit_block rfl ?_|apply NG.normal_block|refine SG.val rfl rfl rfl rfl (by first|((first|apply qmv|apply qas|apply qlc|apply qla|apply qix|apply qls|apply qni|apply qad|apply qln|apply qgt)<;>(first|exact rfl|assumption|exact Ar.mk (by omega)|exact dct (by first|assumption|omega)|exact dcf (by first|assumption|omega)|exact List.not_mem_nil|apply dc_length|fail))|fail) ?_)
  refine SG.box rfl rfl rfl (by exact rho_of rfl) (fun b1 w1 hk1 hb1 hB1 => ?_)
  have hB1 : Blk w1 b1 (.cells (dc a).toArray 24) := hB1
  refine SG.box rfl rfl rfl (by exact rho_of rfl) (fun b2 w2 hk2 hb2 hB2 => ?_)
  have hB2 : Blk w2 b2 (.cells (dc b).toArray 24) := hB2
  have r1 := (Row.all (l := dc a) hB1 rfl).kp0 hk2
  have r2 := Row.all (l := dc b) hB2 rfl
  repeat (first|apply CG.seq|apply CG.region|apply SG.nil|apply NG.next|apply CG.skip|apply CG.block|apply CG.ret|apply CG.exit|apply NG.ret_then|apply NG.ret_block|apply NG.exit_then|refine NG.exit_block rfl ?_|apply NG.normal_block|refine SG.val rfl rfl rfl rfl (by first|((first|apply qmv|apply qas|apply qlc|apply qla|apply qix|apply qls|apply qni|apply qad|apply qln|apply qgt)<;>(first|exact rfl|assumption|exact Ar.mk (by omega)|exact dct (by first|assumption|omega)|exact dcf (by first|assumption|omega)|exact List.not_mem_nil|apply dc_length|fail))|fail) ?_)
  refine CG.draw0 mixed [0, 1, 2, 3, 4, 5] [] (by kernel_rfl) ?_
  repeat (refine Der.val rfl rfl rfl (by first|((first|apply qmv|apply qas|apply qlc|apply qla|apply qix|apply qls|apply qni|apply qad|apply qln|apply qgt)<;>(first|exact rfl|assumption|exact Ar.mk (by omega)|exact dct (by first|assumption|omega)|exact dcf (by first|assumption|omega)|exact List.not_mem_nil|apply dc_length|fail))|fail) ?_)
  refine Der.call rfl rfl rfl (vs := [dv a]) (by repeat' (first | exact True.intro | exact rho_of rfl | refine And.intro ?_ ?_)) (fun w _ _ => num_spec a w) ?_
  repeat (refine Der.val rfl rfl rfl (by first|((first|apply qmv|apply qas|apply qlc|apply qla|apply qix|apply qls|apply qni|apply qad|apply qln|apply qgt)<;>(first|exact rfl|assumption|exact Ar.mk (by omega)|exact dct (by first|assumption|omega)|exact dcf (by first|assumption|omega)|exact List.not_mem_nil|apply dc_length|fail))|fail) ?_)
  refine Der.call rfl rfl rfl (vs := [dv b]) (by repeat' (first | exact True.intro | exact rho_of rfl | refine And.intro ?_ ?_)) (fun w _ _ => num_spec b w) ?_
  refine Der.call rfl rfl rfl (vs := [.int .u64 (num a : Int), .int .u64 (num b : Int)]) (by repeat' (first | exact True.intro | exact rho_of rfl | refine And.intro ?_ ?_)) (fun w _ _ => compare_spec (num a) (num b) w) ?_
  repeat (refine Der.val rfl rfl rfl (by first|((first|apply qmv|apply qas|apply qlc|apply qla|apply qix|apply qls|apply qni|apply qad|apply qln|apply qgt)<;>(first|exact rfl|assumption|exact Ar.mk (by omega)|exact dct (by first|assumption|omega)|exact dcf (by first|assumption|omega)|exact List.not_mem_nil|apply dc_length|fail))|fail) ?_)
  refine Der.fin (fun w3 hk3 _ _ => ?_)
  repeat (first|apply CG.seq|apply CG.region|apply SG.nil|apply NG.next|apply CG.skip|apply CG.block|apply CG.ret|apply CG.exit|apply NG.ret_then|apply NG.ret_block|apply NG.exit_then|refine NG.exit_block rfl ?_|apply NG.normal_block|refine SG.val rfl rfl rfl rfl (by first|((first|apply qmv|apply qas|apply qlc|apply qla|apply qix|apply qls|apply qni|apply qad|apply qln|apply qgt)<;>(first|exact rfl|assumption|exact Ar.mk (by omega)|exact dct (by first|assumption|omega)|exact dcf (by first|assumption|omega)|exact List.not_mem_nil|apply dc_length|fail))|fail) ?_)
  refine ret1 (Or.inl rfl) Try.results40 (by first | exact ResV.tmp rfl | exact ResV.agg rfl rfl (by assumption) (by first | exact dc_length _ | exact nc_length _ | exact rc_length _ _ _ | exact ec_length _ | exact dl_length _ _ _ _ | rfl) | exact ResV.cell rfl rfl (by assumption)) ?_
  exact ⟨rfl, (hk1.trans hk2).trans hk3⟩
theorem firstNZ_drop : ∀ (zs : List Int) (i : Nat) (h : i < zs.length), firstNZ (zs.drop i) = if zs[i] = 0 then firstNZ (zs.drop (i + 1)) else zs[i]
  | zs, i, h => by
    rw [List.drop_eq_getElem_cons h, firstNZ]
set_option maxHeartbeats 16000000 in
theorem or_spec {w : World} {a : Option Addr} {c : Nat} {zs : List Int} (hS : Sl ic 1 w a zs) (hl : zs.length ≤ 1000) : Ret Try.prog 39 #[.slice a zs.length c] w (.int .i64 (firstNZ zs)) := by
  refine enter1 Try.func39 rfl Try.ntmps39 rfl ?_
  repeat (first|apply CG.seq|apply CG.region|apply SG.nil|apply NG.next|apply CG.skip|apply CG.block|apply CG.ret|apply CG.exit|apply NG.ret_then|apply NG.ret_block|apply NG.exit_then|refine NG.exit_block rfl ?_|apply NG.normal_block|refine SG.val rfl rfl rfl rfl (by first|((first|apply qmv|apply qas|apply qlc|apply qla|apply qix|apply qls|apply qni|apply qad|apply qln|apply qgt)<;>(first|exact rfl|assumption|exact Ar.mk (by omega)|exact dct (by first|assumption|omega)|exact dcf (by first|assumption|omega)|exact List.not_mem_nil|apply dc_length|fail))|fail) ?_)
  refine CG.loop (X := Nat) (fun i => [(3, .int .i64 0), (6, .slice a zs.length c), (7, .int .i64 (zs.length : Int)), (8, .int .i64 (i : Int))]) (fun i w' => i ≤ zs.length ∧ Kp [] w w' ∧ firstNZ (zs.drop i) = firstNZ zs) (fun i => zs.length - i) 0 ⟨by omega, Kp.refl _ _, rfl⟩ (by (repeat' (first | exact True.intro | exact rfl | refine And.intro ?_ ?_))) ?_
  rintro i w1 ⟨hi, hk, he⟩
  by_cases hlt : i < zs.length
  · have g1 : (i : Int) < (zs.length : Int) := by omega
    obtain ⟨b1, o1, rfl, hr1⟩ := (hS.kp0 hk).at hlt
    rw [firstNZ_drop zs i hlt] at he
    by_cases hz : zs[i] = 0
    · rw [if_pos hz] at he
      repeat (first|apply CG.seq|apply CG.region|apply SG.nil|apply NG.next|apply CG.skip|apply CG.block|apply CG.ret|apply CG.exit|apply NG.ret_then|apply NG.ret_block|apply NG.exit_then|refine NG.exit_block rfl ?_|apply NG.normal_block|refine SG.val rfl rfl rfl rfl (by first|((first|apply qmv|apply qas|apply qlc|apply qla|apply qix|apply qls|apply qni|apply qad|apply qln|apply qgt)<;>(first|exact rfl|assumption|exact Ar.mk (by omega)|exact dct (by first|assumption|omega)|exact dcf (by first|assumption|omega)|exact List.not_mem_nil|apply dc_length|fail))|fail) ?_)
      refine CG.cond_t rfl (by exact rho_of rfl) rfl ?_
      repeat (first|apply CG.seq|apply CG.region|apply SG.nil|apply NG.next|apply CG.skip|apply CG.block|apply CG.ret|apply CG.exit|apply NG.ret_then|apply NG.ret_block|apply NG.exit_then|refine NG.exit_block rfl ?_|apply NG.normal_block|refine SG.val rfl rfl rfl rfl (by first|((first|apply qmv|apply qas|apply qlc|apply qla|apply qix|apply qls|apply qni|apply qad|apply qln|apply qgt)<;>(first|exact rfl|assumption|exact Ar.mk (by omega)|exact dct (by first|assumption|omega)|exact dcf (by first|assumption|omega)|exact List.not_mem_nil|apply dc_length|fail))|fail) ?_)
      refine CG.cond_f rfl (by exact rho_of rfl) rfl ?_
      repeat (first|apply CG.seq|apply CG.region|apply SG.nil|apply NG.next|apply CG.skip|apply CG.block|apply CG.ret|apply CG.exit|apply NG.ret_then|apply NG.ret_block|apply NG.exit_then|refine NG.exit_block rfl ?_|apply NG.normal_block|refine SG.val rfl rfl rfl rfl (by first|((first|apply qmv|apply qas|apply qlc|apply qla|apply qix|apply qls|apply qni|apply qad|apply qln|apply qgt)<;>(first|exact rfl|assumption|exact Ar.mk (by omega)|exact dct (by first|assumption|omega)|exact dcf (by first|assumption|omega)|exact List.not_mem_nil|apply dc_length|fail))|fail) ?_)
      refine NG.round (i + 1) (by (repeat' (first | exact True.intro | exact rfl | refine And.intro ?_ ?_))) ⟨by omega, hk, he⟩ (by omega)
    · rw [if_neg hz] at he
      repeat (first|apply CG.seq|apply CG.region|apply SG.nil|apply NG.next|apply CG.skip|apply CG.block|apply CG.ret|apply CG.exit|apply NG.ret_then|apply NG.ret_block|apply NG.exit_then|refine NG.exit_block rfl ?_|apply NG.normal_block|refine SG.val rfl rfl rfl rfl (by first|((first|apply qmv|apply qas|apply qlc|apply qla|apply qix|apply qls|apply qni|apply qad|apply qln|apply qgt)<;>(first|exact rfl|assumption|exact Ar.mk (by omega)|exact dct (by first|assumption|omega)|exact dcf (by first|assumption|omega)|exact List.not_mem_nil|apply dc_length|fail))|fail) ?_)
      refine CG.cond_t rfl (by exact rho_of rfl) rfl ?_
      repeat (first|apply CG.seq|apply CG.region|apply SG.nil|apply NG.next|apply CG.skip|apply CG.block|apply CG.ret|apply CG.exit|apply NG.ret_then|apply NG.ret_block|apply NG.exit_then|refine NG.exit_block rfl ?_|apply NG.normal_block|refine SG.val rfl rfl rfl rfl (by first|((first|apply qmv|apply qas|apply qlc|apply qla|apply qix|apply qls|apply qni|apply qad|apply qln|apply qgt)<;>(first|exact rfl|assumption|exact Ar.mk (by omega)|exact dct (by first|assumption|omega)|exact dcf (by first|assumption|omega)|exact List.not_mem_nil|apply dc_length|fail))|fail) ?_)
      refine CG.cond_t rfl (by exact rho_of rfl) rfl ?_
      repeat (first|apply CG.seq|apply CG.region|apply SG.nil|apply NG.next|apply CG.skip|apply CG.block|apply CG.ret|apply CG.exit|apply NG.ret_then|apply NG.ret_block|apply NG.exit_then|refine NG.exit_block rfl ?_|apply NG.normal_block|refine SG.val rfl rfl rfl rfl (by first|((first|apply qmv|apply qas|apply qlc|apply qla|apply qix|apply qls|apply qni|apply qad|apply qln|apply qgt)<;>(first|exact rfl|assumption|exact Ar.mk (by omega)|exact dct (by first|assumption|omega)|exact dcf (by first|assumption|omega)|exact List.not_mem_nil|apply dc_length|fail))|fail) ?_)
      refine ret1 (Or.inl rfl) Try.results39 (by first | exact ResV.tmp rfl | exact ResV.agg rfl rfl (by assumption) (by first | exact dc_length _ | exact nc_length _ | exact rc_length _ _ _ | exact ec_length _ | exact dl_length _ _ _ _ | rfl) | exact ResV.cell rfl rfl (by assumption)) ?_
      rw [← he]
      exact ⟨rfl, hk⟩
  · have g1 : ¬ (i : Int) < (zs.length : Int) := by omega
    rw [List.drop_of_length_le (by omega)] at he
    repeat (first|apply CG.seq|apply CG.region|apply SG.nil|apply NG.next|apply CG.skip|apply CG.block|apply CG.ret|apply CG.exit|apply NG.ret_then|apply NG.ret_block|apply NG.exit_then|refine NG.exit_block rfl ?_|apply NG.normal_block|refine SG.val rfl rfl rfl rfl (by first|((first|apply qmv|apply qas|apply qlc|apply qla|apply qix|apply qls|apply qni|apply qad|apply qln|apply qgt)<;>(first|exact rfl|assumption|exact Ar.mk (by omega)|exact dct (by first|assumption|omega)|exact dcf (by first|assumption|omega)|exact List.not_mem_nil|apply dc_length|fail))|fail) ?_)
    refine CG.cond_f rfl (by exact rho_of rfl) rfl ?_
    repeat (first|apply CG.seq|apply CG.region|apply SG.nil|apply NG.next|apply CG.skip|apply CG.block|apply CG.ret|apply CG.exit|apply NG.ret_then|apply NG.ret_block|apply NG.exit_then|refine NG.exit_block rfl ?_|apply NG.normal_block|refine SG.val rfl rfl rfl rfl (by first|((first|apply qmv|apply qas|apply qlc|apply qla|apply qix|apply qls|apply qni|apply qad|apply qln|apply qgt)<;>(first|exact rfl|assumption|exact Ar.mk (by omega)|exact dct (by first|assumption|omega)|exact dcf (by first|assumption|omega)|exact List.not_mem_nil|apply dc_length|fail))|fail) ?_)
    refine ret1 (Or.inl rfl) Try.results39 (by first | exact ResV.tmp rfl | exact ResV.agg rfl rfl (by assumption) (by first | exact dc_length _ | exact nc_length _ | exact rc_length _ _ _ | exact ec_length _ | exact dl_length _ _ _ _ | rfl) | exact ResV.cell rfl rfl (by assumption)) ?_
    rw [← he]
    exact ⟨rfl, hk⟩
set_option maxHeartbeats 16000000 in
theorem cmpw_spec {w : World} {bm : Nat} {m : Dg} (hm : Row w bm 0 (dc m)) (a b : Dg) : Ret Try.prog 38 #[dv a, dv b, .pointer (some ⟨bm, 0, none⟩)] w (.int .i64 (cmpW m a b)) := by
  rw [cmpW_eq]
  have hc1 := fun w => byn_spec (twoI m a) (twoI m b) w
  have hc2 := fun w => byn_spec a b w
  generalize cmpD (twoI m a) (twoI m b) = z1 at hc1 ⊢
  generalize cmpD a b = z2 at hc2 ⊢
  refine enter3 Try.func38 rfl Try.ntmps38 rfl ?_
  repeat (first|apply CG.seq|apply CG.region|apply SG.nil|apply NG.next|apply CG.skip|apply CG.block|apply CG.ret|apply CG.exit|apply NG.ret_then|apply NG.ret_block|apply NG.exit_then|refine NG.exit_block rfl ?_|apply NG.normal_block|refine SG.val rfl rfl rfl rfl (by first|((first|apply qmv|apply qas|apply qlc|apply qla|apply qix|apply qls|apply qni|apply qad|apply qln|apply qgt)<;>(first|exact rfl|assumption|exact Ar.mk (by omega)|exact dct (by first|assumption|omega)|exact dcf (by first|assumption|omega)|exact List.not_mem_nil|apply dc_length|fail))|fail) ?_)
  refine SG.box rfl rfl rfl (by exact rho_of rfl) (fun b1 w1 hk1 hb1 hB1 => ?_)
  have hB1 : Blk w1 b1 (.cells (dc a).toArray 24) := hB1
  refine SG.box rfl rfl rfl (by exact rho_of rfl) (fun b2 w2 hk2 hb2 hB2 => ?_)
  have hB2 : Blk w2 b2 (.cells (dc b).toArray 24) := hB2
  have r1 := (Row.all (l := dc a) hB1 rfl).kp0 hk2
  have r2 := Row.all (l := dc b) hB2 rfl
  have r3 := hm.kp0 (hk1.trans hk2)
  repeat (first|apply CG.seq|apply CG.region|apply SG.nil|apply NG.next|apply CG.skip|apply CG.block|apply CG.ret|apply CG.exit|apply NG.ret_then|apply NG.ret_block|apply NG.exit_then|refine NG.exit_block rfl ?_|apply NG.normal_block|refine SG.val rfl rfl rfl rfl (by first|((first|apply qmv|apply qas|apply qlc|apply qla|apply qix|apply qls|apply qni|apply qad|apply qln|apply qgt)<;>(first|exact rfl|assumption|exact Ar.mk (by omega)|exact dct (by first|assumption|omega)|exact dcf (by first|assumption|omega)|exact List.not_mem_nil|apply dc_length|fail))|fail) ?_)
  refine CG.tail mixed 9 [0, 1, 2, 3, 4, 5, 6, 7, 8] (by kernel_rfl) ?_
  repeat (refine Der.val rfl rfl rfl (by first|((first|apply qmv|apply qas|apply qlc|apply qla|apply qix|apply qls|apply qni|apply qad|apply qln|apply qgt)<;>(first|exact rfl|assumption|exact Ar.mk (by omega)|exact dct (by first|assumption|omega)|exact dcf (by first|assumption|omega)|exact List.not_mem_nil|apply dc_length|fail))|fail) ?_)
  refine Der.call rfl rfl rfl (vs := [dv m, dv a]) (by repeat' (first | exact True.intro | exact rho_of rfl | refine And.intro ?_ ?_)) (fun w _ _ => two_spec m a w) ?_
  repeat (refine Der.val rfl rfl rfl (by first|((first|apply qmv|apply qas|apply qlc|apply qla|apply qix|apply qls|apply qni|apply qad|apply qln|apply qgt)<;>(first|exact rfl|assumption|exact Ar.mk (by omega)|exact dct (by first|assumption|omega)|exact dcf (by first|assumption|omega)|exact List.not_mem_nil|apply dc_length|fail))|fail) ?_)
  refine Der.call rfl rfl rfl (vs := [dv m, dv b]) (by repeat' (first | exact True.intro | exact rho_of rfl | refine And.intro ?_ ?_)) (fun w _ _ => two_spec m b w) ?_
  refine Der.call rfl rfl rfl (vs := [dv (twoI m a), dv (twoI m b)]) (by repeat' (first | exact True.intro | exact rho_of rfl | refine And.intro ?_ ?_)) (fun w _ _ => hc1 w) ?_
  repeat (refine Der.val rfl rfl rfl (by first|((first|apply qmv|apply qas|apply qlc|apply qla|apply qix|apply qls|apply qni|apply qad|apply qln|apply qgt)<;>(first|exact rfl|assumption|exact Ar.mk (by omega)|exact dct (by first|assumption|omega)|exact dcf (by first|assumption|omega)|exact List.not_mem_nil|apply dc_length|fail))|fail) ?_)
  refine Der.tl (fun w3 hk3 _ _ => ?_)
  refine SG.ret rfl rfl rfl (by repeat' (first | exact True.intro | exact rho_of rfl | refine And.intro ?_ ?_)) (hc2 w3) (fun w4 hk4 => ?_)
  refine SG.buildSlice rfl rfl rfl rfl (bsi2 _ _) (fun b5 w5 hk5 hb5 hB5 => ?_)
  have hS5 : Sl ic 1 w5 (some ⟨b5, 0, none⟩) [z1, z2] := sl_ic hB5
  refine SG.ret rfl rfl rfl (by repeat' (first | exact True.intro | exact rho_of rfl | refine And.intro ?_ ?_)) (or_spec (c := 2) hS5 (by simp)) (fun w6 hk6 => ?_)
  repeat (first|apply CG.seq|apply CG.region|apply SG.nil|apply NG.next|apply CG.skip|apply CG.block|apply CG.ret|apply CG.exit|apply NG.ret_then|apply NG.ret_block|apply NG.exit_then|refine NG.exit_block rfl ?_|apply NG.normal_block|refine SG.val rfl rfl rfl rfl (by first|((first|apply qmv|apply qas|apply qlc|apply qla|apply qix|apply qls|apply qni|apply qad|apply qln|apply qgt)<;>(first|exact rfl|assumption|exact Ar.mk (by omega)|exact dct (by first|assumption|omega)|exact dcf (by first|assumption|omega)|exact List.not_mem_nil|apply dc_length|fail))|fail) ?_)
  refine ret1 (Or.inl rfl) Try.results38 (by first | exact ResV.tmp rfl | exact ResV.agg rfl rfl (by assumption) (by first | exact dc_length _ | exact nc_length _ | exact rc_length _ _ _ | exact ec_length _ | exact dl_length _ _ _ _ | rfl) | exact ResV.cell rfl rfl (by assumption)) ?_
  exact ⟨rfl, ((((hk1.trans hk2).trans hk3).trans hk4).trans hk5).trans hk6⟩
instance : Inhabited Dg := ⟨zd⟩
/-- The digests sorted by their numbers. -/
theorem sortn_spec {w : World} {base : Nat} {v : Value} {l : List Dg} (ho : w.ownsRow base 24 8 v l.length (flt dc l)) (hl : l.length ≤ 1000000) : Calls Try.prog 37 #[v, fnv 40 []] w (fun e w' => e = .returned (.tuple #[]) ∧ Kp (ownB v) w w' ∧ w'.ownsRow base 24 8 v l.length (flt dc (sortK num l))) :=
  (sort_ownC sortL Try.isAgg24 Try.sizeOf24 (by omega) dc_length dc_one cmpD (swo_key cmpD num (fun x y => cmpD_lt)) 40 (fun args w => fn.i40.run w args) [] ho (by omega) (fun x y W _ => byn_spec x y W)).mono (fun e w' ⟨h1, h2, l', h3, h4, h5⟩ => ⟨h1, h2, by
    have e : l' = sortK num l := sorted_uniq (key := num) (fun x y => num_inj) h3 (sortK_perm num l) (h4.imp (fun h => (ltOf_false (cf := cmpD) (key := num) (fun x y => cmpD_lt)).1 h)) (sortK_sorted num l)
    rwa [e] at h5⟩)
theorem sortw_spec {w : World} {base bm : Nat} {m : Dg} {v : Value} {l : List Dg} (ho : w.ownsRow base 24 8 v l.length (flt dc l)) (hl : l.length ≤ 1000000) (hm : Row w bm 0 (dc m)) (hbm : bm ∉ ownB v) : Calls Try.prog 37 #[v, fnv 38 [.pointer (some ⟨bm, 0, none⟩)]] w (fun e w' => e = .returned (.tuple #[]) ∧ Kp (ownB v) w w' ∧ w'.ownsRow base 24 8 v l.length (flt dc (sortK (kW m) l))) :=
  (sort_ownC sortL Try.isAgg24 Try.sizeOf24 (by omega) dc_length dc_one (cmpW m) (swo_key (cmpW m) (kW m) (fun x y => cmpW_lt)) 38 (fun args w => fn.i38.run w args) [.pointer (some ⟨bm, 0, none⟩)] ho (by omega) (fun x y W hk => cmpw_spec (hm.kp hk hbm) x y)).mono (fun e w' ⟨h1, h2, l', h3, h4, h5⟩ => ⟨h1, h2, by
    have e : l' = sortK (kW m) l := sorted_uniq (key := kW m) (fun x y => kW_inj) h3 (sortK_perm _ l) (h4.imp (fun h => (ltOf_false (cf := cmpW m) (key := kW m) (fun x y => cmpW_lt)).1 h)) (sortK_sorted _ l)
    rwa [e] at h5⟩)
end Go.Proofs.Ytnoipmimddoioaa
/-
  Offers that fit; the mix of offers.
-/
namespace Go.Proofs.Ytnoipmimddoioaa
open Go.Proofs Go.Shelf Go.Sort
set_option linter.unusedVariables false

theorem bsg' (w : World) (a0 a1 a2 a3 a4 a5 a6 a7 : UInt8) : (Instr.buildSlice 25 1 #[(0, .agg #[bv a0, bv a1, bv a2, bv a3, bv a4, bv a5, bv a6, bv a7])]).run Try.prog w = .ok (.slice (some ⟨w.heap.size, 0, none⟩) 1 1) { w with heap := w.heap.push (.cells #[bv a0, bv a1, bv a2, bv a3, bv a4, bv a5, bv a6, bv a7] 24) } := by kernel_rfl
theorem bsg (x : Dg) (w : World) : (Instr.buildSlice 25 1 #[(0, dv x)]).run Try.prog w = .ok (.slice (some ⟨w.heap.size, 0, none⟩) 1 1) { w with heap := w.heap.push (.cells (dc x).toArray 24) } := by
  obtain ⟨l, hl⟩ := x
  match l, hl with
  | [a0, a1, a2, a3, a4, a5, a6, a7], _ => exact bsg' w a0 a1 a2 a3 a4 a5 a6 a7
theorem bsr8' (w : World) (a0 a1 a2 a3 a4 a5 a6 a7 : UInt8) : (Instr.buildSlice 37 1 #[(0, .agg #[bv a0, bv a1, bv a2, bv a3, bv a4, bv a5, bv a6, bv a7])]).run Try.prog w = .ok (.slice (some ⟨w.heap.size, 0, none⟩) 1 1) { w with heap := w.heap.push (.cells #[bv a0, bv a1, bv a2, bv a3, bv a4, bv a5, bv a6, bv a7] 23) } := by kernel_rfl
theorem bsr8 (x : Dg) (w : World) : (Instr.buildSlice 37 1 #[(0, dv x)]).run Try.prog w = .ok (.slice (some ⟨w.heap.size, 0, none⟩) 1 1) { w with heap := w.heap.push (.cells (dc x).toArray 23) } := by
  obtain ⟨l, hl⟩ := x
  match l, hl with
  | [a0, a1, a2, a3, a4, a5, a6, a7], _ => exact bsr8' w a0 a1 a2 a3 a4 a5 a6 a7
/-- One in a new slice. -/
theorem sl_one {α : Type} {enc : α → List Value} {sz : Nat} (he : ∀ x, (enc x).length = sz) {w : World} {b : Nat} {T : TypeId} {x : α} (h : Blk w b (.cells (enc x).toArray T)) : Sl enc sz w (some ⟨b, 0, none⟩) [x] :=
  flt_rowf he (by rw [flt_one]; exact h)
def mixD (l : List Ofr) : Dg := manyI (sortK num (l.map digO))
def idxZ {α : Type} (p : α → Bool) (l : List α) : Int := if l.findIdx p < l.length then (l.findIdx p : Int) else -1
theorem idxZ_any {α : Type} (p : α → Bool) (l : List α) : (0 ≤ idxZ p l) ↔ l.any p = true := by
  unfold idxZ
  by_cases h : l.findIdx p < l.length
  · rw [if_pos h]
    have h1 := List.findIdx_getElem (w := h)
    exact ⟨fun _ => List.any_eq_true.2 ⟨_, List.getElem_mem h, h1⟩, fun _ => by omega⟩
  · rw [if_neg h]
    constructor
    · intro h1; omega
    · intro h1
      obtain ⟨x, hx, hp⟩ := List.any_eq_true.1 h1
      exact absurd (List.findIdx_lt_length_of_exists ⟨x, hx, hp⟩) h

attribute [local irreducible] CG NG SG Vals Der Row Blk MapIs IterAt addI xorI orI andI shlI shrI mulI twoI cmpD cmpW kW digO manyI
set_option maxHeartbeats 16000000 in
theorem idxf_spec {w : World} {l : List Ofr} {a : Option Addr} {c : Nat} {f : FuncId} [Fn : Fnc Try.prog f] {caps : List Value} {p : Ofr → Bool} (hS : Sl ec 21 w a l) (hl : l.length ≤ 1000000000) (hp : ∀ o ∈ l, ∀ W, Kp [] w W → Ret Try.prog f (ov o :: caps).toArray W (.bool (p o))) :
    Ret Try.prog 85 #[.slice a l.length c, fnv f caps] w (.int .i64 (idxZ p l)) := by
  refine enter2 Try.func85 rfl Try.ntmps85 rfl ?_
  repeat (first|apply CG.seq|apply CG.region|apply SG.nil|apply NG.next|apply CG.skip|apply CG.block|apply CG.ret|apply CG.exit|apply NG.ret_then|apply NG.ret_block|apply NG.exit_then|refine NG.exit_block rfl ?_|apply NG.normal_block|refine SG.val rfl rfl rfl rfl (by first|((first|apply qmf|apply qmv|apply qas|apply qla|apply qix|apply qls|apply qad|apply qln|apply qge|apply qnt)<;>(first|exact rfl|assumption|exact Ar.mk (by omega)|exact dct (by first|assumption|omega)|exact dcf (by first|assumption|omega)|exact List.not_mem_nil|apply dc_length|apply ec_length|fail))|fail) ?_)
  refine CG.loop (X := Nat) (fun i => [(0, .slice a l.length c), (1, fnv f caps), (7, .int .i64 (l.length : Int)), (8, .int .i64 (i : Int))]) (fun i w' => i ≤ l.length ∧ Kp [] w w' ∧ ∀ j (h : j < l.length), j < i → p l[j] = false) (fun i => l.length - i) 0 ⟨by omega, Kp.refl _ _, fun j _ h => absurd h (Nat.not_lt_zero j)⟩ (by (repeat' (first | exact True.intro | exact rfl | refine And.intro ?_ ?_))) ?_
  rintro i w1 ⟨hi, hk, hno⟩
  by_cases hlt : i < l.length
  · have g1 : (i : Int) < (l.length : Int) := by omega
    obtain ⟨b1, o1, rfl, hr1⟩ := (hS.kp0 hk).at hlt
    have hpi := fun W h => hp l[i] (List.getElem_mem hlt) W h
    repeat (first|apply CG.seq|apply CG.region|apply SG.nil|apply NG.next|apply CG.skip|apply CG.block|apply CG.ret|apply CG.exit|apply NG.ret_then|apply NG.ret_block|apply NG.exit_then|refine NG.exit_block rfl ?_|apply NG.normal_block|refine SG.val rfl rfl rfl rfl (by first|((first|apply qmf|apply qmv|apply qas|apply qla|apply qix|apply qls|apply qad|apply qln|apply qge|apply qnt)<;>(first|exact rfl|assumption|exact Ar.mk (by omega)|exact dct (by first|assumption|omega)|exact dcf (by first|assumption|omega)|exact List.not_mem_nil|apply dc_length|apply ec_length|fail))|fail) ?_)
    refine CG.cond_t rfl (by exact rho_of rfl) rfl ?_
    repeat (first|apply CG.seq|apply CG.region|apply SG.nil|apply NG.next|apply CG.skip|apply CG.block|apply CG.ret|apply CG.exit|apply NG.ret_then|apply NG.ret_block|apply NG.exit_then|refine NG.exit_block rfl ?_|apply NG.normal_block|refine SG.val rfl rfl rfl rfl (by first|((first|apply qmf|apply qmv|apply qas|apply qla|apply qix|apply qls|apply qad|apply qln|apply qge|apply qnt)<;>(first|exact rfl|assumption|exact Ar.mk (by omega)|exact dct (by first|assumption|omega)|exact dcf (by first|assumption|omega)|exact List.not_mem_nil|apply dc_length|apply ec_length|fail))|fail) ?_)
    refine SG.retVC (Fn := Fn) (vs := [ov l[i]]) (caps := caps) rfl rfl rfl (by exact rho_of rfl) (by repeat' (first | exact True.intro | exact rho_of rfl | refine And.intro ?_ ?_)) (hpi w1 hk) (fun w2 hk2 => ?_)
    cases hpp : p l[i] with
    | true =>
      repeat (first|apply CG.seq|apply CG.region|apply SG.nil|apply NG.next|apply CG.skip|apply CG.block|apply CG.ret|apply CG.exit|apply NG.ret_then|apply NG.ret_block|apply NG.exit_then|refine NG.exit_block rfl ?_|apply NG.normal_block|refine SG.val rfl rfl rfl rfl (by first|((first|apply qmf|apply qmv|apply qas|apply qla|apply qix|apply qls|apply qad|apply qln|apply qge|apply qnt)<;>(first|exact rfl|assumption|exact Ar.mk (by omega)|exact dct (by first|assumption|omega)|exact dcf (by first|assumption|omega)|exact List.not_mem_nil|apply dc_length|apply ec_length|fail))|fail) ?_)
      refine CG.cond_t rfl (by exact rho_of rfl) rfl ?_
      repeat (first|apply CG.seq|apply CG.region|apply SG.nil|apply NG.next|apply CG.skip|apply CG.block|apply CG.ret|apply CG.exit|apply NG.ret_then|apply NG.ret_block|apply NG.exit_then|refine NG.exit_block rfl ?_|apply NG.normal_block|refine SG.val rfl rfl rfl rfl (by first|((first|apply qmf|apply qmv|apply qas|apply qla|apply qix|apply qls|apply qad|apply qln|apply qge|apply qnt)<;>(first|exact rfl|assumption|exact Ar.mk (by omega)|exact dct (by first|assumption|omega)|exact dcf (by first|assumption|omega)|exact List.not_mem_nil|apply dc_length|apply ec_length|fail))|fail) ?_)
      refine ret1 (Or.inl rfl) Try.results85 (by first | exact ResV.tmp rfl | exact ResV.agg rfl rfl (by assumption) (by first | exact dc_length _ | exact nc_length _ | exact rc_length _ _ _ | exact ec_length _ | exact dl_length _ _ _ _ | rfl) | exact ResV.cell rfl rfl (by assumption)) ?_
      have e : l.findIdx p = i := (List.findIdx_eq hlt).2 ⟨hpp, fun j hj => by rw [hno j (by omega) hj]⟩
      have e2 : idxZ p l = (i : Int) := by
        unfold idxZ
        rw [e, if_pos hlt]
      rw [e2]
      exact ⟨rfl, hk.trans hk2⟩
    | false =>
      repeat (first|apply CG.seq|apply CG.region|apply SG.nil|apply NG.next|apply CG.skip|apply CG.block|apply CG.ret|apply CG.exit|apply NG.ret_then|apply NG.ret_block|apply NG.exit_then|refine NG.exit_block rfl ?_|apply NG.normal_block|refine SG.val rfl rfl rfl rfl (by first|((first|apply qmf|apply qmv|apply qas|apply qla|apply qix|apply qls|apply qad|apply qln|apply qge|apply qnt)<;>(first|exact rfl|assumption|exact Ar.mk (by omega)|exact dct (by first|assumption|omega)|exact dcf (by first|assumption|omega)|exact List.not_mem_nil|apply dc_length|apply ec_length|fail))|fail) ?_)
      refine CG.cond_f rfl (by exact rho_of rfl) rfl ?_
      repeat (first|apply CG.seq|apply CG.region|apply SG.nil|apply NG.next|apply CG.skip|apply CG.block|apply CG.ret|apply CG.exit|apply NG.ret_then|apply NG.ret_block|apply NG.exit_then|refine NG.exit_block rfl ?_|apply NG.normal_block|refine SG.val rfl rfl rfl rfl (by first|((first|apply qmf|apply qmv|apply qas|apply qla|apply qix|apply qls|apply qad|apply qln|apply qge|apply qnt)<;>(first|exact rfl|assumption|exact Ar.mk (by omega)|exact dct (by first|assumption|omega)|exact dcf (by first|assumption|omega)|exact List.not_mem_nil|apply dc_length|apply ec_length|fail))|fail) ?_)
      refine NG.round (i + 1) (by (repeat' (first | exact True.intro | exact rfl | refine And.intro ?_ ?_))) ⟨by omega, hk.trans hk2, fun j h hj => ?_⟩ (by omega)
      by_cases e : j = i
      · subst e; exact hpp
      · exact hno j h (by omega)
  · have g1 : ¬ (i : Int) < (l.length : Int) := by omega
    repeat (first|apply CG.seq|apply CG.region|apply SG.nil|apply NG.next|apply CG.skip|apply CG.block|apply CG.ret|apply CG.exit|apply NG.ret_then|apply NG.ret_block|apply NG.exit_then|refine NG.exit_block rfl ?_|apply NG.normal_block|refine SG.val rfl rfl rfl rfl (by first|((first|apply qmf|apply qmv|apply qas|apply qla|apply qix|apply qls|apply qad|apply qln|apply qge|apply qnt)<;>(first|exact rfl|assumption|exact Ar.mk (by omega)|exact dct (by first|assumption|omega)|exact dcf (by first|assumption|omega)|exact List.not_mem_nil|apply dc_length|apply ec_length|fail))|fail) ?_)
    refine CG.cond_f rfl (by exact rho_of rfl) rfl ?_
    repeat (first|apply CG.seq|apply CG.region|apply SG.nil|apply NG.next|apply CG.skip|apply CG.block|apply CG.ret|apply CG.exit|apply NG.ret_then|apply NG.ret_block|apply NG.exit_then|refine NG.exit_block rfl ?_|apply NG.normal_block|refine SG.val rfl rfl rfl rfl (by first|((first|apply qmf|apply qmv|apply qas|apply qla|apply qix|apply qls|apply qad|apply qln|apply qge|apply qnt)<;>(first|exact rfl|assumption|exact Ar.mk (by omega)|exact dct (by first|assumption|omega)|exact dcf (by first|assumption|omega)|exact List.not_mem_nil|apply dc_length|apply ec_length|fail))|fail) ?_)
    refine ret1 (Or.inl rfl) Try.results85 (by first | exact ResV.tmp rfl | exact ResV.agg rfl rfl (by assumption) (by first | exact dc_length _ | exact nc_length _ | exact rc_length _ _ _ | exact ec_length _ | exact dl_length _ _ _ _ | rfl) | exact ResV.cell rfl rfl (by assumption)) ?_
    have e2 : idxZ p l = -1 := by
      unfold idxZ
      rw [if_neg]
      intro h
      have h1 := List.findIdx_getElem (w := h)
      rw [hno _ h (by omega)] at h1
      cases h1
    rw [e2]
    exact ⟨rfl, hk⟩
set_option maxHeartbeats 16000000 in
theorem contf_spec {w : World} {l : List Ofr} {a : Option Addr} {c : Nat} {f : FuncId} [Fn : Fnc Try.prog f] {caps : List Value} {p : Ofr → Bool} (hS : Sl ec 21 w a l) (hl : l.length ≤ 1000000000) (hp : ∀ o ∈ l, ∀ W, Kp [] w W → Ret Try.prog f (ov o :: caps).toArray W (.bool (p o))) :
    Ret Try.prog 64 #[.slice a l.length c, fnv f caps] w (.bool (l.any p)) := by
  refine enter2 Try.func64 rfl Try.ntmps64 rfl ?_
  have hz := idxZ_any p l
  have hsp := idxf_spec (c := c) hS hl hp
  generalize idxZ p l = z at hz hsp
  repeat (first|apply CG.seq|apply CG.region|apply SG.nil|apply NG.next|apply CG.skip|apply CG.block|apply CG.ret|apply CG.exit|apply NG.ret_then|apply NG.ret_block|apply NG.exit_then|refine NG.exit_block rfl ?_|apply NG.normal_block|refine SG.val rfl rfl rfl rfl (by first|((first|apply qmf|apply qmv|apply qas|apply qla|apply qix|apply qls|apply qad|apply qln|apply qge|apply qnt)<;>(first|exact rfl|assumption|exact Ar.mk (by omega)|exact dct (by first|assumption|omega)|exact dcf (by first|assumption|omega)|exact List.not_mem_nil|apply dc_length|apply ec_length|fail))|fail) ?_)
  refine SG.ret rfl rfl rfl (by repeat' (first | exact True.intro | exact rho_of rfl | refine And.intro ?_ ?_)) hsp (fun w1 hk1 => ?_)
  cases hb : l.any p with
  | true =>
    have g1 := hz.2 hb
    repeat (first|apply CG.seq|apply CG.region|apply SG.nil|apply NG.next|apply CG.skip|apply CG.block|apply CG.ret|apply CG.exit|apply NG.ret_then|apply NG.ret_block|apply NG.exit_then|refine NG.exit_block rfl ?_|apply NG.normal_block|refine SG.val rfl rfl rfl rfl (by first|((first|apply qmf|apply qmv|apply qas|apply qla|apply qix|apply qls|apply qad|apply qln|apply qge|apply qnt)<;>(first|exact rfl|assumption|exact Ar.mk (by omega)|exact dct (by first|assumption|omega)|exact dcf (by first|assumption|omega)|exact List.not_mem_nil|apply dc_length|apply ec_length|fail))|fail) ?_)
    refine ret1 (Or.inl rfl) Try.results64 (by first | exact ResV.tmp rfl | exact ResV.agg rfl rfl (by assumption) (by first | exact dc_length _ | exact nc_length _ | exact rc_length _ _ _ | exact ec_length _ | exact dl_length _ _ _ _ | rfl) | exact ResV.cell rfl rfl (by assumption)) ?_
    exact ⟨rfl, hk1⟩
  | false =>
    have g1 : ¬ 0 ≤ z := fun h => by rw [hz.1 h] at hb; cases hb
    repeat (first|apply CG.seq|apply CG.region|apply SG.nil|apply NG.next|apply CG.skip|apply CG.block|apply CG.ret|apply CG.exit|apply NG.ret_then|apply NG.ret_block|apply NG.exit_then|refine NG.exit_block rfl ?_|apply NG.normal_block|refine SG.val rfl rfl rfl rfl (by first|((first|apply qmf|apply qmv|apply qas|apply qla|apply qix|apply qls|apply qad|apply qln|apply qge|apply qnt)<;>(first|exact rfl|assumption|exact Ar.mk (by omega)|exact dct (by first|assumption|omega)|exact dcf (by first|assumption|omega)|exact List.not_mem_nil|apply dc_length|apply ec_length|fail))|fail) ?_)
    refine ret1 (Or.inl rfl) Try.results64 (by first | exact ResV.tmp rfl | exact ResV.agg rfl rfl (by assumption) (by first | exact dc_length _ | exact nc_length _ | exact rc_length _ _ _ | exact ec_length _ | exact dl_length _ _ _ _ | rfl) | exact ResV.cell rfl rfl (by assumption)) ?_
    exact ⟨rfl, hk1⟩
set_option maxHeartbeats 16000000 in
theorem nofit_spec {w : World} {b3 : Nat} {o : Ofr} (x : Ofr) (hr : Row w b3 0 (ec o)) : Ret Try.prog 66 #[ov x, .pointer (some ⟨b3, 0, none⟩)] w (.bool (!decide (fitP x o))) := by
  refine enter2 Try.func66 rfl Try.ntmps66 rfl ?_
  repeat (first|apply CG.seq|apply CG.region|apply SG.nil|apply NG.next|apply CG.skip|apply CG.block|apply CG.ret|apply CG.exit|apply NG.ret_then|apply NG.ret_block|apply NG.exit_then|refine NG.exit_block rfl ?_|apply NG.normal_block|refine SG.val rfl rfl rfl rfl (by first|((first|apply qmf|apply qmv|apply qas|apply qla|apply qix|apply qls|apply qad|apply qln|apply qge|apply qnt)<;>(first|exact rfl|assumption|exact Ar.mk (by omega)|exact dct (by first|assumption|omega)|exact dcf (by first|assumption|omega)|exact List.not_mem_nil|apply dc_length|apply ec_length|fail))|fail) ?_)
  refine SG.box rfl rfl rfl (by exact rho_of rfl) (fun b1 w1 hk1 hb1 hB1 => ?_)
  have hB1 : Blk w1 b1 (.cells (ec x).toArray 47) := hB1
  have r1 := Row.all (l := ec x) hB1 rfl
  have r2 := hr.kp0 hk1
  repeat (first|apply CG.seq|apply CG.region|apply SG.nil|apply NG.next|apply CG.skip|apply CG.block|apply CG.ret|apply CG.exit|apply NG.ret_then|apply NG.ret_block|apply NG.exit_then|refine NG.exit_block rfl ?_|apply NG.normal_block|refine SG.val rfl rfl rfl rfl (by first|((first|apply qmf|apply qmv|apply qas|apply qla|apply qix|apply qls|apply qad|apply qln|apply qge|apply qnt)<;>(first|exact rfl|assumption|exact Ar.mk (by omega)|exact dct (by first|assumption|omega)|exact dcf (by first|assumption|omega)|exact List.not_mem_nil|apply dc_length|apply ec_length|fail))|fail) ?_)
  refine SG.ret rfl rfl rfl (vs := [ov x, ov o]) (by repeat' (first | exact True.intro | exact rho_of rfl | refine And.intro ?_ ?_)) (fit_spec x o w1) (fun w2 hk2 => ?_)
  repeat (first|apply CG.seq|apply CG.region|apply SG.nil|apply NG.next|apply CG.skip|apply CG.block|apply CG.ret|apply CG.exit|apply NG.ret_then|apply NG.ret_block|apply NG.exit_then|refine NG.exit_block rfl ?_|apply NG.normal_block|refine SG.val rfl rfl rfl rfl (by first|((first|apply qmf|apply qmv|apply qas|apply qla|apply qix|apply qls|apply qad|apply qln|apply qge|apply qnt)<;>(first|exact rfl|assumption|exact Ar.mk (by omega)|exact dct (by first|assumption|omega)|exact dcf (by first|assumption|omega)|exact List.not_mem_nil|apply dc_length|apply ec_length|fail))|fail) ?_)
  refine ret1 (Or.inl rfl) Try.results66 (by first | exact ResV.tmp rfl | exact ResV.agg rfl rfl (by assumption) (by first | exact dc_length _ | exact nc_length _ | exact rc_length _ _ _ | exact ec_length _ | exact dl_length _ _ _ _ | rfl) | exact ResV.cell rfl rfl (by assumption)) ?_
  exact ⟨rfl, hk1.trans hk2⟩
set_option maxHeartbeats 16000000 in
theorem fits_spec {w : World} {l : List Ofr} {a : Option Addr} {c : Nat} (hS : Sl ec 21 w a l) (hl : l.length ≤ 1000000000) (o : Ofr) : Ret Try.prog 35 #[.slice a l.length c, ov o] w (.bool (!l.any (fun x => !decide (fitP x o)))) := by
  refine enter2 Try.func35 rfl Try.ntmps35 rfl ?_
  repeat (first|apply CG.seq|apply CG.region|apply SG.nil|apply NG.next|apply CG.skip|apply CG.block|apply CG.ret|apply CG.exit|apply NG.ret_then|apply NG.ret_block|apply NG.exit_then|refine NG.exit_block rfl ?_|apply NG.normal_block|refine SG.val rfl rfl rfl rfl (by first|((first|apply qmf|apply qmv|apply qas|apply qla|apply qix|apply qls|apply qad|apply qln|apply qge|apply qnt)<;>(first|exact rfl|assumption|exact Ar.mk (by omega)|exact dct (by first|assumption|omega)|exact dcf (by first|assumption|omega)|exact List.not_mem_nil|apply dc_length|apply ec_length|fail))|fail) ?_)
  refine SG.box rfl rfl rfl (by exact rho_of rfl) (fun b1 w1 hk1 hb1 hB1 => ?_)
  have hB1 : Blk w1 b1 (.cells (ec o).toArray 47) := hB1
  have r1 := Row.all (l := ec o) hB1 rfl
  repeat (first|apply CG.seq|apply CG.region|apply SG.nil|apply NG.next|apply CG.skip|apply CG.block|apply CG.ret|apply CG.exit|apply NG.ret_then|apply NG.ret_block|apply NG.exit_then|refine NG.exit_block rfl ?_|apply NG.normal_block|refine SG.val rfl rfl rfl rfl (by first|((first|apply qmf|apply qmv|apply qas|apply qla|apply qix|apply qls|apply qad|apply qln|apply qge|apply qnt)<;>(first|exact rfl|assumption|exact Ar.mk (by omega)|exact dct (by first|assumption|omega)|exact dcf (by first|assumption|omega)|exact List.not_mem_nil|apply dc_length|apply ec_length|fail))|fail) ?_)
  refine SG.val rfl rfl rfl rfl (qmf (vs := [.pointer (some ⟨b1, 0, none⟩)]) rfl) ?_
  refine SG.ret rfl rfl rfl (vs := [.slice a l.length c, fnv 66 [.pointer (some ⟨b1, 0, none⟩)]]) (by repeat' (first | exact True.intro | exact rho_of rfl | refine And.intro ?_ ?_)) (contf_spec (f := 66) (caps := [.pointer (some ⟨b1, 0, none⟩)]) (p := fun x => !decide (fitP x o)) (hS.kp0 hk1) hl (fun x _ W hk => nofit_spec x (r1.kp0 hk))) (fun w2 hk2 => ?_)
  repeat (first|apply CG.seq|apply CG.region|apply SG.nil|apply NG.next|apply CG.skip|apply CG.block|apply CG.ret|apply CG.exit|apply NG.ret_then|apply NG.ret_block|apply NG.exit_then|refine NG.exit_block rfl ?_|apply NG.normal_block|refine SG.val rfl rfl rfl rfl (by first|((first|apply qmf|apply qmv|apply qas|apply qla|apply qix|apply qls|apply qad|apply qln|apply qge|apply qnt)<;>(first|exact rfl|assumption|exact Ar.mk (by omega)|exact dct (by first|assumption|omega)|exact dcf (by first|assumption|omega)|exact List.not_mem_nil|apply dc_length|apply ec_length|fail))|fail) ?_)
  refine ret1 (Or.inl rfl) Try.results35 (by first | exact ResV.tmp rfl | exact ResV.agg rfl rfl (by assumption) (by first | exact dc_length _ | exact nc_length _ | exact rc_length _ _ _ | exact ec_length _ | exact dl_length _ _ _ _ | rfl) | exact ResV.cell rfl rfl (by assumption)) ?_
  exact ⟨rfl, hk1.trans hk2⟩
set_option maxHeartbeats 16000000 in
theorem mix_spec {w : World} {l : List Ofr} {a : Option Addr} {c : Nat} (hS : Sl ec 21 w a l) (hl : l.length ≤ 100000) : Ret Try.prog 36 #[.slice a l.length c] w (dv (mixD l)) := by
  refine enter1 Try.func36 rfl Try.ntmps36 rfl ?_
  repeat (first|apply CG.seq|apply CG.region|apply SG.nil|apply NG.next|apply CG.skip|apply CG.block|apply CG.ret|apply CG.exit|apply NG.ret_then|apply NG.ret_block|apply NG.exit_then|refine NG.exit_block rfl ?_|apply NG.normal_block|refine SG.val rfl rfl rfl rfl (by first|((first|apply qmf|apply qmv|apply qas|apply qla|apply qix|apply qls|apply qad|apply qln|apply qge|apply qnt)<;>(first|exact rfl|assumption|exact Ar.mk (by omega)|exact dct (by first|assumption|omega)|exact dcf (by first|assumption|omega)|exact List.not_mem_nil|apply dc_length|apply ec_length|fail))|fail) ?_)
  refine SG.alloc rfl rfl rfl (fun b2 w1 hk1 hb2 hB2 => ?_)
  have hB2 : Blk w1 b2 (.cells (dc zd).toArray 24) := hB2
  have l2 := hB2.lt
  repeat (first|apply CG.seq|apply CG.region|apply SG.nil|apply NG.next|apply CG.skip|apply CG.block|apply CG.ret|apply CG.exit|apply NG.ret_then|apply NG.ret_block|apply NG.exit_then|refine NG.exit_block rfl ?_|apply NG.normal_block|refine SG.val rfl rfl rfl rfl (by first|((first|apply qmf|apply qmv|apply qas|apply qla|apply qix|apply qls|apply qad|apply qln|apply qge|apply qnt)<;>(first|exact rfl|assumption|exact Ar.mk (by omega)|exact dct (by first|assumption|omega)|exact dcf (by first|assumption|omega)|exact List.not_mem_nil|apply dc_length|apply ec_length|fail))|fail) ?_)
  refine CG.loop (X := Value × Nat) (fun x => [(2, .pointer (some ⟨b2, 0, none⟩)), (3, x.1), (6, .slice a l.length c), (7, .int .i64 (l.length : Int)), (8, .int .i64 (x.2 : Int))]) (fun x w' => x.2 ≤ l.length ∧ Kp [] w1 w' ∧ w'.ownsRow w1.heap.size 24 8 x.1 ((l.take x.2).map digO).length (flt dc ((l.take x.2).map digO))) (fun x => l.length - x.2) (.slice none 0 0, 0) ⟨by simp only; omega, Kp.refl _ _, own_nil⟩ (by (repeat' (first | exact True.intro | exact rfl | refine And.intro ?_ ?_))) ?_
  rintro ⟨v, i⟩ w2 ⟨hi, hk2, ho⟩
  simp only at hi ho
  refine CG.to [(2, .pointer (some ⟨b2, 0, none⟩)), (3, v), (6, .slice a l.length c), (7, .int .i64 (l.length : Int)), (8, .int .i64 (i : Int))] (by (repeat' (first | exact True.intro | exact rfl | refine And.intro ?_ ?_))) ?_
  have k2 := hk1.trans hk2
  by_cases hlt : i < l.length
  · have g1 : (i : Int) < (l.length : Int) := by omega
    obtain ⟨b1, o1, rfl, hr1⟩ := (hS.kp0 k2).at hlt
    repeat (first|apply CG.seq|apply CG.region|apply SG.nil|apply NG.next|apply CG.skip|apply CG.block|apply CG.ret|apply CG.exit|apply NG.ret_then|apply NG.ret_block|apply NG.exit_then|refine NG.exit_block rfl ?_|apply NG.normal_block|refine SG.val rfl rfl rfl rfl (by first|((first|apply qmf|apply qmv|apply qas|apply qla|apply qix|apply qls|apply qad|apply qln|apply qge|apply qnt)<;>(first|exact rfl|assumption|exact Ar.mk (by omega)|exact dct (by first|assumption|omega)|exact dcf (by first|assumption|omega)|exact List.not_mem_nil|apply dc_length|apply ec_length|fail))|fail) ?_)
    refine CG.cond_t rfl (by exact rho_of rfl) rfl ?_
    repeat (first|apply CG.seq|apply CG.region|apply SG.nil|apply NG.next|apply CG.skip|apply CG.block|apply CG.ret|apply CG.exit|apply NG.ret_then|apply NG.ret_block|apply NG.exit_then|refine NG.exit_block rfl ?_|apply NG.normal_block|refine SG.val rfl rfl rfl rfl (by first|((first|apply qmf|apply qmv|apply qas|apply qla|apply qix|apply qls|apply qad|apply qln|apply qge|apply qnt)<;>(first|exact rfl|assumption|exact Ar.mk (by omega)|exact dct (by first|assumption|omega)|exact dcf (by first|assumption|omega)|exact List.not_mem_nil|apply dc_length|apply ec_length|fail))|fail) ?_)
    refine SG.alloc rfl rfl rfl (fun b5 w3 hk3 hb5 hB5 => ?_)
    refine SG.setAll (l := ec l[i]) rfl rfl (by exact rho_of rfl) (by exact rho_of rfl) hB5 (ec_length _) rfl (ec_one _) (fun w4 hk4 hB6 => ?_)
    have hr6 : Row w4 b5 0 (ec l[i]) := Row.all hB6 rfl
    have k4 : Kp [] w2 w4 := hk3.trans_new hk4 (new1 (by omega))
    repeat (first|apply CG.seq|apply CG.region|apply SG.nil|apply NG.next|apply CG.skip|apply CG.block|apply CG.ret|apply CG.exit|apply NG.ret_then|apply NG.ret_block|apply NG.exit_then|refine NG.exit_block rfl ?_|apply NG.normal_block|refine SG.val rfl rfl rfl rfl (by first|((first|apply qmf|apply qmv|apply qas|apply qla|apply qix|apply qls|apply qad|apply qln|apply qge|apply qnt)<;>(first|exact rfl|assumption|exact Ar.mk (by omega)|exact dct (by first|assumption|omega)|exact dcf (by first|assumption|omega)|exact List.not_mem_nil|apply dc_length|apply ec_length|fail))|fail) ?_)
    refine SG.ret rfl rfl rfl (vs := [ov l[i]]) (by repeat' (first | exact True.intro | exact rho_of rfl | refine And.intro ?_ ?_)) (digest_spec l[i] w4) (fun w5 hk5 => ?_)
    refine SG.buildSlice rfl rfl rfl rfl (bsg _) (fun b7 w6 hk6 hb7 hB7 => ?_)
    have k6 := (k4.trans hk5).trans hk6
    have hlen : ((l.take i).map digO).length = i := by rw [List.length_map, List.length_take]; omega
    refine SG.appO (enc := dc) (xs := (l.take i).map digO) (ys := [digO l[i]]) (base := w1.heap.size) rfl rfl rfl (by exact rho_of rfl) (by exact rho_of rfl) rfl rfl rfl rfl dc_length dc_one (own_kp0 ho k6) (sl_one dc_length hB7) (by rw [hlen]; simp only [maxLen, List.length_cons, List.length_nil]; omega) (by rw [hlen]; show (i + 1) * 8 ≤ _; omega) (hk2.trans k6).size (fun v8 w7 hk7 ho8 _ => ?_)
    have e : (l.take i).map digO ++ [digO l[i]] = (l.take (i + 1)).map digO := by rw [List.take_succ_eq_append_getElem hlt, List.map_append]; rfl
    rw [e] at ho8
    repeat (first|apply CG.seq|apply CG.region|apply SG.nil|apply NG.next|apply CG.skip|apply CG.block|apply CG.ret|apply CG.exit|apply NG.ret_then|apply NG.ret_block|apply NG.exit_then|refine NG.exit_block rfl ?_|apply NG.normal_block|refine SG.val rfl rfl rfl rfl (by first|((first|apply qmf|apply qmv|apply qas|apply qla|apply qix|apply qls|apply qad|apply qln|apply qge|apply qnt)<;>(first|exact rfl|assumption|exact Ar.mk (by omega)|exact dct (by first|assumption|omega)|exact dcf (by first|assumption|omega)|exact List.not_mem_nil|apply dc_length|apply ec_length|fail))|fail) ?_)
    refine NG.round (v8, i + 1) (by (repeat' (first | exact True.intro | exact rfl | refine And.intro ?_ ?_))) ⟨by simp only; omega, (hk2.trans k6).trans_new hk7 (own_new (own_kp0 ho k6) (Nat.le_refl _)), ho8⟩ (by simp only; omega)
  · have g1 : ¬ (i : Int) < (l.length : Int) := by omega
    rw [List.take_of_length_le (by omega)] at ho
    repeat (first|apply CG.seq|apply CG.region|apply SG.nil|apply NG.next|apply CG.skip|apply CG.block|apply CG.ret|apply CG.exit|apply NG.ret_then|apply NG.ret_block|apply NG.exit_then|refine NG.exit_block rfl ?_|apply NG.normal_block|refine SG.val rfl rfl rfl rfl (by first|((first|apply qmf|apply qmv|apply qas|apply qla|apply qix|apply qls|apply qad|apply qln|apply qge|apply qnt)<;>(first|exact rfl|assumption|exact Ar.mk (by omega)|exact dct (by first|assumption|omega)|exact dcf (by first|assumption|omega)|exact List.not_mem_nil|apply dc_length|apply ec_length|fail))|fail) ?_)
    refine CG.cond_f rfl (by exact rho_of rfl) rfl ?_
    repeat (first|apply CG.seq|apply CG.region|apply SG.nil|apply NG.next|apply CG.skip|apply CG.block|apply CG.ret|apply CG.exit|apply NG.ret_then|apply NG.ret_block|apply NG.exit_then|refine NG.exit_block rfl ?_|apply NG.normal_block|refine SG.val rfl rfl rfl rfl (by first|((first|apply qmf|apply qmv|apply qas|apply qla|apply qix|apply qls|apply qad|apply qln|apply qge|apply qnt)<;>(first|exact rfl|assumption|exact Ar.mk (by omega)|exact dct (by first|assumption|omega)|exact dcf (by first|assumption|omega)|exact List.not_mem_nil|apply dc_length|apply ec_length|fail))|fail) ?_)
    refine SG.call rfl rfl rfl (vs := [v, fnv 40 []]) (by repeat' (first | exact True.intro | exact rho_of rfl | refine And.intro ?_ ?_)) ((sortn_spec ho (by rw [List.length_map]; omega)).mono (fun e w3 hh => ?_))
    obtain ⟨he, hk3, ho3⟩ := hh
    refine ⟨_, he, ?_⟩
    have elen : (l.map digO).length = (sortK num (l.map digO)).length := (sortK_perm num (l.map digO)).length_eq.symm
    rw [elen] at ho3
    obtain ⟨a3, c3, rfl, _, hS3⟩ := Sl.own dc_length ho3 rfl
    have k3 : Kp [] w1 w3 := hk2.trans_new hk3 (own_new ho (Nat.le_refl _))
    have hab : ∀ b off, a3 = some ⟨b, off, none⟩ → b < w3.heap.size := fun b off e => by
      rcases ho3.2 with ⟨h1, _⟩ | ⟨g, cap, cur, h1, _, h2, _⟩
      · simp only [Value.slice.injEq] at h1
        rw [h1.1] at e
        cases e
      · simp only [Value.slice.injEq] at h1
        rw [h1.1] at e
        cases e
        exact (Array.getElem?_eq_some_iff.1 h2).1
    repeat (first|apply CG.seq|apply CG.region|apply SG.nil|apply NG.next|apply CG.skip|apply CG.block|apply CG.ret|apply CG.exit|apply NG.ret_then|apply NG.ret_block|apply NG.exit_then|refine NG.exit_block rfl ?_|apply NG.normal_block|refine SG.val rfl rfl rfl rfl (by first|((first|apply qmf|apply qmv|apply qas|apply qla|apply qix|apply qls|apply qad|apply qln|apply qge|apply qnt)<;>(first|exact rfl|assumption|exact Ar.mk (by omega)|exact dct (by first|assumption|omega)|exact dcf (by first|assumption|omega)|exact List.not_mem_nil|apply dc_length|apply ec_length|fail))|fail) ?_)
    refine SG.ret rfl rfl rfl (by repeat' (first | exact True.intro | exact rho_of rfl | refine And.intro ?_ ?_)) (many_spec c3 hS3 hab (by rw [← elen, List.length_map]; omega)) (fun w4 hk4 => ?_)
    refine SG.setAll (old := dc zd) (l := dc (mixD l)) rfl rfl (by exact rho_of rfl) (by exact rho_of rfl) (hB2.kp0 (k3.trans hk4)) (dc_length _) (dc_length _) (dc_one _) (fun w5 hk5 hB5 => ?_)
    have hr5 : Row w5 b2 0 (dc (mixD l)) := Row.all hB5 rfl
    repeat (first|apply CG.seq|apply CG.region|apply SG.nil|apply NG.next|apply CG.skip|apply CG.block|apply CG.ret|apply CG.exit|apply NG.ret_then|apply NG.ret_block|apply NG.exit_then|refine NG.exit_block rfl ?_|apply NG.normal_block|refine SG.val rfl rfl rfl rfl (by first|((first|apply qmf|apply qmv|apply qas|apply qla|apply qix|apply qls|apply qad|apply qln|apply qge|apply qnt)<;>(first|exact rfl|assumption|exact Ar.mk (by omega)|exact dct (by first|assumption|omega)|exact dcf (by first|assumption|omega)|exact List.not_mem_nil|apply dc_length|apply ec_length|fail))|fail) ?_)
    refine ret1 (Or.inl rfl) Try.results36 (by first | exact ResV.tmp rfl | exact ResV.agg rfl rfl (by assumption) (by first | exact dc_length _ | exact nc_length _ | exact rc_length _ _ _ | exact ec_length _ | exact dl_length _ _ _ _ | rfl) | exact ResV.cell rfl rfl (by assumption)) ?_
    exact ⟨rfl, ((hk1.trans k3).trans hk4).trans_new hk5 (new1 (by omega))⟩
end Go.Proofs.Ytnoipmimddoioaa
/-
  An element of an owned row is written over.
-/
namespace Go.Proofs.Ytnoipmimddoioaa
set_option linter.unusedVariables false
section
variable {α : Type} {enc : α → List Value} {sz : Nat}
theorem flt_set (he : ∀ x, (enc x).length = sz) (l : List α) (k : Nat) (hk : k < l.length) (x : α) (pre post : List Value) : spl (pre ++ (flt enc l ++ post)) (pre.length + k * sz) (enc x) = pre ++ (flt enc (l.set k x) ++ post) := by
  have h1 : pre ++ (flt enc l ++ post) = (pre ++ flt enc (l.take k)) ++ (enc l[k] ++ (flt enc (l.drop (k + 1)) ++ post)) := by rw [flt_split l k hk]; simp
  have h2 : (pre ++ flt enc (l.take k)).length = pre.length + k * sz := by
    rw [List.length_append, flt_length he, List.length_take, Nat.min_eq_left (by omega)]
  rw [h1, ← h2, spl_mid (by simp [he])]
  rw [List.set_eq_take_append_cons_drop, if_pos hk]
  simp [flt]
theorem own_slice {w : World} {base n : Nat} {T : TypeId} {v : Value} {xs : List Value} (ho : w.ownsRow base T sz v n xs) (hn : 0 < n) : ∃ g cap, v = .slice (some ⟨g, 0, none⟩) n cap ∧ n ≤ cap := by
  rcases ho.2 with ⟨_, h⟩ | ⟨g, cap, cur, h, _, _, h2, _⟩
  · omega
  · exact ⟨g, cap, h, h2⟩
theorem own_at {w : World} {base cap g : Nat} {T : TypeId} {l : List α} {n : Nat} (he : ∀ x, (enc x).length = sz) (ho : w.ownsRow base T sz (.slice (some ⟨g, 0, none⟩) n cap) n (flt enc l)) (hn : l.length = n) {k : Nat} (hk : k < l.length) : Row w g (0 + k * sz) (enc l[k]) := by
  obtain ⟨a, c, h1, _, hS⟩ := Sl.own he ho hn
  cases h1
  exact hS.row (List.getElem?_eq_getElem hk)
/-- One is written over. -/
theorem own_store {P : Program} {w : World} {base cap g n : Nat} {T : TypeId} {inf : TypeInfo} [f : Inf P T inf] {l : List α} (he : ∀ x, (enc x).length = inf.size) (hone : ∀ x, allOne (enc x) = true) (ho : w.ownsRow base T inf.size (.slice (some ⟨g, 0, none⟩) n cap) n (flt enc l)) (hn : l.length = n) {k : Nat} (hk : k < l.length) (x : α) :
    ∃ w', (Instr.storeAt T (.pointer (some ⟨g, 0 + k * inf.size, none⟩)) (.agg (enc x).toArray)).run P w = .ok () w' ∧ w'.ownsRow base T inf.size (.slice (some ⟨g, 0, none⟩) n cap) n (flt enc (l.set k x)) ∧ Kp [g] w w' := by
  rcases ho with ⟨h1, ⟨h2, _⟩ | ⟨g', cap', cur, h2, hb, hg, hc1, hc2, hc3, hc4⟩⟩
  · cases h2
  · cases h2
    have hB : Blk w g (.cells cur T) := hg
    have hlt : k * inf.size + inf.size ≤ n * inf.size := by
      have : (k + 1) * inf.size ≤ n * inf.size := Nat.mul_le_mul_right _ (by omega)
      rwa [Nat.add_mul, Nat.one_mul] at this
    have hle : n * inf.size ≤ cap * inf.size := Nat.mul_le_mul_right _ hc1
    have hcells : (Value.agg (enc x).toArray).cells.toList = enc x := by simp [Value.cells]
    have hrun := run_storeAt (P := P) (T := T) (off := 0 + k * inf.size) (v := .agg (enc x).toArray) hB (by rw [hcells]; exact he x) (by rw [hcells, he x]; omega) (by rw [hcells]; exact hone x)
    rw [hcells] at hrun
    refine ⟨_, hrun, ⟨by rw [flt_length he, List.length_set, hn], Or.inr ⟨g, cap, _, rfl, hb, hB.set _, hc1, hc2, ?_, ?_⟩⟩, Kp.set w hB rfl rfl⟩
    · have := spl_length (cs := cur.toList) (off := 0 + k * inf.size) (l := enc x) (by rw [he x]; simp; omega)
      rw [List.size_toArray, this]
      simpa using hc3
    · have hsplit : cur.toList = [] ++ (flt enc l ++ cur.toList.drop (n * inf.size)) := by
        rw [List.nil_append]
        conv => lhs; rw [← List.take_append_drop (n * inf.size) cur.toList]
        rw [hc4]
      have hset := flt_set he l k hk x [] (cur.toList.drop (n * inf.size))
      rw [← hsplit, List.length_nil, List.nil_append] at hset
      rw [List.toList_toArray, hset]
      refine (List.take_append_of_le_length ?_).trans (List.take_of_length_le ?_)
      · rw [flt_length he, List.length_set, hn]; exact Nat.le_refl _
      · rw [flt_length he, List.length_set, hn]; exact Nat.le_refl _
end
section
variable {P : Program} {α : Type} {enc : α → List Value} {m : Nat} {Q : Exit → Act → World → Prop} {ops rest : List Oper} {L : Env} {w : World} {ty : TypeId} {pos : String} {af : Array Edge} {q : Option (Nat × Bool)}
/-- .. in text order. -/
theorem SG.storeO {base cap g n : Nat} {T : TypeId} {inf : TypeInfo} [f : Inf P T inf] {l : List α} {a x : Operand} {y : α} {k o : Nat} (he : ∀ x, (enc x).length = inf.size) (hone : ∀ x, allOne (enc x) = true) (hw : want ops L ⟨none, .store T a x, ty, pos, af, q⟩ = some true) (hk : (known L a && known L x) = true)
    (ha : rho L a = .pointer (some ⟨g, o, none⟩)) (ho' : o = 0 + k * inf.size) (hx : rho L x = .agg (enc y).toArray) (ho : w.ownsRow base T inf.size (.slice (some ⟨g, 0, none⟩) n cap) n (flt enc l)) (hn : l.length = n) (hkl : k < l.length)
    (h : ∀ w', Kp [g] w w' → w'.ownsRow base T inf.size (.slice (some ⟨g, 0, none⟩) n cap) n (flt enc (l.set k y)) → SG P m ops Q rest L w') : SG P m ops Q (⟨none, .store T a x, ty, pos, af, q⟩ :: rest) L w := by
  subst ho'
  refine SG.op rfl rfl hw (by simpa [Op.operands] using hk) ?_
  obtain ⟨w', h1, h2, h3⟩ := own_store (P := P) he hone ho hn hkl y
  unfold OpRun
  have : (execOp (rho L) ⟨none, .store T a x, ty, pos, af, q⟩).run P w = .ok .skip w' := by
    simp only [execOp, hx, ha, Sem.run_bind, h1, Result.andThen, Sem.run_pure]
  rw [this]
  exact h w' h3 h2
end
end Go.Proofs.Ytnoipmimddoioaa
/-
  'clear' of what stands behind the first ones of an owned row.
-/
namespace Go.Proofs.Ytnoipmimddoioaa
set_option linter.unusedVariables false
theorem zeroCells_length (z : Array Value) (m : Nat) : (Builtin.zeroCells z m).toList.length = m * z.size := by simp [Builtin.zeroCells]
theorem zeroCells_one {z : Array Value} (hz : allOne z.toList = true) (m : Nat) : allOne (Builtin.zeroCells z m).toList = true := by
  unfold allOne
  rw [List.all_eq_true]
  intro v hv
  simp only [Builtin.zeroCells, Array.toList_map, List.mem_map] at hv
  obtain ⟨i, hi, rfl⟩ := hv
  have hi : i < m * z.size := by simpa using hi
  have h0 : 0 < z.size := by
    rcases Nat.eq_zero_or_pos z.size with h | h
    · rw [h] at hi; omega
    · exact h
  have hlt : i % z.size < z.size := Nat.mod_lt _ h0
  rw [getElem!_pos z _ hlt]
  exact List.all_eq_true.1 hz _ (by simp)
/-- The first i of an owned row. -/
theorem own_take {α : Type} {enc : α → List Value} {w : World} {base g n cap : Nat} {T : TypeId} {sz : Nat} {l : List α} (he : ∀ x, (enc x).length = sz) (ho : w.ownsRow base T sz (.slice (some ⟨g, 0, none⟩) n cap) n (flt enc l)) (hn : l.length = n) {i : Nat} (hi : i ≤ n) : w.ownsRow base T sz (.slice (some ⟨g, 0, none⟩) i cap) i (flt enc (l.take i)) := by
  rcases ho with ⟨h1, ⟨h2, _⟩ | ⟨g', cap', cur, h2, hb, hg, hc1, hc2, hc3, hc4⟩⟩
  · cases h2
  · cases h2
    refine ⟨by rw [flt_length he, List.length_take]; rw [Nat.min_eq_left (by omega)], Or.inr ⟨g, cap, cur, rfl, hb, hg, by omega, hc2, hc3, ?_⟩⟩
    have h3 : i * sz ≤ n * sz := Nat.mul_le_mul_right _ hi
    have : cur.toList.take (i * sz) = (flt enc l).take (i * sz) := by rw [← hc4, List.take_take, Nat.min_eq_left h3]
    rw [this]
    have e : flt enc l = flt enc (l.take i) ++ flt enc (l.drop i) := by rw [← flt_append, List.take_append_drop]
    have hl : (flt enc (l.take i)).length = i * sz := by rw [flt_length he, List.length_take, Nat.min_eq_left (by omega)]
    rw [e, List.take_append_of_le_length (by omega), ← hl, List.take_length]
section
variable {P : Program} {α : Type} {enc : α → List Value} {m : Nat} {Q : Exit → Act → World → Prop} {ops rest : List Oper} {L : Env} {w : World} {ty : TypeId} {pos : String} {af : Array Edge} {q : Option (Nat × Bool)}
theorem SG.clearO {base cap g n i : Nat} {t T : TypeId} {inf : TypeInfo} [u : Ut P t (.slice T)] [f : Inf P T inf] {z : Value} {l : List α} {x : Operand} {c2 : Nat} (he : ∀ x, (enc x).length = inf.size) (hw : want ops L ⟨none, .call { callee := .builtin .clear, args := #[x], argTypes := #[t] }, ty, pos, af, q⟩ = some true) (hk : known L x = true)
    (hx : rho L x = .slice (some ⟨g, i * inf.size, none⟩) (n - i) c2) (hz : inf.zero = some z) (hzs : Nat.beq z.cells.size inf.size = true) (hone : allOne z.cells.toList = true) (ho : w.ownsRow base T inf.size (.slice (some ⟨g, 0, none⟩) n cap) n (flt enc l)) (hn : l.length = n) (hi : i < n)
    (h : ∀ w', Kp [g] w w' → w'.ownsRow base T inf.size (.slice (some ⟨g, 0, none⟩) i cap) i (flt enc (l.take i)) → SG P m ops Q rest L w') : SG P m ops Q (⟨none, .call { callee := .builtin .clear, args := #[x], argTypes := #[t] }, ty, pos, af, q⟩ :: rest) L w := by
  have ho2 := own_take he ho hn (i := i) (by omega)
  refine SG.op rfl rfl hw (by simpa [Op.operands, Call.operands] using hk) ?_
  unfold OpRun
  rcases ho with ⟨h1, ⟨h2, _⟩ | ⟨g', cap', cur, h2, hb, hg, hc1, hc2, hc3, hc4⟩⟩
  · cases h2
  · cases h2
    have hB : Blk w g (.cells cur T) := hg
    have hsz := Nat.eq_of_beq_eq_true hzs
    have hlen : (Builtin.zeroCells z.cells (n - i)).toList.length = (n - i) * inf.size := by rw [zeroCells_length, hsz]
    have hle : n * inf.size ≤ cap * inf.size := Nat.mul_le_mul_right _ hc1
    have hsum : i * inf.size + (n - i) * inf.size = n * inf.size := by rw [← Nat.add_mul]; congr 1; omega
    have hst := run_storeCells (P := P) (b := g) (off := i * inf.size) (T := T) (Builtin.zeroCells z.cells (n - i)).toList 0 w cur hB (by rw [hlen]; omega) (zeroCells_one hone _)
    simp only [Nat.add_zero] at hst
    have hni : n - i = (n - i - 1) + 1 := by omega
    have hclear : (Builtin.clear_ #[t] ty #[.slice (some ⟨g, i * inf.size, none⟩) (n - i) c2]).run P w = .ok (.tuple #[]) { w with heap := w.heap.setIfInBounds g (.cells (spl cur.toList (i * inf.size) (Builtin.zeroCells z.cells (n - i)).toList).toArray T) } := by
      rw [hni] at hst ⊢
      simp only [Builtin.clear_, List.getElem?_toArray, List.getElem?_cons_zero, Sem.run_bind, run_underlying u.eq, Result.andThen_ok, run_zero hz, hst, Sem.run_pure]
    have : (execOp (rho L) ⟨none, .call { callee := .builtin .clear, args := #[x], argTypes := #[t] }, ty, pos, af, q⟩).run P w = .ok (.value (.tuple #[])) { w with heap := w.heap.setIfInBounds g (.cells (spl cur.toList (i * inf.size) (Builtin.zeroCells z.cells (n - i)).toList).toArray T) } := by
      simp only [execOp, resolve, invoke, builtin, Sem.run_bind, Sem.run_pure, Result.andThen_ok, List.map_toArray, List.map_cons, List.map_nil, hx, hclear]
    rw [this]
    refine h _ (Kp.set w hB rfl rfl) ?_
    rcases ho2 with ⟨k1, ⟨k2, _⟩ | ⟨g', cap', cur', k2, kb, kg, kc1, kc2, kc3, kc4⟩⟩
    · cases k2
    · cases k2
      have hu := hB.uniq kg
      simp only [Obj.cells.injEq] at hu
      obtain ⟨rfl, _, _⟩ := hu
      refine ⟨k1, Or.inr ⟨g, cap, _, rfl, kb, hB.set _, kc1, kc2, ?_, ?_⟩⟩
      · have := spl_length (cs := cur.toList) (off := i * inf.size) (l := (Builtin.zeroCells z.cells (n - i)).toList) (by rw [hlen]; simp; omega)
        rw [List.size_toArray, this]
        simpa using kc3
      · rw [List.toList_toArray]
        unfold spl
        rw [List.take_append_of_le_length (by rw [List.length_take]; simp; omega), List.take_take, Nat.min_self]
        exact kc4
end
end Go.Proofs.Ytnoipmimddoioaa
/-
  slices.DeleteFunc over offers.
-/
namespace Go.Proofs.Ytnoipmimddoioaa
open Go.Proofs Go.Shelf Go.Sort
set_option linter.unusedVariables false

theorem filt_find {α : Type} (p : α → Bool) (l : List α) : l.filter (fun x => !p x) = l.take (l.findIdx p) ++ (l.drop (l.findIdx p)).filter (fun x => !p x) := by
  conv => lhs; rw [← List.take_append_drop (l.findIdx p) l]
  rw [List.filter_append]
  congr 1
  rw [List.filter_eq_self]
  intro x hx
  obtain ⟨i, hi, rfl⟩ := List.getElem_of_mem hx
  rw [List.length_take] at hi
  rw [List.getElem_take]
  have := List.not_of_lt_findIdx (p := p) (xs := l) (i := i) (by omega)
  simpa using this
/-- What the pass has done: i kept, j seen. -/
structure Pass {α : Type} (p : α → Bool) (l cur : List α) (i j : Nat) : Prop where
  len : cur.length = l.length
  lt : i < j
  le : j ≤ l.length
  kept : cur.take i = (l.take j).filter (fun x => !p x)
  rest : cur.drop j = l.drop j
theorem Pass.init {α : Type} {p : α → Bool} {l : List α} (h : l.findIdx p < l.length) : Pass p l l (l.findIdx p) (l.findIdx p + 1) := by
  refine ⟨rfl, by omega, by omega, ?_, rfl⟩
  have h1 := filt_find p (l.take (l.findIdx p + 1))
  have e : l.take (l.findIdx p + 1) = l.take (l.findIdx p) ++ [l[l.findIdx p]] := List.take_succ_eq_append_getElem h
  rw [e, List.filter_append]
  have h2 : p l[l.findIdx p] = true := List.findIdx_getElem (w := h)
  simp only [List.filter_cons, h2, Bool.not_true, Bool.false_eq_true, if_false, List.filter_nil, List.append_nil]
  symm
  rw [List.filter_eq_self]
  intro x hx
  obtain ⟨i, hi, rfl⟩ := List.getElem_of_mem hx
  rw [List.length_take] at hi
  rw [List.getElem_take]
  have := List.not_of_lt_findIdx (p := p) (xs := l) (i := i) (by omega)
  simpa using this
theorem Pass.get {α : Type} {p : α → Bool} {l cur : List α} {i j : Nat} (h : Pass p l cur i j) (hj : j < l.length) : cur[j]'(by have := h.len; omega) = l[j] := by
  have h1 := congrArg (fun x => x[0]?) h.rest
  have h2 := h.len
  simp only [List.getElem?_drop, Nat.add_zero] at h1
  rw [List.getElem?_eq_getElem (by omega), List.getElem?_eq_getElem hj] at h1
  exact Option.some.inj h1
theorem Pass.drop {α : Type} {p : α → Bool} {l cur : List α} {i j : Nat} (h : Pass p l cur i j) (hj : j < l.length) (hp : p l[j] = true) : Pass p l cur i (j + 1) := by
  refine ⟨h.len, Nat.lt_succ_of_lt h.lt, hj, ?_, ?_⟩
  · rw [List.take_succ_eq_append_getElem hj, List.filter_append, ← h.kept]
    simp [hp]
  · rw [← List.drop_drop, h.rest, List.drop_drop]
theorem Pass.keep {α : Type} {p : α → Bool} {l cur : List α} {i j : Nat} (h : Pass p l cur i j) (hj : j < l.length) (hp : p l[j] = false) : Pass p l (cur.set i l[j]) (i + 1) (j + 1) := by
  have h2 := h.len
  have h3 := h.lt
  refine ⟨by simpa using h2, Nat.succ_lt_succ h3, hj, ?_, ?_⟩
  · rw [List.take_succ_eq_append_getElem hj, List.filter_append, ← h.kept]
    rw [List.take_succ_eq_append_getElem (by simp; omega)]
    simp [hp, List.take_set_of_le]
  · rw [List.drop_set_of_lt (by omega), ← List.drop_drop, h.rest, List.drop_drop]
end Go.Proofs.Ytnoipmimddoioaa
