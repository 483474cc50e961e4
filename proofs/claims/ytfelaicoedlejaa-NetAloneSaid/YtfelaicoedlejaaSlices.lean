/-
  Slices: owned rows, appends, parts, indexes; structs and arrays built out of parts; maps made and filled.
-/
import Derived.Test.YtfelaicoedlejaaFin
import Derived.Laws.OwnMore
namespace Go.Proofs.Ytfelaicoedlejaa
set_option linter.unusedVariables false

/-! ### owned rows -/
def ownB (v : Value) : List Nat := match v.ownBlock with
  | some b => [b]
  | none => []
theorem one_iff (u : Value) : u.oneCell' = oneB u := by cases u <;> rfl

section
variable {P : Program} {w w' : World}

theorem own_kp {S : List Nat} {base : Nat} {e : TypeId} {size : Nat} {v : Value} {n : Nat} {xs : List Value} (h : w.ownsRow base e size v n xs) (k : Kp S w w') (hb : ∀ b, v.ownBlock = some b → b ∉ S) : w'.ownsRow base e size v n xs := by
  obtain ⟨h1, h2⟩ := h
  refine ⟨h1, ?_⟩
  rcases h2 with h2 | ⟨g, cap, cur, rfl, hg, hh, hr⟩
  · exact Or.inl h2
  · exact Or.inr ⟨g, cap, cur, rfl, hg, (k.blk g (Array.getElem?_eq_some_iff.1 hh).1 (hb g rfl)).trans hh, hr⟩
theorem own_kp0 {base : Nat} {e : TypeId} {size : Nat} {v : Value} {n : Nat} {xs : List Value} (h : w.ownsRow base e size v n xs) (k : Kp [] w w') : w'.ownsRow base e size v n xs := own_kp h k (by simp)

theorem Kp.alloc_drew (w : World) (o : Obj) (hs : Obj.soft o = true) : Kp [] w (w.drew.alloc o) := by
  have h1 : Kp [] w w.drew := (Kp.refl [] w).drew
  exact h1.trans (Kp.push w.drew o hs)

theorem run_append {base : Nat} {t ty e : TypeId} {d : TypeDesc} {i : TypeInfo} [u : Ut P t (.slice e)] [f : Inf P e i] {z : Value} (hz : i.zero = some z) (hzs : z.cells.size = i.size) (hsz : 0 < i.size)
    {v : Value} {n : Nat} {xs : List Value} (hown : w.ownsRow base e i.size v n xs) {b off m c : Nat} {news : List Value} (hl : news.length = m * i.size) (hr : Row w b off news) (h1 : allOne news = true)
    (h63 : n + m ≤ maxLen) (hbytes : (n + m) * i.bytes ≤ 140737488355328) (hbase : base ≤ w.heap.size) :
    ∃ v' w', (Builtin.append_ #[t, t] ty #[v, .slice (some ⟨b, off, none⟩) m c]).run P w = .ok v' w' ∧ w'.ownsRow base e i.size v' (n + m) (xs ++ news) ∧ Kp (ownB v) w w' := by
  have hnews : ∀ j u, news[j]? = some u → w.cell? ((⟨b, off, none⟩ : Addr).add j) = some u := fun j u hu => by rw [add_none]; exact hr.cell hu
  have h1' : ∀ u ∈ news, u.oneCell' = true := fun u hu => by rw [one_iff]; exact List.all_eq_true.1 h1 u hu
  obtain ⟨v', w', hrun, hown', _, _⟩ := run_append_own (P := P) w base t ty e i z i.size i.bytes u.eq f.eq hz rfl rfl hzs hsz v n xs hown ⟨b, off, none⟩ m c news hl hnews h1' h63 hbytes hbase
  refine ⟨v', w', hrun, hown', ?_⟩
  have hsmall : n + m ≤ 9223372036854775807 := by simp only [maxLen] at h63; omega
  rcases hown.2 with ⟨rfl, rfl⟩ | ⟨g, cap, cur, rfl, hbg, hg, hnc, hcm, hcs, htake⟩
  · by_cases hm : m = 0
    · subst hm
      have hn : news = [] := List.eq_nil_of_length_eq_zero (by simpa using hl)
      subst hn
      have : (Builtin.append_ #[t, t] ty #[.slice none 0 0, .slice (some ⟨b, off, none⟩) 0 c]).run P w = .ok (.slice none 0 0) w := by
        simp [Builtin.append_, run_underlying u.eq, sizeOf, typeInfo, f.eq, Builtin.lenOf, Builtin.firstCells, loadCells, loadCellsFrom]
      rw [this] at hrun
      cases hrun
      exact Kp.refl _ _
    · have hr2 := run_append_nil (P := P) w t ty e i z u.eq f.eq hz ⟨b, off, none⟩ m c news hl hnews (by omega) (by omega) (by have hb := hbytes; simp only [Nat.zero_add] at hb; omega)
      rw [hr2] at hrun
      cases hrun
      exact Kp.alloc_drew w _ rfl
  · by_cases hroom : n + m ≤ cap
    · have hfit : n * i.size + news.length ≤ cur.size := by rw [hl, hcs, ← Nat.add_mul]; exact Nat.mul_le_mul_right _ hroom
      have hr2 := run_append_room (P := P) w t ty e i u.eq f.eq g n cap cur hg ⟨b, off, none⟩ m c news hl hnews h1' hroom hfit
      rw [hr2] at hrun
      cases hrun
      have hgl : g < w.heap.size := (Array.getElem?_eq_some_iff.1 hg).1
      have hset : ∀ (x : Array Value), w.setRow g x = { w with heap := w.heap.setIfInBounds g (.cells x e) } := by
        intro x
        unfold World.setRow
        congr 1
        apply Array.ext_getElem?
        intro j
        rw [Array.getElem?_modify]
        by_cases e1 : g = j
        · subst e1
          rw [if_pos rfl, hg, Array.getElem?_setIfInBounds_self_of_lt hgl]
          simp
        · rw [if_neg e1, Array.getElem?_setIfInBounds_ne e1]
      rw [hset]
      exact Kp.set w (b := g) hg rfl rfl
    · have holds : ∀ j u, xs[j]? = some u → w.cell? ((⟨g, 0, none⟩ : Addr).add j) = some u := hown.cells (g := g) rfl
      have hr2 := run_append_grow (P := P) w t ty e i z u.eq f.eq hz ⟨g, 0, none⟩ n cap xs hown.1 holds ⟨b, off, none⟩ m c news hl hnews (by omega) (by omega) (growslice_fits (by omega) hbytes)
      rw [hr2] at hrun
      cases hrun
      exact (Kp.alloc_drew w _ rfl).any

theorem own_row {base : Nat} {e : TypeId} {size g n cap : Nat} {xs : List Value} (h : w.ownsRow base e size (.slice (some ⟨g, 0, none⟩) n cap) n xs) : Row w g 0 xs := by
  obtain ⟨h1, h2⟩ := h
  rcases h2 with ⟨h2, _⟩ | ⟨g', cap', cur, h2, hg, hh, hnc, hcm, hcs, ht⟩
  · cases h2
  · simp only [Value.slice.injEq, Option.some.injEq, Addr.mk.injEq, and_true, true_and] at h2
    obtain ⟨rfl, rfl⟩ := h2
    refine ⟨cur, e, (0, 0), hh, fun i v hv => ?_⟩
    rw [← ht, List.getElem?_take] at hv
    split at hv
    · simpa using hv
    · cases hv
end

/-! ### parts -/
section
variable {P : Program} {S : List Nat} {w0 : World} {F : World → Prop} {L : Env} {d : Option Nat} {ty : TypeId} {pos : String} {af : Array Edge} {g : Option (Nat × Bool)}

theorem vals_indexAddr {T E : TypeId} [u : Ut P T (.slice E)] {i : TypeInfo} [f : Inf P E i] {x y : Operand} {b off n c : Nat} {k : IntKind} {j : Int} (hx : rho L x = .slice (some ⟨b, off, none⟩) n c) (hy : rho L y = .int k j) (h0 : 0 ≤ j) (h1 : j < n) :
    Vals P S w0 F L ⟨d, .indexAddr T x y, ty, pos, af, g⟩ (.pointer (some ⟨b, off + j.toNat * i.size, none⟩)) := fun w _ _ => by
  simp [execOp, hx, hy, Instr.indexAt, asIntOf, run_underlying u.eq, run_sizeOf' (f := f), h0, h1, add_none]

theorem vals_ix {T E : TypeId} [u : Ut P T (.slice E)] {sz : Nat} [f : Sz P E sz] {x y : Operand} {b off n c : Nat} {k : IntKind} {j : Nat} (hx : rho L x = .slice (some ⟨b, off, none⟩) n c) (hy : rho L y = .int k (j : Int)) (h1 : j < n) :
    Vals P S w0 F L ⟨d, .indexAddr T x y, ty, pos, af, g⟩ (.pointer (some ⟨b, off + j * sz, none⟩)) := fun w _ _ => by
  obtain ⟨i, h2, h3⟩ := f.eq
  have h4 : (j : Int) < n := by omega
  subst h3
  simp [execOp, hx, hy, Instr.indexAt, asIntOf, run_underlying u.eq, sizeOf, typeInfo, h2, h1, add_none]

/-- 's[j:]' -/
theorem vals_from {T E : TypeId} [u : Ut P T (.slice E)] {sz : Nat} [f : Sz P E sz] {x lo : Operand} {b off n c : Nat} {k : IntKind} {j : Nat} (hx : rho L x = .slice (some ⟨b, off, none⟩) n c) (hlo : rho L lo = .int k (j : Int)) (hj : j ≤ n) :
    Vals P S w0 F L ⟨d, .slice T x (some lo) none none, ty, pos, af, g⟩ (.slice (some ⟨b, if c = j then off else off + j * sz, none⟩) (n - j) (c - j)) := fun w _ _ => by
  obtain ⟨i, h2, h3⟩ := f.eq
  have h4 : (j : Int) ≤ n := by omega
  subst h3
  simp only [execOp, hx, Option.map_some, Option.map_none, hlo, Instr.sliceAt, Sem.run_bind, run_underlying u.eq, Result.andThen, Instr.slice, Instr.sliceBounds, Instr.sliceBound, asIntOf, Sem.run_pure]
  have h5 : (0 : Int) ≤ (j : Int) ∧ (j : Int) ≤ (n : Int) := ⟨by omega, h4⟩
  simp only [h5, and_self, if_true, Sem.run_pure, sizeOf, typeInfo, Sem.run_bind, run_program, Result.andThen, h2]
  by_cases hc : c = j
  · subst hc; simp
  · simp [hc, add_none]

theorem vals_field_agg {T ft : TypeId} {k fo : Nat} [u : Fld P T k fo ft] {dsc : TypeDesc} {i : TypeInfo} [u2 : Ut P ft dsc] [f : Inf P ft i] {x : Operand} {l : List Value} (pre l' post : List Value) (hx : rho L x = .agg l.toArray) (ha : aggB dsc = true) (hl : l = pre ++ (l' ++ post)) (h1 : pre.length = fo) (h2 : l'.length = i.size) :
    Vals P S w0 F L ⟨d, .field T x k, ty, pos, af, g⟩ (.agg l'.toArray) := fun w _ _ => by
  obtain ⟨fs, fd, i', e1, e2, e3, e4, e5, e6⟩ := u.eq
  subst e3; subst e4; subst hl
  have hex : List.take i.size (List.drop fd.offset (pre ++ (l' ++ post))) = l' := by
    rw [← h1, ← h2]
    simp
  simp [execOp, hx, Instr.field, run_underlying e1, e2, asAgg, part, run_isAgg (u := u2), ha, run_sizeOf' (f := f), hex]
theorem vals_field_cell {T ft : TypeId} {k fo : Nat} [u : Fld P T k fo ft] {dsc : TypeDesc} [u2 : Ut P ft dsc] {x : Operand} {l : List Value} (pre post : List Value) {v : Value} (hx : rho L x = .agg l.toArray) (ha : aggB dsc = false) (hl : l = pre ++ (v :: post)) (h1 : pre.length = fo) :
    Vals P S w0 F L ⟨d, .field T x k, ty, pos, af, g⟩ v := fun w _ _ => by
  obtain ⟨fs, fd, i', e1, e2, e3, e4, e5, e6⟩ := u.eq
  subst e3; subst e4; subst hl
  have hex : (pre ++ (v :: post))[fd.offset]? = some v := by rw [← h1]; simp
  simp [execOp, hx, Instr.field, run_underlying e1, e2, asAgg, part, run_isAgg (u := u2), ha, hex]

/-- A composite that the reader computes. -/
theorem vals_build {T : TypeId} {parts : List (Nat × Operand)} {vs : List (Nat × Value)} {v : Value} (he : (parts.map fun p => (p.1, rho L p.2)) = vs) (h : ∀ w, (Instr.build T vs.toArray).run P w = .ok v w) : Vals P S w0 F L ⟨d, .build T parts.toArray, ty, pos, af, g⟩ v := fun w _ _ => by
  have : (parts.toArray.map fun (p : Nat × Operand) => (p.1, rho L p.2)) = vs.toArray := by simp [he]
  simp only [execOp, this, Sem.run_bind, h w, Result.andThen, Sem.run_pure]
end

/-! ### maps, in text order -/
section
variable {P : Program} {n : Nat} {Q : Exit → Act → World → Prop} {L : Env} {w : World} {ops : List Oper} {rest : List Oper} {ty : TypeId} {pos : String} {af : Array Edge} {g : Option (Nat × Bool)}
theorem SG.mapUpdate {κ ν : Type} [DecidableEq κ] {enc : κ → Value} {V : ν → Value} {m : List (κ × ν)} {b : Nat} {k T E : TypeId} [u : Ut P T (.map k E)] {a x y : Operand} {kx : κ} {vy : ν}
    (hw : want ops L ⟨none, .mapUpdate T a x y, ty, pos, af, g⟩ = some true) (hk : (known L a && (known L x && known L y)) = true) (ha : rho L a = .map (some b)) (hx : rho L x = enc kx) (hy : rho L y = V vy) (hm : MapIs w b enc V m) (K : KeyEnc P k enc)
    (h : ∀ w', Kp [b] w w' → MapIs w' b enc V (aput m kx vy) → SG P n ops Q rest L w') : SG P n ops Q (⟨none, .mapUpdate T a x y, ty, pos, af, g⟩ :: rest) L w := by
  refine SG.op rfl rfl hw (by simpa [Op.operands] using hk) ?_
  unfold OpRun
  obtain ⟨o', h1, h2, h3⟩ := run_mapUpdate (P := P) (u := u) hm K kx vy
  have : (execOp (rho L) ⟨none, .mapUpdate T a x y, ty, pos, af, g⟩).run P w = .ok .skip { w with heap := w.heap.setIfInBounds b o' } := by
    simp only [execOp, ha, hx, hy, Sem.run_bind, h1, Result.andThen, Sem.run_pure]
  rw [this]
  exact h _ h3 h2

/-- a call whose answer is told by facts that stay -/
theorem Der.callG {X : Type} {w0 : World} {ops : List Oper} {gh : List Nat} {K : Env → (World → Prop) → (World → Prop) → Prop} {i : Nat} {ord : List Nat} {F : World → Prop} {d : Nat} {f : FuncId} [Fnc P f] {args : List Operand} {vs : List Value} {tys : Array TypeId} (val : X → Value) (F' : X → World → Prop)
    (ho : ops[i]? = some ⟨some d, .call ⟨.value (.func f), args.toArray, tys⟩, ty, pos, af, g⟩) (hw : want ops L ⟨some d, .call ⟨.value (.func f), args.toArray, tys⟩, ty, pos, af, g⟩ = some true) (hg : gh.elem i = true) (hk : (Op.call ⟨.value (.func f), args.toArray, tys⟩).operands.toList.all (known L) = true)
    (he : Evs L args vs) (hF : ∀ x, Stab [] (F' x)) (hFs : Stab [] F) (hc : ∀ w, Kp [] w0 w → F w → Calls P f vs.toArray w (fun e w' => ∃ x, e = .returned (val x) ∧ F' x w' ∧ Kp [] w w'))
    (hd : ∀ x, Der P [] w0 ops gh K ord ((d, val x) :: L) (fun w => F w ∧ F' x w) (fun _ => True)) : Der P [] w0 ops gh K (i :: ord) L F (fun _ => True) :=
  Der.ghost val F' (fun _ _ => True) ho hw hg hk hF (fun _ _ _ _ _ => trivial) hFs (fun w h1 h2 _ => orun_call (by rw [he.arr]; exact (hc w h1 h2).mono (fun e w' ⟨x, g1, g2, g3⟩ => ⟨val x, g1, x, rfl, g2, trivial, g3⟩))) hd
/-- a load out of the resource, a store into it -/
theorem Der.loadR {S : List Nat} {w0 : World} {ops : List Oper} {gh : List Nat} {K : Env → (World → Prop) → (World → Prop) → Prop} {i : Nat} {ord : List Nat} {F R : World → Prop} {d : Nat} {T : TypeId} {x : Operand} {dsc : TypeDesc} {inf : TypeInfo} [u : Ut P T dsc] [f : Inf P T inf] {b off : Nat} {l : List Value}
    (ho : ops[i]? = some ⟨some d, .load T x, ty, pos, af, g⟩) (hw : want ops L ⟨some d, .load T x, ty, pos, af, g⟩ = some true) (hg : gh.elem (i + 1000) = true) (hk : known L x = true) (hx : rho L x = .pointer (some ⟨b, off, none⟩)) (ha : aggB dsc = true) (hr : ∀ w, R w → Row w b off l) (hl : l.length = inf.size)
    (hd : Der P S w0 ops gh K ord ((d, .agg l.toArray) :: L) F R) : Der P S w0 ops gh K (i :: ord) L F R :=
  Der.valR ho hw hg (by simpa [Op.operands] using hk) (fun w _ _ hR => by simp [execOp, hx, run_loadAt_agg (u := u) (f := f) ha (hr w hR) hl]) hd
theorem Der.storeR {S : List Nat} {w0 : World} {ops : List Oper} {gh : List Nat} {K : Env → (World → Prop) → (World → Prop) → Prop} {i : Nat} {ord : List Nat} {F R : World → Prop} (R' : World → Prop) {T : TypeId} {a x : Operand} {p v : Value}
    (ho : ops[i]? = some ⟨none, .store T a x, ty, pos, af, g⟩) (hw : want ops L ⟨none, .store T a x, ty, pos, af, g⟩ = some true) (hg : gh.elem i = true) (hk : (known L a && known L x) = true) (ha : rho L a = p) (hx : rho L x = v) (hFs : Stab S F) (hRs : Stab [] R')
    (hr : ∀ w, R w → ∃ w', (Instr.storeAt T p v).run P w = .ok () w' ∧ R' w' ∧ Kp S w w')
    (hd : Der P S w0 ops gh K ord L (fun w => F w ∧ True) R') : Der P S w0 ops gh K (i :: ord) L F R := by
  refine Der.ghost (X := Unit) (fun _ => undef) (fun _ _ => True) (fun _ => R') ho hw hg (by simpa [Op.operands] using hk) (fun _ _ _ _ _ => trivial) (fun _ => hRs) hFs ?_ (fun _ => hd)
  intro w _ _ hR
  obtain ⟨w', h1, h2, h3⟩ := hr w hR
  unfold OpRun
  have : (execOp (rho L) ⟨none, .store T a x, ty, pos, af, g⟩).run P w = .ok .skip w' := by
    simp only [execOp, ha, hx, Sem.run_bind, h1, Result.andThen, Sem.run_pure]
  rw [this]
  exact ⟨(), rfl, trivial, h2, h3⟩
/-- a map made in a region that draws -/
theorem Der.makeMap {κ ν : Type} (enc : κ → Value) (V : ν → Value) {w0 : World} {ops : List Oper} {gh : List Nat} {K : Env → (World → Prop) → (World → Prop) → Prop} {i : Nat} {ord : List Nat} {d : Nat} {T : TypeId} {R : World → Prop}
    (ho : ops[i]? = some ⟨some d, .makeMap T none, ty, pos, af, g⟩) (hw : want ops L ⟨some d, .makeMap T none, ty, pos, af, g⟩ = some true) (hg : gh.elem i = true)
    (hd : ∀ b, Der P [] w0 ops gh K ord ((d, .map (some b)) :: L) (fun _ => True ∧ True) (fun w => w0.heap.size ≤ b ∧ MapIs w b enc V [])) : Der P [] w0 ops gh K (i :: ord) L (fun _ => True) R := by
  refine Der.ghostN (X := Nat) (fun b => .map (some b)) (fun _ _ => True) (fun b w => w0.heap.size ≤ b ∧ MapIs w b enc V []) ho hw hg (by simp [Op.operands]) (fun _ _ _ _ _ => trivial) (fun b w w' hk h => ⟨h.1, h.2.kp0 hk⟩) ?_ hd
  intro w hk _ _
  unfold OpRun
  have : (execOp (rho L) ⟨some d, .makeMap T none, ty, pos, af, g⟩).run P w = .ok (.value (.map (some w.heap.size))) { w with heap := w.heap.push (.map #[] 0) } := by
    simp [execOp, Instr.makeMap, newObj, Sem.run, Result.andThen]
  rw [this]
  exact ⟨w.heap.size, rfl, ⟨trivial, trivial⟩, ⟨hk.size, MapIs.made w enc V⟩, hk.trans (Kp.push w _ rfl)⟩
theorem Der.insert {κ ν : Type} [DecidableEq κ] {enc : κ → Value} {V : ν → Value} {m : List (κ × ν)} {w0 : World} {ops : List Oper} {gh : List Nat} {Kn : Env → (World → Prop) → (World → Prop) → Prop} {i : Nat} {ord : List Nat} {b : Nat} {k T E : TypeId} [u : Ut P T (.map k E)] {a x y : Operand} {kx : κ} {vy : ν}
    (ho : ops[i]? = some ⟨none, .insert T a x y, ty, pos, af, g⟩) (hw : want ops L ⟨none, .insert T a x y, ty, pos, af, g⟩ = some true) (hg : gh.elem i = true) (hk : (known L a && (known L x && known L y)) = true) (ha : rho L a = .map (some b)) (hx : rho L x = enc kx) (hy : rho L y = V vy) (K : KeyEnc P k enc)
    (hd : Der P [] w0 ops gh Kn ord L (fun _ => (True ∧ True) ∧ True) (fun w => w0.heap.size ≤ b ∧ MapIs w b enc V (aput m kx vy))) : Der P [] w0 ops gh Kn (i :: ord) L (fun _ => True ∧ True) (fun w => w0.heap.size ≤ b ∧ MapIs w b enc V m) := by
  refine Der.ghostN (X := Unit) (fun _ => undef) (fun _ _ => True) (fun _ w => w0.heap.size ≤ b ∧ MapIs w b enc V (aput m kx vy)) ho hw hg (by simpa [Op.operands] using hk) (fun _ _ _ _ _ => trivial) (fun _ w w' hk h => ⟨h.1, h.2.kp0 hk⟩) ?_ (fun _ => hd)
  intro w hkp _ hR
  obtain ⟨o', h1, h2, h3⟩ := run_mapUpdate (P := P) (u := u) hR.2 K kx vy
  unfold OpRun
  have : (execOp (rho L) ⟨none, .insert T a x y, ty, pos, af, g⟩).run P w = .ok .skip { w with heap := w.heap.setIfInBounds b o' } := by
    simp only [execOp, ha, hx, hy, Sem.run_bind, h1, Result.andThen, Sem.run_pure]
  rw [this]
  exact ⟨(), rfl, ⟨⟨trivial, trivial⟩, trivial⟩, ⟨hR.1, h2⟩, hkp.trans_new h3 (new1 hR.1)⟩
/-- a slice written out -/
theorem SG.buildSlice {d : Nat} {T E : TypeId} {m : Nat} {parts : List (Nat × Operand)} {vs : List (Nat × Value)} {c : Array Value} (hd : Nat.blt d n = true) (hw : want ops L ⟨some d, .buildSlice T m parts.toArray, ty, pos, af, g⟩ = some true) (hk : (Op.buildSlice T m parts.toArray).operands.toList.all (known L) = true)
    (he : (parts.map fun p => (p.1, rho L p.2)) = vs) (hrun : ∀ w : World, (Instr.buildSlice T m vs.toArray).run P w = .ok (.slice (some ⟨w.heap.size, 0, none⟩) m m) { w with heap := w.heap.push (.cells c E) })
    (h : ∀ b w', Kp [] w w' → w.heap.size ≤ b → Blk w' b (.cells c E) → SG P n ops Q rest ((d, .slice (some ⟨b, 0, none⟩) m m) :: L) w') : SG P n ops Q (⟨some d, .buildSlice T m parts.toArray, ty, pos, af, g⟩ :: rest) L w := by
  refine SG.op (by simpa using hd) rfl hw hk ?_
  unfold OpRun
  have e : (parts.toArray.map fun (p : Nat × Operand) => (p.1, rho L p.2)) = vs.toArray := by simp [he]
  have : (execOp (rho L) ⟨some d, .buildSlice T m parts.toArray, ty, pos, af, g⟩).run P w = .ok (.value (.slice (some ⟨w.heap.size, 0, none⟩) m m)) { w with heap := w.heap.push (.cells c E) } := by
    simp only [execOp, e, Sem.run_bind, hrun w, Result.andThen, Sem.run_pure]
  rw [this]
  exact h w.heap.size _ (Kp.push w _ rfl) (Nat.le_refl _) (Blk.push w _)
/-- append to an owned row. -/
theorem SG.append {base : Nat} {t e : TypeId} {i : TypeInfo} [u : Ut P t (.slice e)] [f : Inf P e i] {z : Value} {d : Nat} {s x : Operand} {v : Value} {nn : Nat} {xs : List Value} {b off m c : Nat} {news : List Value}
    (hd : Nat.blt d n = true) (hw : want ops L ⟨some d, .call { callee := .builtin .append, args := #[s, x], argTypes := #[t, t] }, ty, pos, af, g⟩ = some true) (hk : (known L s && known L x) = true)
    (hs : rho L s = v) (hx : rho L x = .slice (some ⟨b, off, none⟩) m c) (hz : i.zero = some z) (hzs : Nat.beq z.cells.size i.size = true) (hsz : Nat.blt 0 i.size = true) (hown : w.ownsRow base e i.size v nn xs) (hr : Row w b off news) (hl : news.length = m * i.size) (h1 : allOne news = true)
    (h63 : nn + m ≤ maxLen) (hbytes : (nn + m) * i.bytes ≤ 140737488355328) (hbase : base ≤ w.heap.size)
    (h : ∀ v' w', Kp (ownB v) w w' → w'.ownsRow base e i.size v' (nn + m) (xs ++ news) → SG P n ops Q rest ((d, v') :: L) w') : SG P n ops Q (⟨some d, .call { callee := .builtin .append, args := #[s, x], argTypes := #[t, t] }, ty, pos, af, g⟩ :: rest) L w := by
  refine SG.op (by simpa using hd) rfl hw (by simpa [Op.operands, Call.operands] using hk) ?_
  unfold OpRun
  obtain ⟨v', w', h2, h3, h4⟩ := run_append (P := P) (ty := ty) (d := .bool) (c := c) (u := u) (f := f) hz (Nat.eq_of_beq_eq_true hzs) (by simpa [Nat.blt_eq] using hsz) hown hl hr h1 h63 hbytes hbase
  have : (execOp (rho L) ⟨some d, .call { callee := .builtin .append, args := #[s, x], argTypes := #[t, t] }, ty, pos, af, g⟩).run P w = .ok (.value v') w' := by
    simp only [execOp, resolve, invoke, builtin, Sem.run_bind, Sem.run_pure, Result.andThen_ok, List.map_toArray, List.map_cons, List.map_nil, hs, hx, h2]
  rw [this]
  exact h v' w' h4 h3
end
end Go.Proofs.Ytfelaicoedlejaa
