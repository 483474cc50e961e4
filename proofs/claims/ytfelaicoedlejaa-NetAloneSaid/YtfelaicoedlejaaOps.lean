/-
  The operations, one law each.
-/
import Derived.Test.YtfelaicoedlejaaMem
import Derived.DeepKeys4
import Derived.WideKeyArr
import Derived.IntWalk
namespace Go.Proofs.Ytfelaicoedlejaa
set_option linter.unusedVariables false

section
variable {P : Program} {w : World}

theorem run_storeAt {T : TypeId} {i : TypeInfo} [f : Inf P T i] {b off : Nat} {cs : Array Value} {T' : TypeId} {v : Value} (h : Blk w b (.cells cs T')) (hn : v.cells.toList.length = i.size) (ho : off + v.cells.toList.length ≤ cs.size) (ha : allOne v.cells.toList = true) :
    (Instr.storeAt T (.pointer (some ⟨b, off, none⟩)) v).run P w = .ok () { w with heap := w.heap.setIfInBounds b (.cells (spl cs.toList off v.cells.toList).toArray T') } := by
  have hs : v.cells.size = i.size := by simpa using hn
  simp only [Instr.storeAt, Instr.sureAddr, storeVar, Sem.run_bind, Sem.run_pure, Result.andThen, run_sizeOf' (f := f), hs]
  simp only [ne_eq, not_true_eq_false, if_false]
  have := run_storeCells (P := P) (off := off) v.cells.toList 0 w cs h (by omega) ha
  simpa using this

theorem run_alloc {T : TypeId} {i : TypeInfo} [f : Inf P T i] {z : Value} (hz : i.zero = some z) :
    (Instr.alloc T true (.tuple #[])).run P w = .ok (.pointer (some ⟨w.heap.size, 0, none⟩)) { w with heap := w.heap.push (.cells z.cells T) } := by
  simp only [Instr.alloc, Sem.run_bind, run_zero (f := f) hz, Result.andThen]
  rfl
theorem run_box {T : TypeId} {v : Value} :
    (Instr.box T v).run P w = .ok (.pointer (some ⟨w.heap.size, 0, none⟩)) { w with heap := w.heap.push (.cells v.cells T) } := rfl

theorem VrOk.of {ops : List Oper} {L : Env} {al pt d : Nat} {T : TypeId} {x : Operand} {i : TypeInfo} [f : Inf P T i] {z v : Value} {ty ty' : TypeId} {pos pos' : String} {af af' : Array Edge} (hz : i.zero = some z)
    (ha : ops[al]? = some ⟨some d, .alloc T, ty, pos, af, none⟩) (hp : ops[pt]? = some ⟨none, .store T (.tmp d) x, ty', pos', af', none⟩) (hk : known L x = true) (hx : rho L x = v)
    (hn : v.cells.toList.length = i.size) (hzn : z.cells.toList.length = i.size) (ho : allOne v.cells.toList = true) : VrOk P ops L ⟨al, pt, d, T, x, z.cells, v.cells⟩ := by
  refine ⟨⟨_, ha, rfl, rfl, rfl⟩, ⟨_, hp, rfl, rfl, rfl⟩, hk, fun w => run_alloc hz, fun w b hb => ?_⟩
  show (Instr.storeAt T (.pointer (some ⟨b, 0, none⟩)) (rho L x)).run P w = _
  rw [hx, run_storeAt hb hn (by simpa using Nat.le_of_eq (hn.trans hzn.symm)) ho]
  congr 4
  have h1 : z.cells.toList.length = v.cells.toList.length := hzn.trans hn.symm
  simp only [spl, List.take_zero, List.nil_append, Nat.zero_add]
  rw [List.drop_eq_nil_of_le (by omega)]
  simp
end

section
variable {P : Program} {S : List Nat} {w0 : World} {F : World → Prop} {L : Env} {d : Option Nat} {ty : TypeId} {pos : String} {af : Array Edge} {g : Option (Nat × Bool)}

theorem vals_move {x : Operand} {v : Value} (hx : rho L x = v) : Vals P S w0 F L ⟨d, .move x, ty, pos, af, g⟩ v := fun w _ _ => by simp [execOp, hx]
theorem vals_assign {x : Operand} {v : Value} (hx : rho L x = v) : Vals P S w0 F L ⟨d, .assign x, ty, pos, af, g⟩ v := fun w _ _ => by simp [execOp, hx]
theorem vals_pick_t {c a b : Operand} {v : Value} (hc : rho L c = .bool true) (hx : rho L a = v) : Vals P S w0 F L ⟨d, .pick c a b, ty, pos, af, g⟩ v := fun w _ _ => by simp [execOp, hc, hx, asBool]
theorem vals_pick_f {c a b : Operand} {v : Value} (hc : rho L c = .bool false) (hx : rho L b = v) : Vals P S w0 F L ⟨d, .pick c a b, ty, pos, af, g⟩ v := fun w _ _ => by simp [execOp, hc, hx, asBool]
theorem vals_nilCheck {x : Operand} {a : Addr} (hx : rho L x = .pointer (some a)) : Vals P S w0 F L ⟨d, .nilCheck x, ty, pos, af, g⟩ (.pointer (some a)) := fun w _ _ => by simp [execOp, hx]
theorem vals_not {T : TypeId} {x : Operand} {b : Bool} (hx : rho L x = .bool b) : Vals P S w0 F L ⟨d, .unOp .not T x, ty, pos, af, g⟩ (.bool !b) := fun w _ _ => by simp [execOp, hx, Op.unary]
theorem vals_extract {x : Operand} {k : Nat} {vs : Array Value} {v : Value} (hx : rho L x = .tuple vs) (hv : vs[k]? = some v) : Vals P S w0 F L ⟨d, .extract x k, ty, pos, af, g⟩ v := fun w _ _ => by simp [execOp, hx, Instr.extract, hv]

theorem vals_ext20 {x : Operand} {a b : Value} (hx : rho L x = .tuple #[a, b]) : Vals P S w0 F L ⟨d, .extract x 0, ty, pos, af, g⟩ a := fun w _ _ => by simp [execOp, hx, Instr.extract]
theorem vals_ext21 {x : Operand} {a b : Value} (hx : rho L x = .tuple #[a, b]) : Vals P S w0 F L ⟨d, .extract x 1, ty, pos, af, g⟩ b := fun w _ _ => by simp [execOp, hx, Instr.extract]
theorem vals_ext30 {x : Operand} {a b c : Value} (hx : rho L x = .tuple #[a, b, c]) : Vals P S w0 F L ⟨d, .extract x 0, ty, pos, af, g⟩ a := fun w _ _ => by simp [execOp, hx, Instr.extract]
theorem vals_ext31 {x : Operand} {a b c : Value} (hx : rho L x = .tuple #[a, b, c]) : Vals P S w0 F L ⟨d, .extract x 1, ty, pos, af, g⟩ b := fun w _ _ => by simp [execOp, hx, Instr.extract]
theorem vals_ext32 {x : Operand} {a b c : Value} (hx : rho L x = .tuple #[a, b, c]) : Vals P S w0 F L ⟨d, .extract x 2, ty, pos, af, g⟩ c := fun w _ _ => by simp [execOp, hx, Instr.extract]

theorem vals_fieldAddr {T ft : TypeId} {x : Operand} {k fo : Nat} [u : Fld P T k fo ft] {b off : Nat} (hx : rho L x = .pointer (some ⟨b, off, none⟩)) :
    Vals P S w0 F L ⟨d, .fieldAddr T x k, ty, pos, af, g⟩ (.pointer (some ⟨b, off + fo, none⟩)) := fun w _ _ => by
  obtain ⟨fs, fd, i, h1, h2, h3, h4, h5, h6⟩ := u.eq
  subst h3; subst h4
  simp [execOp, hx, Instr.fieldAt, run_underlying h1, h2, Instr.sureAddr, fieldPlace, sizeOf, typeInfo, h5, h6, add_none]
theorem vals_fieldAddr0 {T ft : TypeId} {x : Operand} {k fo : Nat} [u : Fld P T k fo ft] {b : Nat} (hx : rho L x = .pointer (some ⟨b, 0, none⟩)) :
    Vals P S w0 F L ⟨d, .fieldAddr T x k, ty, pos, af, g⟩ (.pointer (some ⟨b, fo, none⟩)) := by
  have := vals_fieldAddr (P := P) (S := S) (w0 := w0) (F := F) (d := d) (ty := ty) (pos := pos) (af := af) (g := g) (u := u) hx
  rw [Nat.zero_add] at this
  exact this

theorem vals_load_cell {T : TypeId} {x : Operand} {dc : TypeDesc} [u : Ut P T dc] {b off : Nat} {v : Value} (hx : rho L x = .pointer (some ⟨b, off, none⟩)) (ha : aggB dc = false) (hr : Row w0 b off [v]) (hb : b ∉ S) :
    Vals P S w0 F L ⟨d, .load T x, ty, pos, af, g⟩ v := fun w hk _ => by
  simp [execOp, hx, run_loadAt_cell (u := u) ha (hr.kp hk hb)]
theorem vals_load_agg {T : TypeId} {x : Operand} {dc : TypeDesc} {i : TypeInfo} [u : Ut P T dc] [f : Inf P T i] {b off : Nat} {l : List Value} (hx : rho L x = .pointer (some ⟨b, off, none⟩)) (ha : aggB dc = true) (hr : Row w0 b off l) (hb : b ∉ S) (hl : l.length = i.size) :
    Vals P S w0 F L ⟨d, .load T x, ty, pos, af, g⟩ (.agg l.toArray) := fun w hk _ => by
  simp [execOp, hx, run_loadAt_agg (u := u) (f := f) ha (hr.kp hk hb) hl]

/-! which operation -/
def isBin : Op → Bool
  | .binOp .. => true
  | _ => false
def isBi (b : BinOp) : Op → Bool
  | .binOp b' .. => decide (b' = b)
  | _ => false
def isExt : Op → Bool
  | .extract .. => true
  | _ => false
def isLook : Op → Bool
  | .lookup .. => true
  | _ => false
def isCall : Op → Bool
  | .call .. => true
  | _ => false
theorem gbin {o : Oper} {v : Value} (h : isBin o.op = true) (k : Vals P S w0 F L o v) : Vals P S w0 F L o v := k
theorem gext {o : Oper} {v : Value} (h : isExt o.op = true) (k : Vals P S w0 F L o v) : Vals P S w0 F L o v := k
theorem glook {o : Oper} {v : Value} (h : isLook o.op = true) (k : Vals P S w0 F L o v) : Vals P S w0 F L o v := k
theorem gcall {o : Oper} {v : Value} (h : isCall o.op = true) (k : Vals P S w0 F L o v) : Vals P S w0 F L o v := k
/-! equality -/
theorem equal_of {P : Program} {w : World} {T : TypeId} {x y : Value} {r : Bool} (h : ∀ d, (Op.equalIn (d + 1) T x y).run P w = .ok r w) : (Op.equal T x y).run P w = .ok r w := h 9999
theorem equal_bool {P : Program} {w : World} {T : TypeId} [u : Ut P T .bool] {a b : Bool} : (Op.equal T (.bool a) (.bool b)).run P w = .ok (a == b) w := equal_of (fun d => by
  simp only [Op.equalIn, Sem.run_bind, run_underlying u.eq, Result.andThen, Sem.run_pure])
theorem equal_nil {P : Program} {w : World} {T E : TypeId} [u : Ut P T (.pointer E)] {a : Option Addr} : (Op.equal T (.pointer a) (.pointer none)).run P w = .ok a.isNone w := equal_of (fun d => by
  cases a <;> simp only [Op.equalIn, Sem.run_bind, run_underlying u.eq, Result.andThen, Sem.run_pure, Option.isNone])
/-! integers -/
theorem vals_add {T T' : TypeId} {x y : Operand} {a b : Int} (hx : rho L x = .int .i64 a) (hy : rho L y = .int .i64 b) (h1 : -9223372036854775808 ≤ a + b) (h2 : a + b ≤ 9223372036854775807) :
    Vals P S w0 F L ⟨d, .binOp .add T x y T', ty, pos, af, g⟩ (.int .i64 (a + b)) := fun w _ _ => by
  simp [execOp, hx, hy, eqGuard, binOp, Op.intArith, IntWalk.i64_in (a + b) ⟨h1, h2⟩]
theorem vals_sub {T T' : TypeId} {x y : Operand} {a b : Int} (hx : rho L x = .int .i64 a) (hy : rho L y = .int .i64 b) (h1 : -9223372036854775808 ≤ a - b) (h2 : a - b ≤ 9223372036854775807) :
    Vals P S w0 F L ⟨d, .binOp .sub T x y T', ty, pos, af, g⟩ (.int .i64 (a - b)) := fun w _ _ => by
  simp [execOp, hx, hy, eqGuard, binOp, Op.intArith, IntWalk.i64_in (a - b) ⟨h1, h2⟩]
theorem vals_lss {T T' : TypeId} {x y : Operand} {k : IntKind} {a b : Int} (hx : rho L x = .int k a) (hy : rho L y = .int k b) : Vals P S w0 F L ⟨d, .binOp .lss T x y T', ty, pos, af, g⟩ (.bool (decide (a < b))) := fun w _ _ => by
  simp [execOp, hx, hy, eqGuard, binOp, Op.intCmp]
theorem vals_leq {T T' : TypeId} {x y : Operand} {k : IntKind} {a b : Int} (hx : rho L x = .int k a) (hy : rho L y = .int k b) : Vals P S w0 F L ⟨d, .binOp .leq T x y T', ty, pos, af, g⟩ (.bool (decide (a ≤ b))) := fun w _ _ => by
  simp [execOp, hx, hy, eqGuard, binOp, Op.intCmp]
theorem vals_gtr {T T' : TypeId} {x y : Operand} {k : IntKind} {a b : Int} (hx : rho L x = .int k a) (hy : rho L y = .int k b) : Vals P S w0 F L ⟨d, .binOp .gtr T x y T', ty, pos, af, g⟩ (.bool (decide (b < a))) := fun w _ _ => by
  simp [execOp, hx, hy, eqGuard, binOp, Op.intCmp]
theorem vals_geq {T T' : TypeId} {x y : Operand} {k : IntKind} {a b : Int} (hx : rho L x = .int k a) (hy : rho L y = .int k b) : Vals P S w0 F L ⟨d, .binOp .geq T x y T', ty, pos, af, g⟩ (.bool (decide (b ≤ a))) := fun w _ _ => by
  simp [execOp, hx, hy, eqGuard, binOp, Op.intCmp]
theorem vals_eqi {T T' : TypeId} {x y : Operand} {k : IntKind} {a b : Int} (hx : rho L x = .int k a) (hy : rho L y = .int k b) : Vals P S w0 F L ⟨d, .binOp .eql T x y T', ty, pos, af, g⟩ (.bool (decide (a = b))) := fun w _ _ => by
  simp [execOp, hx, hy, eqGuard, binOp, Op.intCmp, BEq.beq]
theorem vals_nei {T T' : TypeId} {x y : Operand} {k : IntKind} {a b : Int} (hx : rho L x = .int k a) (hy : rho L y = .int k b) : Vals P S w0 F L ⟨d, .binOp .neq T x y T', ty, pos, af, g⟩ (.bool (!decide (a = b))) := fun w _ _ => by
  simp [execOp, hx, hy, eqGuard, binOp, Op.intCmp, bne, BEq.beq]
/-! decided tests -/
theorem vals_lss_t {T T' : TypeId} {x y : Operand} {k : IntKind} {a b : Int} (hx : rho L x = .int k a) (hy : rho L y = .int k b) (h : a < b) : Vals P S w0 F L ⟨d, .binOp .lss T x y T', ty, pos, af, g⟩ (.bool true) := by have := vals_lss (P := P) (S := S) (w0 := w0) (F := F) (d := d) (T := T) (T' := T') (ty := ty) (pos := pos) (af := af) (g := g) hx hy; rwa [decide_eq_true h] at this
theorem vals_lss_f {T T' : TypeId} {x y : Operand} {k : IntKind} {a b : Int} (hx : rho L x = .int k a) (hy : rho L y = .int k b) (h : ¬ a < b) : Vals P S w0 F L ⟨d, .binOp .lss T x y T', ty, pos, af, g⟩ (.bool false) := by have := vals_lss (P := P) (S := S) (w0 := w0) (F := F) (d := d) (T := T) (T' := T') (ty := ty) (pos := pos) (af := af) (g := g) hx hy; rwa [decide_eq_false h] at this
theorem vals_leq_t {T T' : TypeId} {x y : Operand} {k : IntKind} {a b : Int} (hx : rho L x = .int k a) (hy : rho L y = .int k b) (h : a ≤ b) : Vals P S w0 F L ⟨d, .binOp .leq T x y T', ty, pos, af, g⟩ (.bool true) := by have := vals_leq (P := P) (S := S) (w0 := w0) (F := F) (d := d) (T := T) (T' := T') (ty := ty) (pos := pos) (af := af) (g := g) hx hy; rwa [decide_eq_true h] at this
theorem vals_leq_f {T T' : TypeId} {x y : Operand} {k : IntKind} {a b : Int} (hx : rho L x = .int k a) (hy : rho L y = .int k b) (h : ¬ a ≤ b) : Vals P S w0 F L ⟨d, .binOp .leq T x y T', ty, pos, af, g⟩ (.bool false) := by have := vals_leq (P := P) (S := S) (w0 := w0) (F := F) (d := d) (T := T) (T' := T') (ty := ty) (pos := pos) (af := af) (g := g) hx hy; rwa [decide_eq_false h] at this
theorem vals_gtr_t {T T' : TypeId} {x y : Operand} {k : IntKind} {a b : Int} (hx : rho L x = .int k a) (hy : rho L y = .int k b) (h : b < a) : Vals P S w0 F L ⟨d, .binOp .gtr T x y T', ty, pos, af, g⟩ (.bool true) := by have := vals_gtr (P := P) (S := S) (w0 := w0) (F := F) (d := d) (T := T) (T' := T') (ty := ty) (pos := pos) (af := af) (g := g) hx hy; rwa [decide_eq_true h] at this
theorem vals_gtr_f {T T' : TypeId} {x y : Operand} {k : IntKind} {a b : Int} (hx : rho L x = .int k a) (hy : rho L y = .int k b) (h : ¬ b < a) : Vals P S w0 F L ⟨d, .binOp .gtr T x y T', ty, pos, af, g⟩ (.bool false) := by have := vals_gtr (P := P) (S := S) (w0 := w0) (F := F) (d := d) (T := T) (T' := T') (ty := ty) (pos := pos) (af := af) (g := g) hx hy; rwa [decide_eq_false h] at this
theorem vals_geq_t {T T' : TypeId} {x y : Operand} {k : IntKind} {a b : Int} (hx : rho L x = .int k a) (hy : rho L y = .int k b) (h : b ≤ a) : Vals P S w0 F L ⟨d, .binOp .geq T x y T', ty, pos, af, g⟩ (.bool true) := by have := vals_geq (P := P) (S := S) (w0 := w0) (F := F) (d := d) (T := T) (T' := T') (ty := ty) (pos := pos) (af := af) (g := g) hx hy; rwa [decide_eq_true h] at this
theorem vals_geq_f {T T' : TypeId} {x y : Operand} {k : IntKind} {a b : Int} (hx : rho L x = .int k a) (hy : rho L y = .int k b) (h : ¬ b ≤ a) : Vals P S w0 F L ⟨d, .binOp .geq T x y T', ty, pos, af, g⟩ (.bool false) := by have := vals_geq (P := P) (S := S) (w0 := w0) (F := F) (d := d) (T := T) (T' := T') (ty := ty) (pos := pos) (af := af) (g := g) hx hy; rwa [decide_eq_false h] at this
theorem vals_eqi_t {T T' : TypeId} {x y : Operand} {k : IntKind} {a b : Int} (hx : rho L x = .int k a) (hy : rho L y = .int k b) (h : a = b) : Vals P S w0 F L ⟨d, .binOp .eql T x y T', ty, pos, af, g⟩ (.bool true) := by have := vals_eqi (P := P) (S := S) (w0 := w0) (F := F) (d := d) (T := T) (T' := T') (ty := ty) (pos := pos) (af := af) (g := g) hx hy; rwa [decide_eq_true h] at this
theorem vals_eqi_f {T T' : TypeId} {x y : Operand} {k : IntKind} {a b : Int} (hx : rho L x = .int k a) (hy : rho L y = .int k b) (h : a ≠ b) : Vals P S w0 F L ⟨d, .binOp .eql T x y T', ty, pos, af, g⟩ (.bool false) := by have := vals_eqi (P := P) (S := S) (w0 := w0) (F := F) (d := d) (T := T) (T' := T') (ty := ty) (pos := pos) (af := af) (g := g) hx hy; rwa [decide_eq_false h] at this
theorem vals_nei_f {T T' : TypeId} {x y : Operand} {k : IntKind} {a b : Int} (hx : rho L x = .int k a) (hy : rho L y = .int k b) (h : a = b) : Vals P S w0 F L ⟨d, .binOp .neq T x y T', ty, pos, af, g⟩ (.bool false) := by have := vals_nei (P := P) (S := S) (w0 := w0) (F := F) (d := d) (T := T) (T' := T') (ty := ty) (pos := pos) (af := af) (g := g) hx hy; rwa [decide_eq_true h] at this
theorem vals_nei_t {T T' : TypeId} {x y : Operand} {k : IntKind} {a b : Int} (hx : rho L x = .int k a) (hy : rho L y = .int k b) (h : a ≠ b) : Vals P S w0 F L ⟨d, .binOp .neq T x y T', ty, pos, af, g⟩ (.bool true) := by have := vals_nei (P := P) (S := S) (w0 := w0) (F := F) (d := d) (T := T) (T' := T') (ty := ty) (pos := pos) (af := af) (g := g) hx hy; rwa [decide_eq_false h] at this
/-- bools -/
theorem vals_eqb {T T' : TypeId} [u : Ut P T .bool] {x y : Operand} {a b : Bool} (hx : rho L x = .bool a) (hy : rho L y = .bool b) : Vals P S w0 F L ⟨d, .binOp .eql T x y T', ty, pos, af, g⟩ (.bool (a == b)) := fun w _ _ => by
  simp [execOp, hx, hy, eqGuard, binOp, equal_bool (u := u)]
theorem vals_neb {T T' : TypeId} [u : Ut P T .bool] {x y : Operand} {a b : Bool} (hx : rho L x = .bool a) (hy : rho L y = .bool b) : Vals P S w0 F L ⟨d, .binOp .neq T x y T', ty, pos, af, g⟩ (.bool (!(a == b))) := fun w _ _ => by
  simp [execOp, hx, hy, eqGuard, binOp, equal_bool (u := u)]
/-- pointers against nil -/
theorem vals_eqp {T T' E : TypeId} [u : Ut P T (.pointer E)] {x y : Operand} {a : Option Addr} (hx : rho L x = .pointer a) (hy : rho L y = .pointer none) : Vals P S w0 F L ⟨d, .binOp .eql T x y T', ty, pos, af, g⟩ (.bool a.isNone) := fun w _ _ => by
  simp [execOp, hx, hy, eqGuard, binOp, equal_nil (u := u)]
theorem vals_nep {T T' E : TypeId} [u : Ut P T (.pointer E)] {x y : Operand} {a : Option Addr} (hx : rho L x = .pointer a) (hy : rho L y = .pointer none) : Vals P S w0 F L ⟨d, .binOp .neq T x y T', ty, pos, af, g⟩ (.bool (!a.isNone)) := fun w _ _ => by
  simp [execOp, hx, hy, eqGuard, binOp, equal_nil (u := u)]
/-- numbers of another kind -/
theorem vals_conv {T T' : TypeId} {dsc : TypeDesc} {k k' : IntKind} [u : Ut P T dsc] [u' : Ut P T' (.int k')] {x : Operand} {a : Int} (hx : rho L x = .int k a) : Vals P S w0 F L ⟨d, .convert T T' x, ty, pos, af, g⟩ (.int k' (k'.wrap a)) := fun w _ _ => by
  simp only [execOp, hx, convert, Sem.run_bind, run_underlying u.eq, run_underlying u'.eq, Result.andThen, Conv.intToInt, Sem.run_pure]
theorem vals_len_slice {T E : TypeId} [u : Ut P T (.slice E)] {x : Operand} {a : Option Addr} {n c : Nat} (hx : rho L x = .slice a n c) : Vals P S w0 F L ⟨d, .call { callee := .builtin .len, args := #[x], argTypes := #[T] }, ty, pos, af, g⟩ (.int .i64 n) := fun w _ _ => by
  simp [execOp, hx, resolve, invoke, builtin, Builtin.len_, run_underlying u.eq, goInt]
end

end Go.Proofs.Ytfelaicoedlejaa
