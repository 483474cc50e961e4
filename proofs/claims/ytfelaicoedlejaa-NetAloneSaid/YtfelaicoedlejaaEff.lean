/-
  More effects that stand beside one another: slices and variables whose blocks are told.
-/
import Derived.Test.YtfelaicoedlejaaOwned
import Derived.Test.YtfelaicoedlejaaStr
namespace Go.Proofs.Ytfelaicoedlejaa
set_option linter.unusedVariables false

section
variable {P : Program} {n : Nat} {ops : List Oper} {Q : Exit → Act → World → Prop} {w0 : World} {L : Env} {G : List (Nat × GD)} {K : Env → List Fact → Prop} {Γ : List Fact} {i : Nat} {ord : List Nat} {ty : TypeId} {pos : String} {af : Array Edge} {g : Option (Nat × Bool)}
/-- What is promised of a slice written out: its block. -/
def gB (m : Nat) (E : TypeId) (k : Nat) (cs : Array Value) : GD := ⟨Nat, 0, fun b => .slice (some ⟨b, 0, none⟩) k k, fun b w => m ≤ b ∧ Blk w b (.cells cs E)⟩
theorem gB_stab {m : Nat} {E : TypeId} {k : Nat} {cs : Array Value} (x : (gB m E k cs).X) : Stab [] ((gB m E k cs).phi x) := fun w w' hk h => ⟨h.1, h.2.kp0 hk⟩
theorem DerX.buildB {m d k : Nat} {T E : TypeId} {parts : List (Nat × Operand)} {vs : List (Nat × Value)} {cs : Array Value} (hg : gdLook G i = some (gB m E k cs))
    (ho : ops[i]? = some ⟨some d, .buildSlice T k parts.toArray, ty, pos, af, g⟩) (hw : want ops L ⟨some d, .buildSlice T k parts.toArray, ty, pos, af, g⟩ = some true) (hk : (Op.buildSlice T k parts.toArray).operands.toList.all (known L) = true)
    (he : (parts.map fun p => (p.1, rho L p.2)) = vs) (hm : m ≤ w0.heap.size) (hrun : ∀ w : World, (Instr.buildSlice T k vs.toArray).run P w = .ok (.slice (some ⟨w.heap.size, 0, none⟩) k k) { w with heap := w.heap.push (.cells cs E) })
    (h : ∀ b : Nat, DerX P w0 ops G K ord ((d, .slice (some ⟨b, 0, none⟩) k k) :: L) ((i, fun w => m ≤ b ∧ Blk w b (.cells cs E)) :: Γ)) : DerX P w0 ops G K (i :: ord) L Γ := by
  refine DerX.eff (gB m E k cs) hg ho hw hk (fun w h1 h2 => ?_) h
  unfold OpRun
  have e : (parts.toArray.map fun (p : Nat × Operand) => (p.1, rho L p.2)) = vs.toArray := by simp [he]
  have : (execOp (rho L) ⟨some d, .buildSlice T k parts.toArray, ty, pos, af, g⟩).run P w = .ok (.value (.slice (some ⟨w.heap.size, 0, none⟩) k k)) { w with heap := w.heap.push (.cells cs E) } := by
    simp only [execOp, e, Sem.run_bind, hrun w, Result.andThen, Sem.run_pure]
  rw [this]
  exact ⟨w.heap.size, rfl, ⟨Nat.le_trans hm h1.size, Blk.push w _⟩, Kp.push w _ rfl⟩
/-- .. of something that holds such a slice. -/
def gW (m : Nat) (E : TypeId) (k : Nat) (cs : Array Value) (mk : Value → Value) : GD := ⟨Nat, 0, fun b => mk (.slice (some ⟨b, 0, none⟩) k k), fun b w => m ≤ b ∧ Blk w b (.cells cs E)⟩
theorem gW_stab {m : Nat} {E : TypeId} {k : Nat} {cs : Array Value} {mk : Value → Value} (x : (gW m E k cs mk).X) : Stab [] ((gW m E k cs mk).phi x) := fun w w' hk h => ⟨h.1, h.2.kp0 hk⟩
/-- A value that counts as an effect: what it holds is promised anew. -/
theorem DerX.valE {d : Nat} {op : Op} {v : Value} (D : GD) (x : D.X) (hg : gdLook G i = some D) (ho : ops[i]? = some ⟨some d, op, ty, pos, af, g⟩) (hw : want ops L ⟨some d, op, ty, pos, af, g⟩ = some true) (hk : op.operands.toList.all (known L) = true)
    (hv : Vals P [] w0 (Facts ops i Γ) L ⟨some d, op, ty, pos, af, g⟩ v) (hx : v = D.val x) (hphi : ∀ w, Kp [] w0 w → Facts ops i Γ w → D.phi x w)
    (h : ∀ x, DerX P w0 ops G K ord ((d, D.val x) :: L) ((i, D.phi x) :: Γ)) : DerX P w0 ops G K (i :: ord) L Γ := by
  refine DerX.eff D hg ho hw hk (fun w h1 h2 => ?_) h
  unfold OpRun
  rw [hv w h1 h2]
  exact ⟨x, hx, hphi w h1 h2, Kp.refl _ _⟩
theorem DerX.wrapB {m d k : Nat} {E : TypeId} {cs : Array Value} {mk : Value → Value} {op : Op} {v : Value} (b : Nat) (hg : gdLook G i = some (gW m E k cs mk)) (ho : ops[i]? = some ⟨some d, op, ty, pos, af, g⟩) (hw : want ops L ⟨some d, op, ty, pos, af, g⟩ = some true) (hk : op.operands.toList.all (known L) = true)
    (hv : Vals P [] w0 (Facts ops i Γ) L ⟨some d, op, ty, pos, af, g⟩ v) (hx : v = mk (.slice (some ⟨b, 0, none⟩) k k)) (hphi : ∀ w, Kp [] w0 w → Facts ops i Γ w → m ≤ b ∧ Blk w b (.cells cs E))
    (h : ∀ b : Nat, DerX P w0 ops G K ord ((d, mk (.slice (some ⟨b, 0, none⟩) k k)) :: L) ((i, fun w => m ≤ b ∧ Blk w b (.cells cs E)) :: Γ)) : DerX P w0 ops G K (i :: ord) L Γ :=
  DerX.valE (gW m E k cs mk) b hg ho hw hk hv hx hphi h
/-- .. of a variable just made. -/
def gA (m : Nat) (T : TypeId) (cs : Array Value) : GD := ⟨Nat, 0, fun b => .pointer (some ⟨b, 0, none⟩), fun b w => m ≤ b ∧ Blk w b (.cells cs T)⟩
theorem gA_stab {m : Nat} {T : TypeId} {cs : Array Value} (x : (gA m T cs).X) : Stab [] ((gA m T cs).phi x) := fun w w' hk h => ⟨h.1, h.2.kp0 hk⟩
theorem DerX.alloc {m d : Nat} {T : TypeId} {inf : TypeInfo} [f : Inf P T inf] {z : Value} (hz : inf.zero = some z) (hg : gdLook G i = some (gA m T z.cells))
    (ho : ops[i]? = some ⟨some d, .alloc T, ty, pos, af, g⟩) (hw : want ops L ⟨some d, .alloc T, ty, pos, af, g⟩ = some true) (hm : m ≤ w0.heap.size)
    (h : ∀ b : Nat, DerX P w0 ops G K ord ((d, .pointer (some ⟨b, 0, none⟩)) :: L) ((i, fun w => m ≤ b ∧ Blk w b (.cells z.cells T)) :: Γ)) : DerX P w0 ops G K (i :: ord) L Γ := by
  refine DerX.eff (gA m T z.cells) hg ho hw (by simp [Op.operands]) (fun w h1 h2 => ?_) h
  unfold OpRun
  have : (execOp (rho L) ⟨some d, .alloc T, ty, pos, af, g⟩).run P w = .ok (.value (.pointer (some ⟨w.heap.size, 0, none⟩))) { w with heap := w.heap.push (.cells z.cells T) } := by
    simp [execOp, run_alloc hz, Result.andThen]
  rw [this]
  exact ⟨w.heap.size, rfl, ⟨Nat.le_trans hm h1.size, Blk.push w _⟩, Kp.push w _ rfl⟩
end
section
variable {P : Program} {S : List Nat} {w0 : World} {F : World → Prop} {L : Env} {d : Option Nat} {ty : TypeId} {pos : String} {af : Array Edge} {g : Option (Nat × Bool)}
/-- A string of bytes that stand where F says. -/
theorem vals_bsF {T T' E : TypeId} [u : Ut P T (.slice E)] [e : Ut P E (.int .u8)] [t : Ut P T' .string] {x : Operand} {a : Option Addr} {c m : Nat} {l : List UInt8} (hx : ro L x = some (.slice a m c)) (hm : m = l.length) (hS : ∀ w, Kp S w0 w → F w → Sl (fun u : UInt8 => [bv u]) 1 w a l) :
    Vals P S w0 F L ⟨d, .convert T T' x, ty, pos, af, g⟩ (sv l) := fun w hk hF => by
  subst hm
  exact vals_bs (P := P) (S := []) (w0 := w) (F := fun _ => True) (u := u) (e := e) (t := t) (rho_of hx) (hS w hk hF) (fun _ _ _ => List.not_mem_nil) w (Kp.refl _ _) trivial
/-- A byte of an int. -/
theorem vals_byte {T T' : TypeId} [u : Ut P T (.int .i64)] [u' : Ut P T' (.int .u8)] {x : Operand} {i : Nat} (hx : ro L x = some (.int .i64 (i : Int))) (hi : i < 256) : Vals P S w0 F L ⟨d, .convert T T' x, ty, pos, af, g⟩ (bv (UInt8.ofNat i)) := by
  have := vals_conv (P := P) (S := S) (w0 := w0) (F := F) (d := d) (ty := ty) (pos := pos) (af := af) (g := g) (u := u) (u' := u') (rho_of hx)
  have e : (Value.int .u8 (IntKind.wrap .u8 (i : Int))) = bv (UInt8.ofNat i) := by
    have h2 : (UInt8.ofNat i).toNat = i := by rw [UInt8.toNat_ofNat']; omega
    show _ = Value.int .u8 ((UInt8.ofNat i).toNat : Int)
    rw [h2]
    congr 1
    simp only [IntKind.wrap, IntKind.signed, IntKind.bits]
    simp
    omega
  rwa [e] at this
end
end Go.Proofs.Ytfelaicoedlejaa
