/-
  One net that a law has made: what it does, with the rest of memory kept.
-/
import Derived.Test.YtfelaicoedlejaaTold
namespace Go.Proofs.Ytfelaicoedlejaa
set_option linter.unusedVariables false

/-- All blocks are kept that are no net's: cells of other types, other maps. -/
structure Kt (bm : Nat) (w w' : World) : Prop where
  cells : ∀ z cs T f, T ≠ 72 → T ≠ 77 → Blk w z (.cells cs T f) → Blk w' z (.cells cs T f)
  maps : ∀ z es c, z ≠ bm → Blk w z (.map es c) → Blk w' z (.map es c)
theorem Kt.trans {bm : Nat} {w w' w'' : World} (h : Kt bm w w') (k : Kt bm w' w'') : Kt bm w w'' :=
  ⟨fun z cs T f h1 h2 hz => k.cells z cs T f h1 h2 (h.cells z cs T f h1 h2 hz), fun z es c h1 hz => k.maps z es c h1 (h.maps z es c h1 hz)⟩
theorem Kt.of0 {bm : Nat} {w w' : World} (h : Kp [] w w') : Kt bm w w' := ⟨fun z cs T f _ _ hz => hz.kp0 h, fun z es c _ hz => hz.kp0 h⟩
theorem mem_sendS {bt bm : Nat} {due : Due} {z : Nat} (h : z ∈ sendS bt bm due) : z = bt ∨ z = bm ∨ ∃ e ∈ due, e.2.1.ownBlock = some z := by
  simp only [sendS, List.mem_cons, List.mem_flatMap] at h
  rcases h with h | h | ⟨e, he, h⟩
  · exact Or.inl h
  · exact Or.inr (Or.inl h)
  · exact Or.inr (Or.inr ⟨e, he, mem_ownB.1 h⟩)
theorem uses_sendS {bt bm : Nat} {due : Due} {z : Nat} (h : z ∈ sendS bt bm due) : Uses bt bm due z := by
  rcases mem_sendS h with h | h | h
  · exact Or.inl h
  · exact Or.inr (Or.inl h)
  · exact Or.inr (Or.inr (Or.inl h))
theorem ne_tyf {w : World} {b z : Nat} {cs cs' : Array Value} {T T' : TypeId} {f f' : Nat × Nat} (hT : T ≠ T') (h : Blk w b (.cells cs T f)) (h' : Blk w z (.cells cs' T' f')) : z ≠ b := by
  rintro rfl
  have := h.uniq h'
  simp only [Obj.cells.injEq] at this
  exact hT this.2.1
theorem ne_mapf {w : World} {b z : Nat} {es : Array MapEntry} {c : Nat} {cs : Array Value} {T : TypeId} {f : Nat × Nat} (h : Blk w b (.map es c)) (h' : Blk w z (.cells cs T f)) : z ≠ b := by
  rintro rfl
  cases h.uniq h'
theorem Kt.send {w w' : World} {bt bm : Nat} {s : Ns} {due : Due} (hR : Rep w bt bm s due) (hk : Kp (sendS bt bm due) w w') : Kt bm w w' := by
  obtain ⟨es, ec, hmb⟩ := hR.map.blk
  refine ⟨fun z cs T f h1 h2 hz => hz.kp hk (fun hm => ?_), fun z es' c h1 hz => hz.kp hk (fun hm => ?_)⟩
  · rcases mem_sendS hm with rfl | rfl | ⟨e, he, hb⟩
    · exact ne_tyf h1 hz hR.blk rfl
    · exact ne_mapf hmb hz rfl
    · obtain ⟨cs', hc⟩ := own_blk (hR.own e he) hb
      exact ne_tyf h2 hz hc rfl
  · rcases mem_sendS hm with rfl | rfl | ⟨e, he, hb⟩
    · exact ne_mapf hz hR.blk rfl
    · exact h1 rfl
    · obtain ⟨cs', hc⟩ := own_blk (hR.own e he) hb
      exact ne_mapf hz hc rfl
theorem Kt.two {w w' : World} {bt bm : Nat} {s : Ns} {due : Due} (hR : Rep w bt bm s due) (hk : Kp [bt, bm] w w') : Kt bm w w' :=
  Kt.send hR (hk.mono (fun x hx => by
    rcases List.mem_cons.1 hx with rfl | hx
    · simp [sendS]
    · rw [List.mem_singleton] at hx
      subst hx
      simp [sendS]))
theorem own_kt {bm : Nat} {w w' : World} {base n sz : Nat} {T : TypeId} {v : Value} {xs : List Value} (h : w.ownsRow base T sz v n xs) (hk : Kt bm w w') (h1 : T ≠ 72) (h2 : T ≠ 77) : w'.ownsRow base T sz v n xs := by
  obtain ⟨g1, g2⟩ := h
  refine ⟨g1, ?_⟩
  rcases g2 with g2 | ⟨g, cap, cur, rfl, hg, hh, hr⟩
  · exact Or.inl g2
  · exact Or.inr ⟨g, cap, cur, rfl, hg, hk.cells g cur T (0, 0) h1 h2 hh, hr⟩
theorem ByAt.kt {bm : Nat} {w w' : World} {a : Option Addr} {l : List UInt8} (h : ByAt w a l) (hk : Kt bm w w') : ByAt w' a l := fun i u hu => by
  obtain ⟨b, off, cs, h1, h2, h3⟩ := h i u hu
  exact ⟨b, off, cs, h1, hk.cells _ _ _ _ (by decide) (by decide) h2, h3⟩

/-! more of code and of bytes -/
/-- A cut: what is known behind c, where B goes on. -/
theorem CG.cut_then {P : Program} {n : Nat} {Q Q' : Exit → Act → World → Prop} {L : Env} {w : World} {c B : Code} (M : Env → World → Prop) (h : CG P n c (Exit.then (fun a w => ∃ L, Fits n a L ∧ M L w) Q') L w) (h2 : ∀ L w, M L w → CG P n B Q L w) : CG P n c (Exit.then (B.wp P Q) Q') L w := by
  refine fun a ha => wp_mono (h a ha) (fun e a w hq => ?_)
  cases e <;> first | exact hq | (obtain ⟨L, h1, h2'⟩ := hq; exact h2 L w h2' a h1)
theorem qx1 {P : Program} {S : List Nat} {w0 : World} {F : World → Prop} {L : Env} {d : Option Nat} {ty : TypeId} {pos : String} {af : Array Edge} {g : Option (Nat × Bool)} {T T' : TypeId} {x y : Operand} {a b : Int} (hx : ro L x = some (.int .u8 a)) (hy : ro L y = some (.int .u8 b)) (h : Ar (0 ≤ a ∧ 0 < b)) :
    Vals P S w0 F L ⟨d, .binOp .rem T x y T', ty, pos, af, g⟩ (.int .u8 (a % b)) := fun w _ _ => by
  have hb : b ≠ 0 := by have := h.h; omega
  simp [execOp, rho_of hx, rho_of hy, eqGuard, binOp, Op.intDiv, hb]
  exact Int.tmod_eq_emod_of_nonneg h.h.1
theorem qx2 {P : Program} {S : List Nat} {w0 : World} {F : World → Prop} {L : Env} {d : Option Nat} {ty : TypeId} {pos : String} {af : Array Edge} {g : Option (Nat × Bool)} {T T' : TypeId} [u : Ut P T (.int .u8)] [u' : Ut P T' (.int .i64)] {x : Operand} {a : Int} (hx : ro L x = some (.int .u8 a)) (h : Ar (0 ≤ a ∧ a < 256)) :
    Vals P S w0 F L ⟨d, .convert T T' x, ty, pos, af, g⟩ (.int .i64 a) := by
  have := qcv (P := P) (S := S) (w0 := w0) (F := F) (d := d) (ty := ty) (pos := pos) (af := af) (g := g) (u := u) (u' := u') hx
  have e : IntKind.wrap .i64 a = a := by
    have := h.h
    simp only [IntKind.wrap, IntKind.signed, IntKind.bits]
    simp
    omega
  rwa [e] at this
theorem qx3 {S : List Nat} {w0 : World} {F : World → Prop} {L : Env} {d : Option Nat} {ty : TypeId} {pos : String} {af : Array Edge} {g : Option (Nat × Bool)} {T E : TypeId} {n : Nat} [u : Ut Try.prog T (.array n E)] {sz : Nat} [f : Sz Try.prog E sz] {x : Operand} {b off : Nat} {k : IntKind} {z : Int} (hx : ro L x = some (.pointer (some ⟨b, off, none⟩))) (h1 : Ar (0 ≤ z ∧ z < n)) :
    Vals Try.prog S w0 F L ⟨d, .indexAddr T x (.const (.int k z)), ty, pos, af, g⟩ (.pointer (some ⟨b, off + z.toNat * sz, none⟩)) := qia (u := u) (f := f) (k := k) (z := z) hx rfl (Int.toNat_of_nonneg h1.h.1).symm ⟨by have := h1.h; omega⟩
theorem qx4 {P : Program} {S : List Nat} {w0 : World} {F : World → Prop} {L : Env} {d : Option Nat} {ty : TypeId} {pos : String} {af : Array Edge} {g : Option (Nat × Bool)} {T T' : TypeId} [u : Ut P T (.int .i64)] [u' : Ut P T' (.int .u8)] {x : Operand} {a : Int} (hx : ro L x = some (.int .i64 a)) (h : Ar (0 ≤ a ∧ a < 256)) :
    Vals P S w0 F L ⟨d, .convert T T' x, ty, pos, af, g⟩ (.int .u8 a) := by
  have := qcv (P := P) (S := S) (w0 := w0) (F := F) (d := d) (ty := ty) (pos := pos) (af := af) (g := g) (u := u) (u' := u') hx
  have e : IntKind.wrap .u8 a = a := by
    have := h.h
    simp only [IntKind.wrap, IntKind.signed, IntKind.bits]
    simp
    omega
  rwa [e] at this
theorem qx5 {P : Program} {S : List Nat} {w0 : World} {F : World → Prop} {L : Env} {d : Option Nat} {ty : TypeId} {pos : String} {af : Array Edge} {g : Option (Nat × Bool)} {T T' : TypeId} {x y : Operand} {a b : List UInt8} {c : Bool} (hx : ro L x = some (sv a)) (hy : ro L y = some (sv b)) (h : Dc (a = b) c) : Vals P S w0 F L ⟨d, .binOp .neq T x y T', ty, pos, af, g⟩ (.bool (!c)) := by
  have := vals_nes (P := P) (S := S) (w0 := w0) (F := F) (d := d) (T := T) (T' := T') (ty := ty) (pos := pos) (af := af) (g := g) (rho_of hx) (rho_of hy)
  rw [← h.eq]
  simpa using this
theorem bv_ofNat {i : Nat} (h : i < 256) : Value.int .u8 (i : Int) = bv (UInt8.ofNat i) := by
  have h2 : (UInt8.ofNat i).toNat = i := by rw [UInt8.toNat_ofNat']; omega
  show _ = Value.int .u8 ((UInt8.ofNat i).toNat : Int)
  rw [h2]
theorem sl_byte {w : World} {b i : Nat} {T : TypeId} (hi : i < 256) (h : Blk w b (.cells #[.int .u8 (i : Int)] T)) : Sl byc 1 w (some ⟨b, 0, none⟩) [UInt8.ofNat i] := sl_blk byc_length h (by rw [bv_ofNat hi]; rfl)
theorem sendE_fine {s : Ns} {fr to n : Nat} {later : List Int} (h1 : fr < s.parties) (h2 : to < s.parties) (h3 : n ≤ 65536) (h4 : later.length ≤ 8) (h5 : later.any badL = false) (h6 : s.pend.length + later.length ≤ 4096) : s.sendE fr to n later = 0 := by
  unfold Ns.sendE
  rw [if_neg (by omega), if_neg (by omega), if_neg (by rw [h5]; simp; omega), if_neg (by omega)]

/-- A net made behind w0. -/
def At (w0 w : World) (bt bm : Nat) (s : Ns) : Prop := Kp [] w0 w ∧ ∃ due, Rep w bt bm s due ∧ ∀ z, Uses bt bm due z → w0.heap.size ≤ z
theorem At.kp {w0 w : World} {bt bm : Nat} {s : Ns} (h : At w0 w bt bm s) : Kp [] w0 w := h.1
theorem At.kp0 {w0 w w' : World} {bt bm : Nat} {s : Ns} (h : At w0 w bt bm s) (hk : Kp [] w w') : At w0 w' bt bm s := by
  obtain ⟨h1, due, h2, h3⟩ := h
  exact ⟨h1.trans hk, due, h2.kp0 hk, h3⟩
/-- .. where a block of another kind is written. -/
theorem At.kpb {w0 w w' : World} {bt bm : Nat} {s : Ns} (h : At w0 w bt bm s) {z : Nat} {cs : Array Value} {T : TypeId} (hz : Blk w z (.cells cs T)) (hz0 : w0.heap.size ≤ z) (h5 : T ≠ 5) (h72 : T ≠ 72) (h77 : T ≠ 77) (hk : Kp [z] w w') : At w0 w' bt bm s := by
  obtain ⟨h1, due, h2, h3⟩ := h
  exact ⟨h1.trans_new hk (new1 hz0), due, h2.kp1 hz h5 h72 h77 hk, h3⟩
theorem At.kpo {w0 w w' : World} {bt bm : Nat} {s : Ns} (h : At w0 w bt bm s) {base n sz : Nat} {T : TypeId} {v : Value} {xs : List Value} (ho : w.ownsRow base T sz v n xs) (hb : w0.heap.size ≤ base) (h5 : T ≠ 5) (h72 : T ≠ 72) (h77 : T ≠ 77) (hk : Kp (ownB v) w w') : At w0 w' bt bm s := by
  cases hv : v.ownBlock with
  | none =>
    have e : ownB v = [] := by unfold ownB; rw [hv]
    rw [e] at hk
    exact h.kp0 hk
  | some z =>
    have e : ownB v = [z] := by unfold ownB; rw [hv]
    rw [e] at hk
    obtain ⟨cs, hc⟩ := own_blk ho hv
    exact h.kpb hc (by have := (ho.lt z hv).1; omega) h5 h72 h77 hk
theorem new_at (w : World) (n : Nat) (h1 : 1 ≤ n) (h2 : n ≤ 16) : Calls Try.prog 11 #[.int .i64 n] w (fun e w' => ∃ bt bm, e = .returned (.tuple #[.pointer (some ⟨bt, 0, none⟩), .int .i64 0]) ∧ At w w' bt bm (Ns.new n)) :=
  (netnew_good w n h1 h2).mono (fun e w' ⟨bt, bm, he, hR, hbt, hbm, hne, hk⟩ => ⟨bt, bm, he, hk, [], hR, fun z hz => by
    rcases hz with h | h | ⟨e, h, _⟩ | ⟨e, h, _⟩
    · omega
    · omega
    · cases h
    · cases h⟩)
theorem At.kpU {w0 w w' : World} {bt bm : Nat} {due : Due} (h1 : Kp [] w0 w) (h3 : ∀ z, Uses bt bm due z → w0.heap.size ≤ z) (hk : Kp (sendS bt bm due) w w') : Kp [] w0 w' := h1.trans_new hk (fun z hz => Or.inr (h3 z (uses_sendS hz)))
theorem send_at {w0 w : World} {bt bm : Nat} {s : Ns} (h : At w0 w bt bm s) (hnow : s.now ≤ 1000000000000) (hsent : s.sent ≤ 1000000000000) (fr to : Nat) (ab : Option Addr) (cb : Nat) (bs : List UInt8) (hSb : Sl byc 1 w ab bs) (al : Option Addr) (cl : Nat) (later : List Int)
    (hS : ∀ w', Kt bm w w' → Kp [] w0 w' → SlI w' al later) (hE : s.sendE fr to bs.length later = 0) : Calls Try.prog 13 #[.pointer (some ⟨bt, 0, none⟩), lv fr to ab bs.length cb, fv al later.length cl] w (fun e w' => e = .returned (.int .i64 0) ∧ At w0 w' bt bm (s.sendAll fr to bs later) ∧ Kt bm w w') := by
  obtain ⟨h1, due, h2, h3⟩ := h
  refine (send_good h2 hnow hsent fr to ab cb bs hSb al cl later (fun w' hk => hS w' (Kt.send h2 hk) (At.kpU h1 h3 hk)) hE).mono (fun e w' h => ?_)
  obtain ⟨due', he, hR, hU, hk⟩ := h
  refine ⟨he, ⟨At.kpU h1 h3 hk, due', hR, fun z hz => ?_⟩, Kt.send h2 hk⟩
  rcases hU z hz with h | h
  · exact h3 z h
  · have := h1.size
    omega
theorem send_no {w0 w : World} {bt bm : Nat} {s : Ns} (h : At w0 w bt bm s) (hw : s.pend.length ≤ 100000) (fr to : Int) (ab : Option Addr) (nb cb : Nat) (al : Option Addr) (cl : Nat) (later : List Int) (hS : SlI w al later) (hl : later.length ≤ 100000) (hnb : nb ≤ 1000000000)
    (hE : s.sendE fr to nb later ≠ 0) : Ret Try.prog 13 #[.pointer (some ⟨bt, 0, none⟩), lv fr to ab nb cb, fv al later.length cl] w (.int .i64 (s.sendE fr to nb later)) := by
  obtain ⟨h1, due, h2, h3⟩ := h
  exact send_bad h2 hw fr to ab nb cb al cl later hS hl hnb hE
theorem step_at {w0 w : World} {bt bm : Nat} {s : Ns} (h : At w0 w bt bm s) (hnow : s.now ≤ 1000000000000) (hpl : s.pend.length ≤ 4096) (hin : ∀ c ∈ s.pend, c.fr < 16 ∧ c.to < 16 ∧ c.bs.length ≤ 65536) : Calls Try.prog 14 #[.pointer (some ⟨bt, 0, none⟩)] w (fun e w' => ∃ v ls, e = .returned v ∧ w'.ownsRow w.heap.size 35 3 v ls.length (flt lcl ls) ∧ ls.map ltc = (s.open_ s.come).map cpc
    ∧ (∀ l ∈ ls, ByAt w' l.a l.bs ∧ ∀ b off, l.a = some ⟨b, off, none⟩ → w.heap.size ≤ b) ∧ At w0 w' bt bm s.step ∧ Kt bm w w') := by
  obtain ⟨h1, due, h2, h3⟩ := h
  refine (step_spec h2 hnow hpl hin).mono (fun e w' h => ?_)
  obtain ⟨v, due', ls, he, ho, hl, hb, hR, hU, hk⟩ := h
  have hk' : Kp (sendS bt bm due) w w' := hk.mono (fun x hx => by
    rcases List.mem_cons.1 hx with rfl | hx
    · simp [sendS]
    · rw [List.mem_singleton] at hx
      subst hx
      simp [sendS])
  exact ⟨v, ls, he, ho, hl, hb, ⟨At.kpU h1 h3 hk', due', hR, fun z hz => h3 z (hU z hz)⟩, Kt.send h2 hk'⟩
theorem cut_at {w0 w : World} {bt bm : Nat} {s : Ns} (h : At w0 w bt bm s) (f t : Nat) (b : Bool) (h16 : s.parties ≤ 16) (g1 : f < s.parties) (g2 : t < s.parties) : Calls Try.prog 18 #[.pointer (some ⟨bt, 0, none⟩), .int .i64 f, .int .i64 t, .bool b] w (fun e w' => e = .returned (.int .i64 0) ∧ At w0 w' bt bm (s.setCut f t b) ∧ Kt bm w w') := by
  obtain ⟨h1, due, h2, h3⟩ := h
  refine (cut_good h2 f t b h16 g1 g2).mono (fun e w' h => ?_)
  obtain ⟨he, hR, hk⟩ := h
  have hk' : Kp (sendS bt bm due) w w' := hk.mono (fun x hx => by
    rw [List.mem_singleton] at hx
    subst hx
    simp [sendS])
  exact ⟨he, ⟨At.kpU h1 h3 hk', due, hR, h3⟩, Kt.send h2 hk'⟩
theorem way_at {w0 w : World} {bt bm : Nat} {s : Ns} (h : At w0 w bt bm s) : Ret Try.prog 15 #[.pointer (some ⟨bt, 0, none⟩)] w (.int .i64 s.pend.length) := by
  obtain ⟨h1, due, h2, h3⟩ := h
  exact way_spec h2
theorem now_at {w0 w : World} {bt bm : Nat} {s : Ns} (h : At w0 w bt bm s) : Ret Try.prog 24 #[.pointer (some ⟨bt, 0, none⟩)] w (.int .i64 s.now) := by
  obtain ⟨h1, due, h2, h3⟩ := h
  exact now_spec h2
end Go.Proofs.Ytfelaicoedlejaa
