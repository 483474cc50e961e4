import Derived.Test.YtkkfppfpbobghaaQi3
/-
  Keys compared; all accounts, by their keys.
-/
namespace Go.Proofs.Ytkkfppfpbobghaa
open Go.Proofs Go.Shelf Go.Sort
set_option linter.unusedVariables false

theorem bytes_back (l : List UInt8) : Lib.bytesOf (l.map (fun u => (u.toNat : Int))) = l := by
  unfold Lib.bytesOf
  induction l with
  | nil => rfl
  | cons u l ih => simp_all
theorem load_key {w : World} {b off : Nat} {x : Dg} (hx : Row w b off (dc x)) : (Extern.Bytes.loadBytes ⟨b, off, none⟩ 8 .empty).run Try.prog w = .ok ⟨x.1.toArray⟩ w := by
  have h := Lib.run_loadBytesX (P := Try.prog) w (x.1.map (fun u => (u.toNat : Int))) ⟨b, off, none⟩ .empty (fun j z hj => by
    rw [List.getElem?_map, Option.map_eq_some_iff] at hj
    obtain ⟨u, hu, rfl⟩ := hj
    have e : (⟨b, off, none⟩ : Addr).add j = ⟨b, off + j, none⟩ := by unfold Addr.add; split <;> simp_all
    rw [e]
    exact hx.cell (by unfold dc; rw [List.getElem?_map, hu]; rfl))
  rw [List.length_map, x.2, bytes_back] at h
  have e0 : ByteArray.empty.data ++ x.1.toArray = x.1.toArray := by simp [ByteArray.empty, ByteArray.emptyWithCapacity]; rfl
  rw [e0] at h
  exact h
theorem compare_run {w : World} {b off c b' off' c' : Nat} {x y : Dg} (hx : Row w b off (dc x)) (hy : Row w b' off' (dc y)) :
    (Extern.BytealgCompare.compare #[.slice (some ⟨b, off, none⟩) 8 c, .slice (some ⟨b', off', none⟩) 8 c']).run Try.prog w = .ok (.int .i64 (Lib.compareBytes x.1 y.1)) w := by
  change Sem.run Try.prog (do pure (goInt (Extern.BytealgCompare.cmp (← Extern.Bytes.loadBytes ⟨b, off, none⟩ 8 .empty) (← Extern.Bytes.loadBytes ⟨b', off', none⟩ 8 .empty)))) w = _
  simp only [Sem.run_bind, load_key hx, load_key hy, Sem.run_pure, Result.andThen]
  rw [Lib.cmp_eq]
  rfl
theorem call40 (args : Array Value) (w : World) : (callFunc 40 args).run Try.prog w = ((Extern.BytealgCompare.compare args).run Try.prog w).andThen fun v w' => .ok (.value v) w' :=
  run_callFunc_extern Try.func40 (by kernel_rfl) (by kernel_rfl) (by kernel_rfl) (e := Extern.BytealgCompare.compare) (by kernel_rfl) args w
theorem vals_cmp {S : List Nat} {w0 : World} {F : World → Prop} {L : Env} {d : Option Nat} {ty : TypeId} {pos : String} {af : Array Edge} {g : Option (Nat × Bool)} {p q : Operand} {tys : Array TypeId} {b off c b' off' c' : Nat} {x y : Dg} (hp : rho L p = .slice (some ⟨b, off, none⟩) 8 c) (hq : rho L q = .slice (some ⟨b', off', none⟩) 8 c') (hx : Row w0 b off (dc x)) (hy : Row w0 b' off' (dc y)) (hb : b ∉ S) (hb' : b' ∉ S) :
    Vals Try.prog S w0 F L ⟨d, .call ⟨.value (.func 40), #[p, q], tys⟩, ty, pos, af, g⟩ (.int .i64 (Lib.compareBytes x.1 y.1)) := fun w hk _ => by
  have : (execOp (rho L) ⟨d, .call ⟨.value (.func 40), #[p, q], tys⟩, ty, pos, af, g⟩).run Try.prog w = (callFunc 40 #[rho L p, rho L q]).run Try.prog w := by
    simp [execOp, resolve, invoke, rho_func, Deferred.ofValue]
  rw [this, hp, hq, call40, compare_run (hx.kp hk hb) (hy.kp hk hb')]
  rfl
/-- A whole array, as a slice. -/
theorem qx5 {P : Program} {S : List Nat} {w0 : World} {F : World → Prop} {L : Env} {d : Option Nat} {ty : TypeId} {pos : String} {af : Array Edge} {g : Option (Nat × Bool)} {T E : TypeId} {n sz : Nat} [u : Ut P T (.array n E)] [f : Sz P E sz] {x : Operand} {b off : Nat} (hx : ro L x = some (.pointer (some ⟨b, off, none⟩))) :
    Vals P S w0 F L ⟨d, .slice T x none none none, ty, pos, af, g⟩ (.slice (some ⟨b, off, none⟩) n n) := fun w _ _ => by
  obtain ⟨i, h2, h3⟩ := f.eq
  subst h3
  simp only [execOp, rho_of hx, Option.map_none, Instr.sliceAt, Sem.run_bind, run_underlying u.eq, Result.andThen, Instr.sureAddr, Instr.sliceBounds, Sem.run_pure, sizeOf, typeInfo, run_program, h2]
  simp [Addr.add]
def cf (x y : En) : Int := Lib.compareBytes x.key.1 y.key.1
attribute [local irreducible] CG NG SG Vals Der Row Blk MapIs IterAt DerX
set_option maxHeartbeats 8000000 in
theorem cmp_spec {w : World} {b off c b' off' c' : Nat} {x y : Dg} (hx : Row w b off (dc x)) (hy : Row w b' off' (dc y)) : Ret Try.prog 33 #[.slice (some ⟨b, off, none⟩) 8 c, .slice (some ⟨b', off', none⟩) 8 c'] w (.int .i64 (Lib.compareBytes x.1 y.1)) := by
  refine enter2 Try.func33 rfl Try.ntmps33 rfl ?_
  repeat (first|apply CG.seq|apply CG.region|apply SG.nil|apply NG.next|apply CG.skip|apply CG.block|apply CG.ret|apply CG.exit|apply CG.scope|apply NG.ret_then|apply NG.ret_block|apply NG.ret_scope|apply NG.exit_then|refine NG.exit_block rfl ?_|refine NG.exit_other rfl ?_|apply NG.exit_scope|apply NG.normal_block|apply NG.normal_scope|refine SG.val rfl rfl rfl rfl (by first|((first|apply qmv|apply qas|apply qlc|apply qla|apply qfa|apply qnc|apply qic|apply qix|apply qpk|apply qls|apply qei|apply qni|apply qed|apply qnd|apply qad|apply qln|apply qle|apply qgt|apply qge|apply qlk|apply qlv|apply qxt|apply qsb|apply qnt|apply qep|apply qnp|apply qeb|apply qnb|apply qx2|apply qx4|apply qcv|apply qlm|apply qfr|apply qto|apply qmx|apply qen|apply qsn|apply qx5|apply qx4|apply qx3|apply qx2|apply qx1|apply qx0)<;>(first|exact rfl|exact Ar.mk (by omega)|assumption|exact dct (by assumption)|exact dcf (by assumption)|exact dct (by omega)|exact dcf (by omega)|exact List.not_mem_nil|exact dc_length _|exact nc_length _|exact rc_length _ _ _|exact ec_length _|exact nm1 (by omega)|exact nm2 (by omega) (by omega)|exact dct rfl|exact dct (by decide)|exact dcf (by decide)|exact (Int.toNat_of_nonneg (by omega)).symm|exact dcu|exact lk1 (by assumption)|exact lk0 (by assumption)|exact lkb|fail))|fail) ?_)
  refine SG.val rfl rfl rfl rfl (vals_cmp (by exact rho_of rfl) (by exact rho_of rfl) hx hy List.not_mem_nil List.not_mem_nil) ?_
  repeat (first|apply CG.seq|apply CG.region|apply SG.nil|apply NG.next|apply CG.skip|apply CG.block|apply CG.ret|apply CG.exit|apply CG.scope|apply NG.ret_then|apply NG.ret_block|apply NG.ret_scope|apply NG.exit_then|refine NG.exit_block rfl ?_|refine NG.exit_other rfl ?_|apply NG.exit_scope|apply NG.normal_block|apply NG.normal_scope|refine SG.val rfl rfl rfl rfl (by first|((first|apply qmv|apply qas|apply qlc|apply qla|apply qfa|apply qnc|apply qic|apply qix|apply qpk|apply qls|apply qei|apply qni|apply qed|apply qnd|apply qad|apply qln|apply qle|apply qgt|apply qge|apply qlk|apply qlv|apply qxt|apply qsb|apply qnt|apply qep|apply qnp|apply qeb|apply qnb|apply qx2|apply qx4|apply qcv|apply qlm|apply qfr|apply qto|apply qmx|apply qen|apply qsn|apply qx5|apply qx4|apply qx3|apply qx2|apply qx1|apply qx0)<;>(first|exact rfl|exact Ar.mk (by omega)|assumption|exact dct (by assumption)|exact dcf (by assumption)|exact dct (by omega)|exact dcf (by omega)|exact List.not_mem_nil|exact dc_length _|exact nc_length _|exact rc_length _ _ _|exact ec_length _|exact nm1 (by omega)|exact nm2 (by omega) (by omega)|exact dct rfl|exact dct (by decide)|exact dcf (by decide)|exact (Int.toNat_of_nonneg (by omega)).symm|exact dcu|exact lk1 (by assumption)|exact lk0 (by assumption)|exact lkb|fail))|fail) ?_)
  refine ret1 (Or.inl rfl) Try.results33 (by first | exact ResV.tmp rfl | exact ResV.agg rfl rfl (by assumption) (by first | exact dc_length _ | exact nc_length _ | exact rc_length _ _ _ | exact ec_length _ | rfl) | exact ResV.cell rfl rfl (by assumption)) ?_
  exact ⟨rfl, Kp.refl _ _⟩
set_option maxHeartbeats 8000000 in
theorem less_spec (x y : En) (w : World) : Ret Try.prog 32 #[ev x, ev y] w (.int .i64 (cf x y)) := by
  refine enter2 Try.func32 rfl Try.ntmps32 rfl ?_
  repeat (first|apply CG.seq|apply CG.region|apply SG.nil|apply NG.next|apply CG.skip|apply CG.block|apply CG.ret|apply CG.exit|apply CG.scope|apply NG.ret_then|apply NG.ret_block|apply NG.ret_scope|apply NG.exit_then|refine NG.exit_block rfl ?_|refine NG.exit_other rfl ?_|apply NG.exit_scope|apply NG.normal_block|apply NG.normal_scope|refine SG.val rfl rfl rfl rfl (by first|((first|apply qmv|apply qas|apply qlc|apply qla|apply qfa|apply qnc|apply qic|apply qix|apply qpk|apply qls|apply qei|apply qni|apply qed|apply qnd|apply qad|apply qln|apply qle|apply qgt|apply qge|apply qlk|apply qlv|apply qxt|apply qsb|apply qnt|apply qep|apply qnp|apply qeb|apply qnb|apply qx2|apply qx4|apply qcv|apply qlm|apply qfr|apply qto|apply qmx|apply qen|apply qsn|apply qx5|apply qx4|apply qx3|apply qx2|apply qx1|apply qx0)<;>(first|exact rfl|exact Ar.mk (by omega)|assumption|exact dct (by assumption)|exact dcf (by assumption)|exact dct (by omega)|exact dcf (by omega)|exact List.not_mem_nil|exact dc_length _|exact nc_length _|exact rc_length _ _ _|exact ec_length _|exact nm1 (by omega)|exact nm2 (by omega) (by omega)|exact dct rfl|exact dct (by decide)|exact dcf (by decide)|exact (Int.toNat_of_nonneg (by omega)).symm|exact dcu|exact lk1 (by assumption)|exact lk0 (by assumption)|exact lkb|fail))|fail) ?_)
  refine SG.box rfl rfl rfl (by exact rho_of rfl) (fun b2 w1 hk1 hb2 hB2 => ?_)
  refine SG.box rfl rfl rfl (by exact rho_of rfl) (fun b3 w2 hk2 hb3 hB3 => ?_)
  have hB2 : Blk w1 b2 (.cells (ec x).toArray 49) := hB2
  have hB3 : Blk w2 b3 (.cells (ec y).toArray 49) := hB3
  obtain ⟨q0, q1, q2, q3⟩ := en_rows (hB2.kp0 hk2)
  obtain ⟨r0, r1, r2, r3⟩ := en_rows hB3
  repeat (first|apply CG.seq|apply CG.region|apply SG.nil|apply NG.next|apply CG.skip|apply CG.block|apply CG.ret|apply CG.exit|apply CG.scope|apply NG.ret_then|apply NG.ret_block|apply NG.ret_scope|apply NG.exit_then|refine NG.exit_block rfl ?_|refine NG.exit_other rfl ?_|apply NG.exit_scope|apply NG.normal_block|apply NG.normal_scope|refine SG.val rfl rfl rfl rfl (by first|((first|apply qmv|apply qas|apply qlc|apply qla|apply qfa|apply qnc|apply qic|apply qix|apply qpk|apply qls|apply qei|apply qni|apply qed|apply qnd|apply qad|apply qln|apply qle|apply qgt|apply qge|apply qlk|apply qlv|apply qxt|apply qsb|apply qnt|apply qep|apply qnp|apply qeb|apply qnb|apply qx2|apply qx4|apply qcv|apply qlm|apply qfr|apply qto|apply qmx|apply qen|apply qsn|apply qx5|apply qx4|apply qx3|apply qx2|apply qx1|apply qx0)<;>(first|exact rfl|exact Ar.mk (by omega)|assumption|exact dct (by assumption)|exact dcf (by assumption)|exact dct (by omega)|exact dcf (by omega)|exact List.not_mem_nil|exact dc_length _|exact nc_length _|exact rc_length _ _ _|exact ec_length _|exact nm1 (by omega)|exact nm2 (by omega) (by omega)|exact dct rfl|exact dct (by decide)|exact dcf (by decide)|exact (Int.toNat_of_nonneg (by omega)).symm|exact dcu|exact lk1 (by assumption)|exact lk0 (by assumption)|exact lkb|fail))|fail) ?_)
  refine CG.draw0 mixed [0, 1, 2, 3, 4, 5] [] (by kernel_rfl) ?_
  repeat (refine Der.val rfl rfl rfl (by first|((first|apply qmv|apply qas|apply qlc|apply qla|apply qfa|apply qnc|apply qic|apply qix|apply qpk|apply qls|apply qei|apply qni|apply qed|apply qnd|apply qad|apply qln|apply qle|apply qgt|apply qge|apply qlk|apply qlv|apply qxt|apply qsb|apply qnt|apply qep|apply qnp|apply qeb|apply qnb|apply qx2|apply qx4|apply qcv|apply qlm|apply qfr|apply qto|apply qmx|apply qen|apply qsn|apply qx5|apply qx4|apply qx3|apply qx2|apply qx1|apply qx0)<;>(first|exact rfl|exact Ar.mk (by omega)|assumption|exact dct (by assumption)|exact dcf (by assumption)|exact dct (by omega)|exact dcf (by omega)|exact List.not_mem_nil|exact dc_length _|exact nc_length _|exact rc_length _ _ _|exact ec_length _|exact nm1 (by omega)|exact nm2 (by omega) (by omega)|exact dct rfl|exact dct (by decide)|exact dcf (by decide)|exact (Int.toNat_of_nonneg (by omega)).symm|exact dcu|exact lk1 (by assumption)|exact lk0 (by assumption)|exact lkb|fail))|fail) ?_)
  refine Der.call rfl rfl rfl (by repeat' (first | exact True.intro | exact rho_of rfl | refine And.intro ?_ ?_)) (fun w hk _ => cmp_spec (x := x.key) (y := y.key) (q0.kp0 hk) (r0.kp0 hk)) ?_
  repeat (refine Der.val rfl rfl rfl (by first|((first|apply qmv|apply qas|apply qlc|apply qla|apply qfa|apply qnc|apply qic|apply qix|apply qpk|apply qls|apply qei|apply qni|apply qed|apply qnd|apply qad|apply qln|apply qle|apply qgt|apply qge|apply qlk|apply qlv|apply qxt|apply qsb|apply qnt|apply qep|apply qnp|apply qeb|apply qnb|apply qx2|apply qx4|apply qcv|apply qlm|apply qfr|apply qto|apply qmx|apply qen|apply qsn|apply qx5|apply qx4|apply qx3|apply qx2|apply qx1|apply qx0)<;>(first|exact rfl|exact Ar.mk (by omega)|assumption|exact dct (by assumption)|exact dcf (by assumption)|exact dct (by omega)|exact dcf (by omega)|exact List.not_mem_nil|exact dc_length _|exact nc_length _|exact rc_length _ _ _|exact ec_length _|exact nm1 (by omega)|exact nm2 (by omega) (by omega)|exact dct rfl|exact dct (by decide)|exact dcf (by decide)|exact (Int.toNat_of_nonneg (by omega)).symm|exact dcu|exact lk1 (by assumption)|exact lk0 (by assumption)|exact lkb|fail))|fail) ?_)
  refine Der.fin (fun w3 hk3 _ _ => ?_)
  repeat (first|apply CG.seq|apply CG.region|apply SG.nil|apply NG.next|apply CG.skip|apply CG.block|apply CG.ret|apply CG.exit|apply CG.scope|apply NG.ret_then|apply NG.ret_block|apply NG.ret_scope|apply NG.exit_then|refine NG.exit_block rfl ?_|refine NG.exit_other rfl ?_|apply NG.exit_scope|apply NG.normal_block|apply NG.normal_scope|refine SG.val rfl rfl rfl rfl (by first|((first|apply qmv|apply qas|apply qlc|apply qla|apply qfa|apply qnc|apply qic|apply qix|apply qpk|apply qls|apply qei|apply qni|apply qed|apply qnd|apply qad|apply qln|apply qle|apply qgt|apply qge|apply qlk|apply qlv|apply qxt|apply qsb|apply qnt|apply qep|apply qnp|apply qeb|apply qnb|apply qx2|apply qx4|apply qcv|apply qlm|apply qfr|apply qto|apply qmx|apply qen|apply qsn|apply qx5|apply qx4|apply qx3|apply qx2|apply qx1|apply qx0)<;>(first|exact rfl|exact Ar.mk (by omega)|assumption|exact dct (by assumption)|exact dcf (by assumption)|exact dct (by omega)|exact dcf (by omega)|exact List.not_mem_nil|exact dc_length _|exact nc_length _|exact rc_length _ _ _|exact ec_length _|exact nm1 (by omega)|exact nm2 (by omega) (by omega)|exact dct rfl|exact dct (by decide)|exact dcf (by decide)|exact (Int.toNat_of_nonneg (by omega)).symm|exact dcu|exact lk1 (by assumption)|exact lk0 (by assumption)|exact lkb|fail))|fail) ?_)
  refine ret1 (Or.inl rfl) Try.results32 (by first | exact ResV.tmp rfl | exact ResV.agg rfl rfl (by assumption) (by first | exact dc_length _ | exact nc_length _ | exact rc_length _ _ _ | exact ec_length _ | rfl) | exact ResV.cell rfl rfl (by assumption)) ?_
  exact ⟨rfl, (hk1.trans hk2).trans hk3⟩
end Go.Proofs.Ytkkfppfpbobghaa
/-
  append in text order, with where the row lies.
-/
namespace Go.Proofs.Ytkkfppfpbobghaa
set_option linter.unusedVariables false
section
variable {P : Program} {n : Nat} {ops : List Oper} {Q : Exit → Act → World → Prop} {w : World} {L : Env} {ty : TypeId} {pos : String} {af : Array Edge} {g : Option (Nat × Bool)} {rest : List Oper}
theorem SG.appendW {base : Nat} {t e : TypeId} {i : TypeInfo} [u : Ut P t (.slice e)] [f : Inf P e i] {z : Value} {d : Nat} {s x : Operand} {v : Value} {nn : Nat} {xs : List Value} {b off m c : Nat} {news : List Value}
    (hd : Nat.blt d n = true) (hw : want ops L ⟨some d, .call { callee := .builtin .append, args := #[s, x], argTypes := #[t, t] }, ty, pos, af, g⟩ = some true) (hk : (known L s && known L x) = true)
    (hs : rho L s = v) (hx : rho L x = .slice (some ⟨b, off, none⟩) m c) (hz : i.zero = some z) (hzs : Nat.beq z.cells.size i.size = true) (hsz : Nat.blt 0 i.size = true) (hown : w.ownsRow base e i.size v nn xs) (hr : Row w b off news) (hl : news.length = m * i.size) (h1 : allOne news = true)
    (h63 : nn + m ≤ maxLen) (hbytes : (nn + m) * i.bytes ≤ 140737488355328) (hbase : base ≤ w.heap.size)
    (h : ∀ v' w', Kp (ownB v) w w' → w'.ownsRow base e i.size v' (nn + m) (xs ++ news) → (∀ g, v'.ownBlock = some g → v.ownBlock = some g ∨ g = w.heap.size) → SG P n ops Q rest ((d, v') :: L) w') : SG P n ops Q (⟨some d, .call { callee := .builtin .append, args := #[s, x], argTypes := #[t, t] }, ty, pos, af, g⟩ :: rest) L w := by
  refine SG.op (by simpa using hd) rfl hw (by simpa [Op.operands, Call.operands] using hk) ?_
  unfold OpRun
  obtain ⟨v', w', h2, h3, h4⟩ := run_append (P := P) (ty := ty) (d := .bool) (c := c) (u := u) (f := f) hz (Nat.eq_of_beq_eq_true hzs) (by simpa [Nat.blt_eq] using hsz) hown hl hr h1 h63 hbytes hbase
  have : (execOp (rho L) ⟨some d, .call { callee := .builtin .append, args := #[s, x], argTypes := #[t, t] }, ty, pos, af, g⟩).run P w = .ok (.value v') w' := by
    simp only [execOp, resolve, invoke, builtin, Sem.run_bind, Sem.run_pure, Result.andThen_ok, List.map_toArray, List.map_cons, List.map_nil, hs, hx, h2]
  rw [this]
  exact h v' w' h4 h3 (append_where (u := u) (f := f) hz hown hl hr h1 h63 hbytes h2)
end
/-- Two owned rows lie apart. -/
def Apart (v o : Value) : Prop := ∀ b, v.ownBlock = some b → o.ownBlock ≠ some b
theorem Apart.symm {v o : Value} (h : Apart v o) : Apart o v := fun b h1 h2 => h b h2 h1
theorem Apart.grow {w : World} {base n sz : Nat} {T : TypeId} {v v' o : Value} {xs : List Value} (h : Apart v o) (hw : ∀ g, v'.ownBlock = some g → v.ownBlock = some g ∨ g = w.heap.size) (ho : w.ownsRow base T sz o n xs) : Apart v' o := fun b h1 h2 => by
  rcases hw b h1 with h3 | h3
  · exact h b h3 h2
  · have := (ho.lt b h2).2
    omega
theorem own_apart {w w' : World} {base n sz : Nat} {T : TypeId} {v o : Value} {xs : List Value} (h : Apart v o) (ho : w.ownsRow base T sz o n xs) (hk : Kp (ownB v) w w') : w'.ownsRow base T sz o n xs := own_kp ho hk (fun b hb hm => by
  unfold ownB at hm
  cases hv : v.ownBlock with
  | none => rw [hv] at hm; cases hm
  | some z =>
    rw [hv, List.mem_singleton] at hm
    subst hm
    exact h _ hv hb)
/-- A block of another type is kept. -/
theorem blk_own {w w' : World} {base n sz : Nat} {T T' : TypeId} {v : Value} {xs : List Value} {z : Nat} {cs : Array Value} (ho : w.ownsRow base T sz v n xs) (hT : T' ≠ T) (hz : Blk w z (.cells cs T')) (hk : Kp (ownB v) w w') : Blk w' z (.cells cs T') := hz.kp hk (fun hm => by
  unfold ownB at hm
  cases hv : v.ownBlock with
  | none => rw [hv] at hm; cases hm
  | some g =>
    rw [hv, List.mem_singleton] at hm
    subst hm
    rcases ho.2 with ⟨rfl, _⟩ | ⟨g', cap, cur, rfl, _, hh, _⟩
    · cases hv
    · simp only [Value.ownBlock, Option.some.injEq] at hv
      subst hv
      have := Blk.uniq (o := .cells cs T') (o' := .cells cur T) hz hh
      simp only [Obj.cells.injEq] at this
      exact hT this.2.1)
end Go.Proofs.Ytkkfppfpbobghaa
/-
  All accounts, by their keys.
-/
namespace Go.Proofs.Ytkkfppfpbobghaa
open Go.Proofs Go.Shelf Go.Sort
set_option linter.unusedVariables false

abbrev cb := Lib.compareBytes
theorem cb_cons (a b : UInt8) (x y : List UInt8) : cb (a :: x) (b :: y) = if a.toNat < b.toNat then -1 else if b.toNat < a.toNat then 1 else cb x y := by
  simp only [cb, Lib.compareBytes, UInt8.lt_iff_toNat_lt]
theorem cb_nc (b : UInt8) (y : List UInt8) : cb [] (b :: y) = -1 := by simp only [cb, Lib.compareBytes]
theorem cb_cn (b : UInt8) (y : List UInt8) : cb (b :: y) [] = 1 := by simp only [cb, Lib.compareBytes]
theorem cb_neg : ∀ x y : List UInt8, cb y x = - cb x y
  | [], [] => by simp only [cb, Lib.compareBytes]; rfl
  | [], _ :: _ => by rw [cb_nc, cb_cn]; rfl
  | _ :: _, [] => by rw [cb_nc, cb_cn]
  | a :: x, b :: y => by
    rw [cb_cons, cb_cons, cb_neg x y]
    by_cases h1 : a.toNat < b.toNat
    · rw [if_neg (by omega), if_pos h1, if_pos h1]; rfl
    · rw [if_neg h1]
      by_cases h2 : b.toNat < a.toNat
      · rw [if_pos h2, if_pos h2, if_neg h1]
      · rw [if_neg h2, if_neg h2, if_neg h1]
theorem cb_zero : ∀ x y : List UInt8, cb x y = 0 → x = y
  | [], [], _ => rfl
  | [], _ :: _, h => by rw [cb_nc] at h; cases h
  | _ :: _, [], h => by rw [cb_cn] at h; cases h
  | a :: x, b :: y, h => by
    rw [cb_cons] at h
    by_cases h1 : a.toNat < b.toNat
    · rw [if_pos h1] at h; cases h
    · rw [if_neg h1] at h
      by_cases h2 : b.toNat < a.toNat
      · rw [if_pos h2] at h; cases h
      · rw [if_neg h2] at h
        have : a = b := UInt8.toNat_inj.1 (by omega)
        rw [this, cb_zero x y h]
theorem cb_self (x : List UInt8) : cb x x = 0 := by have := cb_neg x x; omega
theorem cb_trans : ∀ x y z : List UInt8, cb x y < 0 → cb y z < 0 → cb x z < 0
  | [], [], _, h, _ => by rw [cb_self] at h; omega
  | [], _ :: _, [], _, h => by rw [cb_cn] at h; omega
  | [], _ :: _, _ :: _, _, _ => by rw [cb_nc]; decide
  | _ :: _, [], _, h, _ => by rw [cb_cn] at h; omega
  | _ :: _, _ :: _, [], _, h => by rw [cb_cn] at h; omega
  | a :: x, b :: y, c :: z, h, h' => by
    rw [cb_cons] at h h' ⊢
    by_cases h1 : a.toNat < b.toNat
    · by_cases h2 : b.toNat < c.toNat
      · rw [if_pos (by omega)]; decide
      · rw [if_neg h2] at h'
        by_cases h3 : c.toNat < b.toNat
        · rw [if_pos h3] at h'; exact absurd h' (by decide)
        · rw [if_pos (by omega)]; decide
    · rw [if_neg h1] at h
      by_cases h2 : b.toNat < a.toNat
      · rw [if_pos h2] at h; exact absurd h (by decide)
      · rw [if_neg h2] at h
        by_cases h3 : b.toNat < c.toNat
        · rw [if_pos (by omega)]; decide
        · rw [if_neg h3] at h'
          by_cases h4 : c.toNat < b.toNat
          · rw [if_pos h4] at h'; exact absurd h' (by decide)
          · rw [if_neg h4] at h'
            rw [if_neg (by omega), if_neg (by omega)]
            exact cb_trans x y z h h'
theorem cf_swo : SWO (ltOf cf) where
  irrefl x := by
    refine decide_eq_false ?_
    have := cb_self x.key.1
    show ¬ cb x.key.1 x.key.1 < 0
    omega
  trans x y z h1 h2 := decide_eq_true (cb_trans _ _ _ (of_decide_eq_true h1) (of_decide_eq_true h2))
  ntrans x y z h1 h2 := by
    have h1 : ¬ cb x.key.1 y.key.1 < 0 := of_decide_eq_false h1
    have h2 : ¬ cb y.key.1 z.key.1 < 0 := of_decide_eq_false h2
    refine decide_eq_false ?_
    show ¬ cb x.key.1 z.key.1 < 0
    intro h
    have n1 := cb_neg x.key.1 y.key.1
    have n2 := cb_neg y.key.1 z.key.1
    have n3 := cb_neg x.key.1 z.key.1
    by_cases e1 : cb x.key.1 y.key.1 = 0
    · rw [cb_zero _ _ e1] at h; exact h2 h
    · by_cases e2 : cb y.key.1 z.key.1 = 0
      · rw [← cb_zero _ _ e2] at h; exact h1 h
      · have := cb_trans _ _ _ (show cb z.key.1 y.key.1 < 0 by omega) (show cb y.key.1 x.key.1 < 0 by omega)
        omega
instance : Inhabited En := ⟨⟨zk, 0, 0⟩⟩
/-- An account with its key. -/
def enE (p : Dg × Pu) : En := enOf p.1 p.2
/-- In order. -/
def Asc (l : List En) : Prop := l.Pairwise (fun x y => ltOf cf y x = false)

theorem sort_spec {w : World} {base : Nat} {v : Value} {l : List En} (ho : w.ownsRow base 49 10 v l.length (flt ec l)) (hl : l.length ≤ 1000000) : Calls Try.prog 31 #[v, .func (.func 32) #[] #[]] w (fun e w' => e = .returned (.tuple #[]) ∧ Kp (ownB v) w w' ∧ ∃ l', l'.Perm l ∧ Asc l' ∧ w'.ownsRow base 49 10 v l.length (flt ec l')) :=
  sort_own sortL Try.isAgg49 Try.sizeOf49 (by omega) ec_length ec_one cf cf_swo 32 (fun args w => fn.i32.run w args) (fun x y W => less_spec x y W) ho (by omega)

attribute [local irreducible] CG NG SG Vals Der Row Blk MapIs IterAt DerX
set_option maxHeartbeats 16000000 in
theorem all_spec {w : World} {bt bm : Nat} {m : Bk} (hB : BookAt w bt bm m) (hl : m.length ≤ 100000) : Calls Try.prog 16 #[.pointer (some ⟨bt, 0, none⟩)] w (fun e w' => ∃ v l, e = .returned v ∧ w'.ownsRow w.heap.size 49 10 v l.length (flt ec l) ∧ l.Perm (m.map enE) ∧ Asc l ∧ Kp [] w w') := by
  refine enter1 Try.func16 rfl Try.ntmps16 rfl ?_
  have hr0 := hB.r0
  have hnd := hB.map.nodup
  repeat (first|apply CG.seq|apply CG.region|apply SG.nil|apply NG.next|apply CG.skip|apply CG.block|apply CG.ret|apply CG.exit|apply CG.scope|apply NG.ret_then|apply NG.ret_block|apply NG.ret_scope|apply NG.exit_then|refine NG.exit_block rfl ?_|refine NG.exit_other rfl ?_|apply NG.exit_scope|apply NG.normal_block|apply NG.normal_scope|refine SG.val rfl rfl rfl rfl (by first|((first|apply qmv|apply qas|apply qlc|apply qla|apply qfa|apply qnc|apply qic|apply qix|apply qpk|apply qls|apply qei|apply qni|apply qed|apply qnd|apply qad|apply qln|apply qle|apply qgt|apply qge|apply qlk|apply qlv|apply qxt|apply qsb|apply qnt|apply qep|apply qnp|apply qeb|apply qnb|apply qx2|apply qx4|apply qcv|apply qlm|apply qfr|apply qto|apply qmx|apply qen|apply qsn|apply qx5|apply qx4|apply qx3|apply qx2|apply qx1|apply qx0)<;>(first|exact rfl|exact Ar.mk (by omega)|assumption|exact dct (by assumption)|exact dcf (by assumption)|exact dct (by omega)|exact dcf (by omega)|exact List.not_mem_nil|exact dc_length _|exact nc_length _|exact rc_length _ _ _|exact ec_length _|exact nm1 (by omega)|exact nm2 (by omega) (by omega)|exact dct rfl|exact dct (by decide)|exact dcf (by decide)|exact (Int.toNat_of_nonneg (by omega)).symm|exact dcu|exact lk1 (by assumption)|exact lk0 (by assumption)|exact lkb|fail))|fail) ?_)
  refine CG.cond_f rfl (by exact rho_of rfl) rfl ?_
  repeat (first|apply CG.seq|apply CG.region|apply SG.nil|apply NG.next|apply CG.skip|apply CG.block|apply CG.ret|apply CG.exit|apply CG.scope|apply NG.ret_then|apply NG.ret_block|apply NG.ret_scope|apply NG.exit_then|refine NG.exit_block rfl ?_|refine NG.exit_other rfl ?_|apply NG.exit_scope|apply NG.normal_block|apply NG.normal_scope|refine SG.val rfl rfl rfl rfl (by first|((first|apply qmv|apply qas|apply qlc|apply qla|apply qfa|apply qnc|apply qic|apply qix|apply qpk|apply qls|apply qei|apply qni|apply qed|apply qnd|apply qad|apply qln|apply qle|apply qgt|apply qge|apply qlk|apply qlv|apply qxt|apply qsb|apply qnt|apply qep|apply qnp|apply qeb|apply qnb|apply qx2|apply qx4|apply qcv|apply qlm|apply qfr|apply qto|apply qmx|apply qen|apply qsn|apply qx5|apply qx4|apply qx3|apply qx2|apply qx1|apply qx0)<;>(first|exact rfl|exact Ar.mk (by omega)|assumption|exact dct (by assumption)|exact dcf (by assumption)|exact dct (by omega)|exact dcf (by omega)|exact List.not_mem_nil|exact dc_length _|exact nc_length _|exact rc_length _ _ _|exact ec_length _|exact nm1 (by omega)|exact nm2 (by omega) (by omega)|exact dct rfl|exact dct (by decide)|exact dcf (by decide)|exact (Int.toNat_of_nonneg (by omega)).symm|exact dcu|exact lk1 (by assumption)|exact lk0 (by assumption)|exact lkb|fail))|fail) ?_)
  refine SG.range rfl rfl rfl (by exact rho_of rfl) hB.map (fun r w2 hk2 hr2 hI => ?_)
  repeat (first|apply CG.seq|apply CG.region|apply SG.nil|apply NG.next|apply CG.skip|apply CG.block|apply CG.ret|apply CG.exit|apply CG.scope|apply NG.ret_then|apply NG.ret_block|apply NG.ret_scope|apply NG.exit_then|refine NG.exit_block rfl ?_|refine NG.exit_other rfl ?_|apply NG.exit_scope|apply NG.normal_block|apply NG.normal_scope|refine SG.val rfl rfl rfl rfl (by first|((first|apply qmv|apply qas|apply qlc|apply qla|apply qfa|apply qnc|apply qic|apply qix|apply qpk|apply qls|apply qei|apply qni|apply qed|apply qnd|apply qad|apply qln|apply qle|apply qgt|apply qge|apply qlk|apply qlv|apply qxt|apply qsb|apply qnt|apply qep|apply qnp|apply qeb|apply qnb|apply qx2|apply qx4|apply qcv|apply qlm|apply qfr|apply qto|apply qmx|apply qen|apply qsn|apply qx5|apply qx4|apply qx3|apply qx2|apply qx1|apply qx0)<;>(first|exact rfl|exact Ar.mk (by omega)|assumption|exact dct (by assumption)|exact dcf (by assumption)|exact dct (by omega)|exact dcf (by omega)|exact List.not_mem_nil|exact dc_length _|exact nc_length _|exact rc_length _ _ _|exact ec_length _|exact nm1 (by omega)|exact nm2 (by omega) (by omega)|exact dct rfl|exact dct (by decide)|exact dcf (by decide)|exact (Int.toNat_of_nonneg (by omega)).symm|exact dcu|exact lk1 (by assumption)|exact lk0 (by assumption)|exact lkb|fail))|fail) ?_)
  have eM := hB.map.lt
  have eT := hB.blk.lt
  refine CG.loop (X := Value × Bk × Bk × Option (Dg × Pu)) (fun x => [(0, .pointer (some ⟨bt, 0, none⟩)), (3, x.1), (11, .pointer (some ⟨r, 0, none⟩))])
    (fun x w' => Kp [] w w' ∧ r < w'.heap.size ∧ IterAt w' r bm (dv (n := 8)) nv m x.2.2.1 x.2.2.2 ∧ (x.2.1 ++ x.2.2.1).Perm m ∧ w'.ownsRow w.heap.size 49 10 x.1 x.2.1.length (flt ec (x.2.1.map enE)) ∧ x.1.ownBlock ≠ some r)
    (fun x => x.2.2.1.length) (.slice none 0 0, [], m, none) ⟨hk2, hI.ltr, hI, by simp, ⟨rfl, Or.inl ⟨rfl, rfl⟩⟩, by simp [Value.ownBlock]⟩ (by (repeat' (first | exact True.intro | exact rfl | refine And.intro ?_ ?_))) ?_
  rintro ⟨v, done, left, cur⟩ w3 ⟨hk, hrs, hI, hp, ho, hnr⟩
  simp only at hI hp ho hnr
  refine CG.to [(0, .pointer (some ⟨bt, 0, none⟩)), (3, v), (11, .pointer (some ⟨r, 0, none⟩))] (by (repeat' (first | exact True.intro | exact rfl | refine And.intro ?_ ?_))) ?_
  have hlen : (done ++ left).length = m.length := hp.length_eq
  rw [List.length_append] at hlen
  repeat (first|apply CG.seq|apply CG.region|apply SG.nil|apply NG.next|apply CG.skip|apply CG.block|apply CG.ret|apply CG.exit|apply CG.scope|apply NG.ret_then|apply NG.ret_block|apply NG.ret_scope|apply NG.exit_then|refine NG.exit_block rfl ?_|refine NG.exit_other rfl ?_|apply NG.exit_scope|apply NG.normal_block|apply NG.normal_scope|refine SG.val rfl rfl rfl rfl (by first|((first|apply qmv|apply qas|apply qlc|apply qla|apply qfa|apply qnc|apply qic|apply qix|apply qpk|apply qls|apply qei|apply qni|apply qed|apply qnd|apply qad|apply qln|apply qle|apply qgt|apply qge|apply qlk|apply qlv|apply qxt|apply qsb|apply qnt|apply qep|apply qnp|apply qeb|apply qnb|apply qx2|apply qx4|apply qcv|apply qlm|apply qfr|apply qto|apply qmx|apply qen|apply qsn|apply qx5|apply qx4|apply qx3|apply qx2|apply qx1|apply qx0)<;>(first|exact rfl|exact Ar.mk (by omega)|assumption|exact dct (by assumption)|exact dcf (by assumption)|exact dct (by omega)|exact dcf (by omega)|exact List.not_mem_nil|exact dc_length _|exact nc_length _|exact rc_length _ _ _|exact ec_length _|exact nm1 (by omega)|exact nm2 (by omega) (by omega)|exact dct rfl|exact dct (by decide)|exact dcf (by decide)|exact (Int.toNat_of_nonneg (by omega)).symm|exact dcu|exact lk1 (by assumption)|exact lk0 (by assumption)|exact lkb|fail))|fail) ?_)
  refine SG.next rfl rfl rfl (by exact rho_of rfl) hI (fun h0 => ?_) (fun pre p post w4 hl4 hk4 hI4 => ?_)
  · repeat (first|apply CG.seq|apply CG.region|apply SG.nil|apply NG.next|apply CG.skip|apply CG.block|apply CG.ret|apply CG.exit|apply CG.scope|apply NG.ret_then|apply NG.ret_block|apply NG.ret_scope|apply NG.exit_then|refine NG.exit_block rfl ?_|refine NG.exit_other rfl ?_|apply NG.exit_scope|apply NG.normal_block|apply NG.normal_scope|refine SG.val rfl rfl rfl rfl (by first|((first|apply qmv|apply qas|apply qlc|apply qla|apply qfa|apply qnc|apply qic|apply qix|apply qpk|apply qls|apply qei|apply qni|apply qed|apply qnd|apply qad|apply qln|apply qle|apply qgt|apply qge|apply qlk|apply qlv|apply qxt|apply qsb|apply qnt|apply qep|apply qnp|apply qeb|apply qnb|apply qx2|apply qx4|apply qcv|apply qlm|apply qfr|apply qto|apply qmx|apply qen|apply qsn|apply qx5|apply qx4|apply qx3|apply qx2|apply qx1|apply qx0)<;>(first|exact rfl|exact Ar.mk (by omega)|assumption|exact dct (by assumption)|exact dcf (by assumption)|exact dct (by omega)|exact dcf (by omega)|exact List.not_mem_nil|exact dc_length _|exact nc_length _|exact rc_length _ _ _|exact ec_length _|exact nm1 (by omega)|exact nm2 (by omega) (by omega)|exact dct rfl|exact dct (by decide)|exact dcf (by decide)|exact (Int.toNat_of_nonneg (by omega)).symm|exact dcu|exact lk1 (by assumption)|exact lk0 (by assumption)|exact lkb|fail))|fail) ?_)
    refine CG.cond_f rfl (by exact rho_of rfl) rfl ?_
    subst h0
    rw [List.append_nil] at hp
    have ho' : w3.ownsRow w.heap.size 49 10 v (done.map enE).length (flt ec (done.map enE)) := by rw [List.length_map]; exact ho
    repeat (first|apply CG.seq|apply CG.region|apply SG.nil|apply NG.next|apply CG.skip|apply CG.block|apply CG.ret|apply CG.exit|apply CG.scope|apply NG.ret_then|apply NG.ret_block|apply NG.ret_scope|apply NG.exit_then|refine NG.exit_block rfl ?_|refine NG.exit_other rfl ?_|apply NG.exit_scope|apply NG.normal_block|apply NG.normal_scope|refine SG.val rfl rfl rfl rfl (by first|((first|apply qmv|apply qas|apply qlc|apply qla|apply qfa|apply qnc|apply qic|apply qix|apply qpk|apply qls|apply qei|apply qni|apply qed|apply qnd|apply qad|apply qln|apply qle|apply qgt|apply qge|apply qlk|apply qlv|apply qxt|apply qsb|apply qnt|apply qep|apply qnp|apply qeb|apply qnb|apply qx2|apply qx4|apply qcv|apply qlm|apply qfr|apply qto|apply qmx|apply qen|apply qsn|apply qx5|apply qx4|apply qx3|apply qx2|apply qx1|apply qx0)<;>(first|exact rfl|exact Ar.mk (by omega)|assumption|exact dct (by assumption)|exact dcf (by assumption)|exact dct (by omega)|exact dcf (by omega)|exact List.not_mem_nil|exact dc_length _|exact nc_length _|exact rc_length _ _ _|exact ec_length _|exact nm1 (by omega)|exact nm2 (by omega) (by omega)|exact dct rfl|exact dct (by decide)|exact dcf (by decide)|exact (Int.toNat_of_nonneg (by omega)).symm|exact dcu|exact lk1 (by assumption)|exact lk0 (by assumption)|exact lkb|fail))|fail) ?_)
    refine SG.call rfl rfl rfl (by repeat' (first | exact True.intro | exact rho_of rfl | refine And.intro ?_ ?_)) ((sort_spec ho' (by rw [List.length_map]; omega)).mono (fun e w5 hh => ?_))
    obtain ⟨he5, hk5, l', hp', ha, ho5⟩ := hh
    refine ⟨_, he5, ?_⟩
    repeat (first|apply CG.seq|apply CG.region|apply SG.nil|apply NG.next|apply CG.skip|apply CG.block|apply CG.ret|apply CG.exit|apply CG.scope|apply NG.ret_then|apply NG.ret_block|apply NG.ret_scope|apply NG.exit_then|refine NG.exit_block rfl ?_|refine NG.exit_other rfl ?_|apply NG.exit_scope|apply NG.normal_block|apply NG.normal_scope|refine SG.val rfl rfl rfl rfl (by first|((first|apply qmv|apply qas|apply qlc|apply qla|apply qfa|apply qnc|apply qic|apply qix|apply qpk|apply qls|apply qei|apply qni|apply qed|apply qnd|apply qad|apply qln|apply qle|apply qgt|apply qge|apply qlk|apply qlv|apply qxt|apply qsb|apply qnt|apply qep|apply qnp|apply qeb|apply qnb|apply qx2|apply qx4|apply qcv|apply qlm|apply qfr|apply qto|apply qmx|apply qen|apply qsn|apply qx5|apply qx4|apply qx3|apply qx2|apply qx1|apply qx0)<;>(first|exact rfl|exact Ar.mk (by omega)|assumption|exact dct (by assumption)|exact dcf (by assumption)|exact dct (by omega)|exact dcf (by omega)|exact List.not_mem_nil|exact dc_length _|exact nc_length _|exact rc_length _ _ _|exact ec_length _|exact nm1 (by omega)|exact nm2 (by omega) (by omega)|exact dct rfl|exact dct (by decide)|exact dcf (by decide)|exact (Int.toNat_of_nonneg (by omega)).symm|exact dcu|exact lk1 (by assumption)|exact lk0 (by assumption)|exact lkb|fail))|fail) ?_)
    refine ret1 (Or.inl rfl) Try.results16 (by first | exact ResV.tmp rfl | exact ResV.agg rfl rfl (by assumption) (by first | exact dc_length _ | exact nc_length _ | exact rc_length _ _ _ | exact ec_length _ | rfl) | exact ResV.cell rfl rfl (by assumption)) ?_
    refine ⟨v, l', rfl, ?_, hp'.trans (hp.map _), ha, hk.trans_new hk5 (own_new ho (Nat.le_refl _))⟩
    rw [hp'.length_eq]
    exact ho5
  · have hpm : p ∈ m := hp.mem_iff.1 (by rw [hl4]; simp)
    rw [hl4, List.length_append, List.length_cons] at hlen
    repeat (first|apply CG.seq|apply CG.region|apply SG.nil|apply NG.next|apply CG.skip|apply CG.block|apply CG.ret|apply CG.exit|apply CG.scope|apply NG.ret_then|apply NG.ret_block|apply NG.ret_scope|apply NG.exit_then|refine NG.exit_block rfl ?_|refine NG.exit_other rfl ?_|apply NG.exit_scope|apply NG.normal_block|apply NG.normal_scope|refine SG.val rfl rfl rfl rfl (by first|((first|apply qmv|apply qas|apply qlc|apply qla|apply qfa|apply qnc|apply qic|apply qix|apply qpk|apply qls|apply qei|apply qni|apply qed|apply qnd|apply qad|apply qln|apply qle|apply qgt|apply qge|apply qlk|apply qlv|apply qxt|apply qsb|apply qnt|apply qep|apply qnp|apply qeb|apply qnb|apply qx2|apply qx4|apply qcv|apply qlm|apply qfr|apply qto|apply qmx|apply qen|apply qsn|apply qx5|apply qx4|apply qx3|apply qx2|apply qx1|apply qx0)<;>(first|exact rfl|exact Ar.mk (by omega)|assumption|exact dct (by assumption)|exact dcf (by assumption)|exact dct (by omega)|exact dcf (by omega)|exact List.not_mem_nil|exact dc_length _|exact nc_length _|exact rc_length _ _ _|exact ec_length _|exact nm1 (by omega)|exact nm2 (by omega) (by omega)|exact dct rfl|exact dct (by decide)|exact dcf (by decide)|exact (Int.toNat_of_nonneg (by omega)).symm|exact dcu|exact lk1 (by assumption)|exact lk0 (by assumption)|exact lkb|fail))|fail) ?_)
    refine CG.cond_t rfl (by exact rho_of rfl) rfl ?_
    repeat (first|apply CG.seq|apply CG.region|apply SG.nil|apply NG.next|apply CG.skip|apply CG.block|apply CG.ret|apply CG.exit|apply CG.scope|apply NG.ret_then|apply NG.ret_block|apply NG.ret_scope|apply NG.exit_then|refine NG.exit_block rfl ?_|refine NG.exit_other rfl ?_|apply NG.exit_scope|apply NG.normal_block|apply NG.normal_scope|refine SG.val rfl rfl rfl rfl (by first|((first|apply qmv|apply qas|apply qlc|apply qla|apply qfa|apply qnc|apply qic|apply qix|apply qpk|apply qls|apply qei|apply qni|apply qed|apply qnd|apply qad|apply qln|apply qle|apply qgt|apply qge|apply qlk|apply qlv|apply qxt|apply qsb|apply qnt|apply qep|apply qnp|apply qeb|apply qnb|apply qx2|apply qx4|apply qcv|apply qlm|apply qfr|apply qto|apply qmx|apply qen|apply qsn|apply qx5|apply qx4|apply qx3|apply qx2|apply qx1|apply qx0)<;>(first|exact rfl|exact Ar.mk (by omega)|assumption|exact dct (by assumption)|exact dcf (by assumption)|exact dct (by omega)|exact dcf (by omega)|exact List.not_mem_nil|exact dc_length _|exact nc_length _|exact rc_length _ _ _|exact ec_length _|exact nm1 (by omega)|exact nm2 (by omega) (by omega)|exact dct rfl|exact dct (by decide)|exact dcf (by decide)|exact (Int.toNat_of_nonneg (by omega)).symm|exact dcu|exact lk1 (by assumption)|exact lk0 (by assumption)|exact lkb|fail))|fail) ?_)
    refine SG.alloc rfl rfl rfl (fun b4 w5 hk5 hb4 hB4 => ?_)
    refine SG.setAll (old := dc zk) rfl rfl (by exact rho_of rfl) (by exact rho_of rfl) hB4 (by first | exact dc_length _ | exact nc_length _ | exact rc_length _ _ _ | exact ec_length _ | rfl) (by first | exact dc_length _ | exact nc_length _ | exact rc_length _ _ _ | exact ec_length _ | rfl) (by first | exact dc_one _ | exact nc_one _ | exact rc_one _ _ _ | exact ec_one _ | rfl) (fun w6 hk6 hB4 => ?_)
    have s0 := hk.size
    have s4 := hk4.size
    have s5 := hk5.size
    have hk46 : Kp [] w4 w6 := hk5.trans_new hk6 (new1 (by omega))
    have hrw : w.heap.size ≤ r := by omega
    have hk' : Kp [] w w6 := hk.trans_new (hk4.trans hk46.any) (new1 (by omega))
    have hR4 : Row w6 b4 0 (dc p.1) := Row.all hB4 rfl
    have ho6 := own_kp0 (own_kp ho hk4 (fun z hz hm => by rw [List.mem_singleton] at hm; subst hm; exact hnr hz)) hk46
    repeat (first|apply CG.seq|apply CG.region|apply SG.nil|apply NG.next|apply CG.skip|apply CG.block|apply CG.ret|apply CG.exit|apply CG.scope|apply NG.ret_then|apply NG.ret_block|apply NG.ret_scope|apply NG.exit_then|refine NG.exit_block rfl ?_|refine NG.exit_other rfl ?_|apply NG.exit_scope|apply NG.normal_block|apply NG.normal_scope|refine SG.val rfl rfl rfl rfl (by first|((first|apply qmv|apply qas|apply qlc|apply qla|apply qfa|apply qnc|apply qic|apply qix|apply qpk|apply qls|apply qei|apply qni|apply qed|apply qnd|apply qad|apply qln|apply qle|apply qgt|apply qge|apply qlk|apply qlv|apply qxt|apply qsb|apply qnt|apply qep|apply qnp|apply qeb|apply qnb|apply qx2|apply qx4|apply qcv|apply qlm|apply qfr|apply qto|apply qmx|apply qen|apply qsn|apply qx5|apply qx4|apply qx3|apply qx2|apply qx1|apply qx0)<;>(first|exact rfl|exact Ar.mk (by omega)|assumption|exact dct (by assumption)|exact dcf (by assumption)|exact dct (by omega)|exact dcf (by omega)|exact List.not_mem_nil|exact dc_length _|exact nc_length _|exact rc_length _ _ _|exact ec_length _|exact nm1 (by omega)|exact nm2 (by omega) (by omega)|exact dct rfl|exact dct (by decide)|exact dcf (by decide)|exact (Int.toNat_of_nonneg (by omega)).symm|exact dcu|exact lk1 (by assumption)|exact lk0 (by assumption)|exact lkb|fail))|fail) ?_)
    refine SG.ret rfl rfl rfl (by repeat' (first | exact True.intro | exact rho_of rfl | refine And.intro ?_ ?_)) (of_spec (hB.kp0 hk') p.1) (fun w7 hk7 => ?_)
    have e1 : enOf p.1 (bal m p.1) = enE p := by unfold enE; rw [bal_mem hnd hpm]
    rw [e1]
    refine SG.buildSlice rfl rfl rfl rfl (bs35 _) (fun bn w8 hk8 hbn hBn => ?_)
    have hRn : Row w8 bn 0 (ec (enE p)) := Row.all hBn rfl
    have s6 := hk46.size
    have s7 := hk7.size
    have s8 := hk8.size
    refine SG.appendW rfl rfl rfl (by exact rho_of rfl) (by exact rho_of rfl) rfl rfl rfl (own_kp0 (own_kp0 ho6 hk7) hk8) hRn (by first | exact dc_length _ | exact nc_length _ | exact rc_length _ _ _ | exact ec_length _ | rfl) (by first | exact dc_one _ | exact nc_one _ | exact rc_one _ _ _ | exact ec_one _ | rfl) (by simp only [maxLen]; omega) (by show (done.length + 1) * 24 ≤ _; omega) (by omega) (fun v' w9 hk9 ho9 hwh => ?_)
    repeat (first|apply CG.seq|apply CG.region|apply SG.nil|apply NG.next|apply CG.skip|apply CG.block|apply CG.ret|apply CG.exit|apply CG.scope|apply NG.ret_then|apply NG.ret_block|apply NG.ret_scope|apply NG.exit_then|refine NG.exit_block rfl ?_|refine NG.exit_other rfl ?_|apply NG.exit_scope|apply NG.normal_block|apply NG.normal_scope|refine SG.val rfl rfl rfl rfl (by first|((first|apply qmv|apply qas|apply qlc|apply qla|apply qfa|apply qnc|apply qic|apply qix|apply qpk|apply qls|apply qei|apply qni|apply qed|apply qnd|apply qad|apply qln|apply qle|apply qgt|apply qge|apply qlk|apply qlv|apply qxt|apply qsb|apply qnt|apply qep|apply qnp|apply qeb|apply qnb|apply qx2|apply qx4|apply qcv|apply qlm|apply qfr|apply qto|apply qmx|apply qen|apply qsn|apply qx5|apply qx4|apply qx3|apply qx2|apply qx1|apply qx0)<;>(first|exact rfl|exact Ar.mk (by omega)|assumption|exact dct (by assumption)|exact dcf (by assumption)|exact dct (by omega)|exact dcf (by omega)|exact List.not_mem_nil|exact dc_length _|exact nc_length _|exact rc_length _ _ _|exact ec_length _|exact nm1 (by omega)|exact nm2 (by omega) (by omega)|exact dct rfl|exact dct (by decide)|exact dcf (by decide)|exact (Int.toNat_of_nonneg (by omega)).symm|exact dcu|exact lk1 (by assumption)|exact lk0 (by assumption)|exact lkb|fail))|fail) ?_)
    have hI8 := ((hI4.kp0 hk46).kp0 hk7).kp0 hk8
    have s9 := hk9.size
    have hnb : ∀ z, z < w.heap.size → z ∉ ownB v := own_nb ho
    have hnr2 : r ∉ ownB v := fun hm => by
      unfold ownB at hm
      cases hv : v.ownBlock with
      | none => rw [hv] at hm; cases hm
      | some z =>
        rw [hv] at hm
        simp at hm
        subst hm
        exact hnr hv
    refine NG.round (v', done ++ [p], pre ++ post, some p) (by (repeat' (first | exact True.intro | exact rfl | refine And.intro ?_ ?_))) ⟨((hk'.trans hk7).trans hk8).trans_new hk9 (own_new ho (Nat.le_refl _)), by omega, hI8.kp hk9 hnr2 (hnb bm eM), ?_, ?_, ?_⟩ (by simp only [hl4]; simp)
    · show ((done ++ [p]) ++ (pre ++ post)).Perm m
      refine List.Perm.trans ?_ hp
      rw [hl4]
      simp only [List.append_assoc, List.singleton_append]
      exact List.Perm.append_left done (List.perm_middle.symm)
    · simp only [List.length_append, List.length_singleton, List.map_append, List.map_cons, List.map_nil]
      rw [flt_append, flt_one]
      exact ho9
    · simp only
      intro hv
      rcases hwh r hv with h | h
      · exact hnr h
      · omega
set_option maxHeartbeats 8000000 in
theorem all_nil (w : World) : Ret Try.prog 16 #[.pointer none] w (.slice none 0 0) := by
  refine enter1 Try.func16 rfl Try.ntmps16 rfl ?_
  repeat (first|apply CG.seq|apply CG.region|apply SG.nil|apply NG.next|apply CG.skip|apply CG.block|apply CG.ret|apply CG.exit|apply CG.scope|apply NG.ret_then|apply NG.ret_block|apply NG.ret_scope|apply NG.exit_then|refine NG.exit_block rfl ?_|refine NG.exit_other rfl ?_|apply NG.exit_scope|apply NG.normal_block|apply NG.normal_scope|refine SG.val rfl rfl rfl rfl (by first|((first|apply qmv|apply qas|apply qlc|apply qla|apply qfa|apply qnc|apply qic|apply qix|apply qpk|apply qls|apply qei|apply qni|apply qed|apply qnd|apply qad|apply qln|apply qle|apply qgt|apply qge|apply qlk|apply qlv|apply qxt|apply qsb|apply qnt|apply qep|apply qnp|apply qeb|apply qnb|apply qx2|apply qx4|apply qcv|apply qlm|apply qfr|apply qto|apply qmx|apply qen|apply qsn|apply qx5|apply qx4|apply qx3|apply qx2|apply qx1|apply qx0)<;>(first|exact rfl|exact Ar.mk (by omega)|assumption|exact dct (by assumption)|exact dcf (by assumption)|exact dct (by omega)|exact dcf (by omega)|exact List.not_mem_nil|exact dc_length _|exact nc_length _|exact rc_length _ _ _|exact ec_length _|exact nm1 (by omega)|exact nm2 (by omega) (by omega)|exact dct rfl|exact dct (by decide)|exact dcf (by decide)|exact (Int.toNat_of_nonneg (by omega)).symm|exact dcu|exact lk1 (by assumption)|exact lk0 (by assumption)|exact lkb|fail))|fail) ?_)
  refine CG.cond_t rfl (by exact rho_of rfl) rfl ?_
  repeat (first|apply CG.seq|apply CG.region|apply SG.nil|apply NG.next|apply CG.skip|apply CG.block|apply CG.ret|apply CG.exit|apply CG.scope|apply NG.ret_then|apply NG.ret_block|apply NG.ret_scope|apply NG.exit_then|refine NG.exit_block rfl ?_|refine NG.exit_other rfl ?_|apply NG.exit_scope|apply NG.normal_block|apply NG.normal_scope|refine SG.val rfl rfl rfl rfl (by first|((first|apply qmv|apply qas|apply qlc|apply qla|apply qfa|apply qnc|apply qic|apply qix|apply qpk|apply qls|apply qei|apply qni|apply qed|apply qnd|apply qad|apply qln|apply qle|apply qgt|apply qge|apply qlk|apply qlv|apply qxt|apply qsb|apply qnt|apply qep|apply qnp|apply qeb|apply qnb|apply qx2|apply qx4|apply qcv|apply qlm|apply qfr|apply qto|apply qmx|apply qen|apply qsn|apply qx5|apply qx4|apply qx3|apply qx2|apply qx1|apply qx0)<;>(first|exact rfl|exact Ar.mk (by omega)|assumption|exact dct (by assumption)|exact dcf (by assumption)|exact dct (by omega)|exact dcf (by omega)|exact List.not_mem_nil|exact dc_length _|exact nc_length _|exact rc_length _ _ _|exact ec_length _|exact nm1 (by omega)|exact nm2 (by omega) (by omega)|exact dct rfl|exact dct (by decide)|exact dcf (by decide)|exact (Int.toNat_of_nonneg (by omega)).symm|exact dcu|exact lk1 (by assumption)|exact lk0 (by assumption)|exact lkb|fail))|fail) ?_)
  refine ret1 (Or.inl rfl) Try.results16 (by first | exact ResV.tmp rfl | exact ResV.agg rfl rfl (by assumption) (by first | exact dc_length _ | exact nc_length _ | exact rc_length _ _ _ | exact ec_length _ | rfl) | exact ResV.cell rfl rfl (by assumption)) ?_
  exact ⟨rfl, Kp.refl _ _⟩
end Go.Proofs.Ytkkfppfpbobghaa
/-
  Plain laws on books.
-/
namespace Go.Proofs.Ytkkfppfpbobghaa
set_option linter.unusedVariables false

theorem alook_filter (m : Bk) (k x : Dg) : alook (m.filter (fun q => decide (q.1 ≠ k))) x = if k = x then none else alook m x := by
  induction m with
  | nil => simp [alook]
  | cons p m ih =>
    obtain ⟨a, y⟩ := p
    by_cases h : a = k
    · rw [List.filter_cons_of_neg (by simp [h]), ih]
      by_cases e : k = x
      · simp [e]
      · rw [if_neg e, if_neg e]
        show _ = if a = x then some y else alook m x
        rw [if_neg (by rw [h]; exact e)]
    · rw [List.filter_cons_of_pos (by simp [h])]
      show (if a = x then some y else alook (m.filter _) x) = if k = x then none else if a = x then some y else alook m x
      rw [ih]
      by_cases e : k = x
      · subst e; simp [h]
      · simp [e]
theorem bal_put (m : Bk) (k x : Dg) (p : Pu) : bal (mput m k p) x = if k = x then p else bal m x := by
  unfold mput
  by_cases h : p = p0
  · rw [if_pos h]
    unfold bal
    rw [alook_filter]
    by_cases e : k = x
    · simp [e, h]
    · simp [e]
  · rw [if_neg h]
    unfold bal
    rw [alook_put]
    by_cases e : k = x
    · simp [e]
    · simp [e]
theorem mem_aput {m : Bk} {k : Dg} {p : Pu} {q : Dg × Pu} (h : q ∈ aput m k p) : q = (k, p) ∨ q ∈ m := by
  induction m with
  | nil => simp [aput] at h; exact Or.inl h
  | cons a m ih =>
    obtain ⟨x, y⟩ := a
    unfold aput at h
    by_cases e : x = k
    · rw [if_pos e] at h
      rcases List.mem_cons.1 h with h | h
      · exact Or.inl (by rw [h, e])
      · exact Or.inr (by simp [h])
    · rw [if_neg e] at h
      rcases List.mem_cons.1 h with h | h
      · exact Or.inr (by simp [h])
      · rcases ih h with h | h
        · exact Or.inl h
        · exact Or.inr (by simp [h])
theorem tot_aput (m : Bk) (k : Dg) (p : Pu) : tot (aput m k p) = tot m - (bal m k).money + p.money := by
  induction m with
  | nil => simp [aput, tot, bal, alook, p0]
  | cons a m ih =>
    obtain ⟨x, y⟩ := a
    unfold aput bal alook
    by_cases e : x = k
    · rw [if_pos e, if_pos e, tot_cons, tot_cons]
      simp
      omega
    · rw [if_neg e, if_neg e, tot_cons, tot_cons, ih]
      show y.money + (tot m - ((alook m k).getD p0).money + p.money) = y.money + tot m - ((alook m k).getD p0).money + p.money
      omega
theorem tot_filter (m : Bk) (hn : (m.map (·.1)).Nodup) (k : Dg) : tot (m.filter (fun q => decide (q.1 ≠ k))) = tot m - (bal m k).money := by
  induction m with
  | nil => simp [tot, bal, alook, p0]
  | cons a m ih =>
    obtain ⟨x, y⟩ := a
    rw [List.map_cons, List.nodup_cons] at hn
    by_cases e : x = k
    · rw [List.filter_cons_of_neg (by simp [e]), tot_cons, ih hn.2]
      have h0 : alook m k = none := by
        rw [alook_none]
        intro q hq he
        exact hn.1 (List.mem_map.2 ⟨q, hq, by rw [he, e]⟩)
      unfold bal
      rw [h0]
      simp [alook, e, p0]
      omega
    · rw [List.filter_cons_of_pos (by simp [e]), tot_cons, tot_cons, ih hn.2]
      unfold bal
      simp only [alook, if_neg e]
      omega
theorem tot_put (m : Bk) (hn : (m.map (·.1)).Nodup) (k : Dg) (p : Pu) : tot (mput m k p) = tot m - (bal m k).money + p.money := by
  unfold mput
  by_cases h : p = p0
  · rw [if_pos h, tot_filter m hn, h]
    simp [p0]
  · rw [if_neg h, tot_aput]
theorem keys_aput {m : Bk} {k : Dg} {p : Pu} (hn : (m.map (·.1)).Nodup) : ((aput m k p).map (·.1)).Nodup := by
  induction m with
  | nil => simp [aput]
  | cons a m ih =>
    obtain ⟨x, y⟩ := a
    unfold aput
    by_cases e : x = k
    · rw [if_pos e]
      subst e
      simpa using hn
    · rw [if_neg e, List.map_cons, List.nodup_cons]
      rw [List.map_cons, List.nodup_cons] at hn
      refine ⟨fun hm => ?_, ih hn.2⟩
      obtain ⟨q, hq, he⟩ := List.mem_map.1 hm
      rcases mem_aput hq with h | h
      · subst h
        exact e he.symm
      · exact hn.1 (List.mem_map.2 ⟨q, h, he⟩)
theorem length_aput (m : Bk) (k : Dg) (p : Pu) : (aput m k p).length ≤ m.length + 1 := by
  induction m with
  | nil => simp [aput]
  | cons a m ih =>
    obtain ⟨x, y⟩ := a
    unfold aput
    by_cases e : x = k
    · rw [if_pos e]; simp
    · rw [if_neg e]; simp; exact ih

/-- A book as it is to be: of so much money, its nonces at most N. -/
structure Ok (T N : Int) (m : Bk) : Prop where
  nd : (m.map (·.1)).Nodup
  nz : ∀ p ∈ m, p.2 ≠ p0
  mon : ∀ p ∈ m, 0 ≤ p.2.money
  non : ∀ p ∈ m, 0 ≤ p.2.nonce ∧ p.2.nonce ≤ N
  tot : tot m = T
theorem mem_of_alook {m : Bk} {k : Dg} {p : Pu} (h : alook m k = some p) : (k, p) ∈ m := by
  induction m with
  | nil => simp [alook] at h
  | cons a m ih =>
    obtain ⟨x, y⟩ := a
    unfold alook at h
    by_cases e : x = k
    · rw [if_pos e] at h
      simp only [Option.some.injEq] at h
      subst e
      subst h
      simp
    · rw [if_neg e] at h
      exact List.mem_cons_of_mem _ (ih h)
theorem tot_ge {m : Bk} (h : ∀ p ∈ m, 0 ≤ p.2.money) {q : Dg × Pu} (hq : q ∈ m) : q.2.money ≤ tot m := by
  induction m with
  | nil => cases hq
  | cons a m ih =>
    rw [tot_cons]
    have h0 := h a (by simp)
    have h1 := tot_nonneg (m := m) (fun p hp => h p (by simp [hp]))
    rcases List.mem_cons.1 hq with rfl | hq
    · omega
    · have := ih (fun p hp => h p (by simp [hp])) hq
      omega
theorem Ok.t0 {T N : Int} {m : Bk} (h : Ok T N m) : 0 ≤ T := by rw [← h.tot]; exact tot_nonneg h.mon
theorem Ok.bnd {T N : Int} {m : Bk} (h : Ok T N m) (hN : 0 ≤ N) (k : Dg) : 0 ≤ (bal m k).money ∧ (bal m k).money ≤ T ∧ 0 ≤ (bal m k).nonce ∧ (bal m k).nonce ≤ N := by
  have ht := h.t0
  unfold bal
  cases e : alook m k with
  | none => simp [p0]; exact ⟨ht, hN⟩
  | some p =>
    have hm := mem_of_alook e
    have h1 := h.mon _ hm
    have h2 := h.non _ hm
    have h3 := tot_ge h.mon hm
    rw [h.tot] at h3
    exact ⟨h1, h3, h2⟩
theorem Ok.good {T N : Int} {m : Bk} (h : Ok T N m) (hN : 0 ≤ N) (hT : T ≤ 2000000000000000000) (hN' : N ≤ 2000000000000000000) : Good m := fun k => by
  have := h.bnd hN k
  omega
theorem Ok.put {T N N' : Int} {m : Bk} (h : Ok T N m) (hN : N ≤ N') (k : Dg) (p : Pu) (h1 : 0 ≤ p.money) (h2 : 0 ≤ p.nonce ∧ p.nonce ≤ N') : Ok (T - (bal m k).money + p.money) N' (mput m k p) := by
  refine ⟨?_, ?_, ?_, ?_, by rw [tot_put m h.nd, h.tot]⟩
  all_goals unfold mput
  all_goals by_cases e : p = p0
  · rw [if_pos e]
    exact h.nd.sublist (List.filter_sublist.map _)
  · rw [if_neg e]
    exact keys_aput h.nd
  · rw [if_pos e]
    exact fun q hq => h.nz q (List.mem_filter.1 hq).1
  · rw [if_neg e]
    intro q hq
    rcases mem_aput hq with rfl | hq
    · exact e
    · exact h.nz q hq
  · rw [if_pos e]
    exact fun q hq => h.mon q (List.mem_filter.1 hq).1
  · rw [if_neg e]
    intro q hq
    rcases mem_aput hq with rfl | hq
    · exact h1
    · exact h.mon q hq
  · rw [if_pos e]
    intro q hq
    have := h.non q (List.mem_filter.1 hq).1
    omega
  · rw [if_neg e]
    intro q hq
    rcases mem_aput hq with rfl | hq
    · exact h2
    · have := h.non q hq
      omega
theorem length_put (m : Bk) (k : Dg) (p : Pu) : (mput m k p).length ≤ m.length + 1 := by
  unfold mput
  by_cases e : p = p0
  · rw [if_pos e]
    have := List.length_filter_le (fun q : Dg × Pu => decide (q.1 ≠ k)) m
    omega
  · rw [if_neg e]
    exact length_aput m k p
theorem mvE_zero {m : Bk} {f : Dg} {n : Int} (h : mvE m f n = 0) : 0 ≤ n ∧ n ≤ 1125899906842624 ∧ n ≤ (bal m f).money := by
  unfold mvE at h
  split at h
  · cases h
  · split at h
    · cases h
    · omega
theorem Ok.move {T N : Int} {m : Bk} (h : Ok T N m) (hN : 0 ≤ N) (f t : Dg) (n : Int) : Ok T N (mvM m f t n) := by
  unfold mvM
  by_cases e : mvE m f n = 0 ∧ f ≠ t
  · rw [if_pos e]
    obtain ⟨a1, a2, a3⟩ := mvE_zero e.1
    have hf := h.bnd hN f
    have ht := h.bnd hN t
    have h1 := h.put (Int.le_refl N) f ⟨(bal m f).money - n, (bal m f).nonce⟩ (by simp only; omega) ⟨hf.2.2.1, hf.2.2.2⟩
    have h2 := h1.put (Int.le_refl N) t ⟨(bal m t).money + n, (bal m t).nonce⟩ (by simp only; omega) ⟨ht.2.2.1, ht.2.2.2⟩
    rw [bal_put, if_neg e.2] at h2
    simp only at h2
    have : T - (bal m f).money + ((bal m f).money - n) - (bal m t).money + ((bal m t).money + n) = T := by omega
    rw [this] at h2
    exact h2
  · rw [if_neg e]
    exact h
theorem Ok.use {T N : Int} {m : Bk} (h : Ok T N m) (hN : 0 ≤ N) (k : Dg) (n : Int) : Ok T (N + 1) (usM m k n) := by
  have hk := h.bnd hN k
  unfold usM
  by_cases e : usE m k n = 0
  · rw [if_pos e]
    have h1 := h.put (N' := N + 1) (by omega) k ⟨(bal m k).money, (bal m k).nonce + 1⟩ hk.1 ⟨by simp only; omega, by simp only; omega⟩
    simp only at h1
    have : T - (bal m k).money + (bal m k).money = T := by omega
    rw [this] at h1
    exact h1
  · rw [if_neg e]
    exact ⟨h.nd, h.nz, h.mon, fun p hp => by have := h.non p hp; omega, h.tot⟩
theorem Ok.wide {T N N' : Int} {m : Bk} (h : Ok T N m) (hN : N ≤ N') : Ok T N' m := ⟨h.nd, h.nz, h.mon, fun p hp => by have := h.non p hp; omega, h.tot⟩
theorem length_move (m : Bk) (f t : Dg) (n : Int) : (mvM m f t n).length ≤ m.length + 2 := by
  unfold mvM
  split
  · have h1 := length_put m f ⟨(bal m f).money - n, (bal m f).nonce⟩
    have h2 := length_put (mput m f ⟨(bal m f).money - n, (bal m f).nonce⟩) t ⟨(bal m t).money + n, (bal m t).nonce⟩
    omega
  · omega
theorem length_use (m : Bk) (k : Dg) (n : Int) : (usM m k n).length ≤ m.length + 2 := by
  unfold usM
  split
  · have h1 := length_put m k ⟨(bal m k).money, (bal m k).nonce + 1⟩
    omega
  · omega
/-- What moving does, seen. -/
theorem bal_move {m : Bk} {f t : Dg} {n : Int} (h : mvE m f n = 0) (hne : f ≠ t) (x : Dg) : bal (mvM m f t n) x = if t = x then ⟨(bal m t).money + n, (bal m t).nonce⟩ else if f = x then ⟨(bal m f).money - n, (bal m f).nonce⟩ else bal m x := by
  unfold mvM
  rw [if_pos ⟨h, hne⟩, bal_put, bal_put]
theorem mvM_same (m : Bk) (f : Dg) (n : Int) : mvM m f f n = m := by
  unfold mvM
  rw [if_neg (by simp)]
theorem bal_use {m : Bk} {k : Dg} {n : Int} (h : usE m k n = 0) (x : Dg) : bal (usM m k n) x = if k = x then ⟨(bal m k).money, (bal m k).nonce + 1⟩ else bal m x := by
  unfold usM
  rw [if_pos h, bal_put]

theorem nodup_sup {α : Type} [DecidableEq α] : ∀ {l l' : List α}, l.Nodup → (∀ x ∈ l, x ∈ l') → l'.length ≤ l.length → ∀ x ∈ l', x ∈ l := by
  intro l
  induction l with
  | nil =>
    intro l' _ _ h x hx
    cases l' with
    | nil => cases hx
    | cons y l' => simp at h
  | cons a l ih =>
    intro l' hn hs hl x hx
    rw [List.nodup_cons] at hn
    have ha := hs a (by simp)
    by_cases e : x = a
    · simp [e]
    · refine List.mem_cons_of_mem _ (ih (l' := l'.erase a) hn.2 (fun y hy => ?_) ?_ x ((List.mem_erase_of_ne e).2 hx))
      · have hya : y ≠ a := fun h => hn.1 (by rw [← h]; exact hy)
        exact (List.mem_erase_of_ne hya).2 (hs y (by simp [hy]))
      · rw [List.length_erase_of_mem ha]
        simp at hl
        omega
theorem tot_perm {m m' : Bk} (hp : m.Perm m') : tot m = tot m' := by
  induction hp with
  | nil => rfl
  | cons x _ ih => rw [tot_cons, tot_cons, ih]
  | swap x y l => rw [tot_cons, tot_cons, tot_cons, tot_cons]; omega
  | trans _ _ a b => exact a.trans b

/-- Two books are the same if all accounts are. -/
theorem same_iff {m m' : Bk} {T N T' N' : Int} (h : Ok T N m) (h' : Ok T' N' m') : sameB m m' = true ↔ ∀ k, bal m k = bal m' k := by
  have key : ∀ {m : Bk} {T N : Int}, Ok T N m → ∀ k, k ∈ m.map (·.1) ↔ bal m k ≠ p0 := by
    intro m T N h k
    constructor
    · intro hk
      obtain ⟨p, hp, rfl⟩ := List.mem_map.1 hk
      rw [bal_mem h.nd hp]
      exact h.nz p hp
    · intro hk
      apply Classical.byContradiction
      intro hn
      apply hk
      unfold bal
      have : alook m k = none := by
        rw [alook_none]
        exact fun p hp e => hn (List.mem_map.2 ⟨p, hp, e⟩)
      rw [this]
      rfl
  constructor
  · intro hs
    simp only [sameB, Bool.and_eq_true, decide_eq_true_eq, List.all_eq_true] at hs
    obtain ⟨hl, ha⟩ := hs
    have hsub : ∀ k ∈ m.map (·.1), k ∈ m'.map (·.1) := fun k hk => by
      obtain ⟨p, hp, rfl⟩ := List.mem_map.1 hk
      rw [key h', ha p hp]
      exact h.nz p hp
    have hsup : ∀ k ∈ m'.map (·.1), k ∈ m.map (·.1) := nodup_sup h.nd hsub (by simp; omega)
    intro k
    by_cases hk : k ∈ m.map (·.1)
    · obtain ⟨p, hp, rfl⟩ := List.mem_map.1 hk
      rw [ha p hp, bal_mem h.nd hp]
    · have h1 : bal m k = p0 := Classical.byContradiction (fun hn => hk ((key h k).2 hn))
      have h2 : bal m' k = p0 := Classical.byContradiction (fun hn => hk (hsup k ((key h' k).2 hn)))
      rw [h1, h2]
  · intro hb
    simp only [sameB, Bool.and_eq_true, decide_eq_true_eq, List.all_eq_true]
    refine ⟨?_, fun p hp => by rw [← hb, bal_mem h.nd hp]⟩
    have hperm : (m.map (·.1)).Perm (m'.map (·.1)) := by
      rw [List.perm_ext_iff_of_nodup h.nd h'.nd]
      intro k
      rw [key h, key h', hb]
    simpa using hperm.length_eq
theorem Ok.perm {T N : Int} {m m' : Bk} (h : Ok T N m) (hp : m'.Perm m) : Ok T N m' ∧ ∀ k, bal m' k = bal m k := by
  refine ⟨⟨(hp.map _).nodup_iff.2 h.nd, fun p hp' => h.nz p (hp.mem_iff.1 hp'), fun p hp' => h.mon p (hp.mem_iff.1 hp'), fun p hp' => h.non p (hp.mem_iff.1 hp'), ?_⟩, fun k => ?_⟩
  · rw [← h.tot]
    exact tot_perm hp
  · unfold bal
    rw [alook_perm hp ((hp.map _).nodup_iff.2 h.nd)]
end Go.Proofs.Ytkkfppfpbobghaa
/-
  told: an example.
-/
namespace Go.Proofs.Ytkkfppfpbobghaa
set_option linter.unusedVariables false

theorem qx6 {S : List Nat} {w0 : World} {F : World → Prop} {L : Env} {d : Option Nat} {ty : TypeId} {pos : String} {af : Array Edge} {g : Option (Nat × Bool)} {x : Operand} {e : En} (hx : ro L x = some (ev e)) : Vals Try.prog S w0 F L ⟨d, .field 49 x 1, ty, pos, af, g⟩ (.int .i64 e.money) := vals_field_cell (dc e.key) [.int .i64 e.nonce] (rho_of hx) rfl rfl (dc_length _)
theorem qx7 {S : List Nat} {w0 : World} {F : World → Prop} {L : Env} {d : Option Nat} {ty : TypeId} {pos : String} {af : Array Edge} {g : Option (Nat × Bool)} {x : Operand} {e : En} (hx : ro L x = some (ev e)) : Vals Try.prog S w0 F L ⟨d, .field 49 x 2, ty, pos, af, g⟩ (.int .i64 e.nonce) := vals_field_cell (dc e.key ++ [.int .i64 e.money]) [] (rho_of hx) rfl (by simp [ec]) (by simp [dc_length])
theorem qx8 {S : List Nat} {w0 : World} {F : World → Prop} {L : Env} {d : Option Nat} {ty : TypeId} {pos : String} {af : Array Edge} {g : Option (Nat × Bool)} {x : Operand} {e : En} (hx : ro L x = some (ev e)) : Vals Try.prog S w0 F L ⟨d, .field 49 x 0, ty, pos, af, g⟩ (dv e.key) := vals_field_agg [] (dc e.key) [.int .i64 e.money, .int .i64 e.nonce] (rho_of hx) rfl rfl rfl (dc_length _)
def k1 : Dg := keyD 1
def k2 : Dg := keyD 2
def m0 : Bk := [(k1, ⟨5, 0⟩)]
def m1 : Bk := [(k1, ⟨2, 0⟩), (k2, ⟨3, 0⟩)]
def m2 : Bk := [(k1, ⟨2, 1⟩), (k2, ⟨3, 0⟩)]
theorem t_new : newE [⟨k1, 5, 0⟩] = 0 := by decide
theorem t_puts : puts [] [⟨k1, 5, 0⟩] = m0 := by decide
theorem t_mv1 : mvE m0 k1 3 = 0 := by decide
theorem t_mm1 : mvM m0 k1 k2 3 = m1 := by decide
theorem t_mv2 : mvE m1 k1 3 = 21 := by decide
theorem t_mm2 : mvM m1 k1 k2 3 = m1 := by decide
theorem t_us1 : usE m1 k1 0 = 0 := by decide
theorem t_um1 : usM m1 k1 0 = m2 := by decide
theorem t_us2 : usE m2 k1 0 = 17 := by decide
theorem t_um2 : usM m2 k1 0 = m2 := by decide
theorem t_us3 : usE m2 k1 2 = 20 := by decide
theorem t_um3 : usM m2 k1 2 = m2 := by decide
theorem t_bal : bal m2 k2 = ⟨3, 0⟩ := by decide
theorem t_tot : tot m2 = 5 := by decide
theorem ok0 : Ok 5 0 m0 := ⟨by decide, by decide, by decide, by decide, by decide⟩
theorem ok1 : Ok 5 0 m1 := ⟨by decide, by decide, by decide, by decide, by decide⟩
theorem ok2 : Ok 5 1 m2 := ⟨by decide, by decide, by decide, by decide, by decide⟩

attribute [local irreducible] CG NG SG Vals Der Row Blk MapIs IterAt DerX
set_option maxHeartbeats 32000000 in
theorem told_spec (w : World) : Ret Try.prog 12 #[] w (.bool true) := by
  refine enter0 Try.func12 rfl Try.ntmps12 ?_
  repeat (first|apply CG.seq|apply CG.region|apply SG.nil|apply NG.next|apply CG.skip|apply CG.block|apply CG.ret|apply CG.exit|apply CG.scope|apply NG.ret_then|apply NG.ret_block|apply NG.ret_scope|apply NG.exit_then|refine NG.exit_block rfl ?_|refine NG.exit_other rfl ?_|apply NG.exit_scope|apply NG.normal_block|apply NG.normal_scope|refine SG.val rfl rfl rfl rfl (by first|((first|apply qmv|apply qas|apply qlc|apply qla|apply qfa|apply qnc|apply qic|apply qix|apply qpk|apply qls|apply qei|apply qni|apply qed|apply qnd|apply qad|apply qln|apply qle|apply qgt|apply qge|apply qlk|apply qlv|apply qxt|apply qsb|apply qnt|apply qep|apply qnp|apply qeb|apply qnb|apply qx2|apply qx4|apply qcv|apply qlm|apply qfr|apply qto|apply qmx|apply qen|apply qsn|apply qx8|apply qx7|apply qx6|apply qx5|apply qx4|apply qx3|apply qx2|apply qx1|apply qx0)<;>(first|exact rfl|exact Ar.mk (by omega)|assumption|exact dct (by assumption)|exact dcf (by assumption)|exact dct (by omega)|exact dcf (by omega)|exact List.not_mem_nil|exact dc_length _|exact nc_length _|exact rc_length _ _ _|exact ec_length _|exact nm1 (by omega)|exact nm2 (by omega) (by omega)|exact dct rfl|exact dct (by decide)|exact dcf (by decide)|exact (Int.toNat_of_nonneg (by omega)).symm|exact dcu|exact lk1 (by assumption)|exact lk0 (by assumption)|exact lkb|fail))|fail) ?_)
  refine SG.ret rfl rfl rfl (vs := [bv 1]) ⟨rfl, True.intro⟩ (key_spec 1 w) (fun w1 hk1 => ?_)
  refine SG.val rfl rfl rfl rfl (vals_build (v := ev ⟨k1, 5, 0⟩) rfl (fun w => by kernel_rfl)) ?_
  refine SG.buildSlice rfl rfl rfl rfl (bs35 _) (fun b2 w2 hk2 hb2 hB2 => ?_)
  have hS2 : SlE w2 (some ⟨b2, 0, none⟩) [⟨k1, 5, 0⟩] := Sl.of_blk ec_length (pre := []) (post := []) (by simpa [flt] using hB2)
  refine SG.call rfl rfl rfl (by repeat' (first | exact True.intro | exact rho_of rfl | refine And.intro ?_ ?_)) ((new_spec (l := [⟨k1, 5, 0⟩]) 1 hS2 (by decide)).mono (fun e w3 hh => ?_))
  obtain ⟨hk3, ⟨h, _⟩ | ⟨_, bt, bm, he, hB, hbt, hbm⟩⟩ := hh
  · exact absurd t_new h
  rw [t_puts] at hB
  have hk := (hk1.trans hk2).trans hk3
  have s3 := (hk1.trans hk2).size
  have g0 := ok0.good (by omega) (by omega) (by omega)
  have g1 := ok1.good (by omega) (by omega) (by omega)
  have g2 := ok2.good (by omega) (by omega) (by omega)
  refine ⟨_, he, ?_⟩
  repeat (first|apply CG.seq|apply CG.region|apply SG.nil|apply NG.next|apply CG.skip|apply CG.block|apply CG.ret|apply CG.exit|apply CG.scope|apply NG.ret_then|apply NG.ret_block|apply NG.ret_scope|apply NG.exit_then|refine NG.exit_block rfl ?_|refine NG.exit_other rfl ?_|apply NG.exit_scope|apply NG.normal_block|apply NG.normal_scope|refine SG.val rfl rfl rfl rfl (by first|((first|apply qmv|apply qas|apply qlc|apply qla|apply qfa|apply qnc|apply qic|apply qix|apply qpk|apply qls|apply qei|apply qni|apply qed|apply qnd|apply qad|apply qln|apply qle|apply qgt|apply qge|apply qlk|apply qlv|apply qxt|apply qsb|apply qnt|apply qep|apply qnp|apply qeb|apply qnb|apply qx2|apply qx4|apply qcv|apply qlm|apply qfr|apply qto|apply qmx|apply qen|apply qsn|apply qx8|apply qx7|apply qx6|apply qx5|apply qx4|apply qx3|apply qx2|apply qx1|apply qx0)<;>(first|exact rfl|exact Ar.mk (by omega)|assumption|exact dct (by assumption)|exact dcf (by assumption)|exact dct (by omega)|exact dcf (by omega)|exact List.not_mem_nil|exact dc_length _|exact nc_length _|exact rc_length _ _ _|exact ec_length _|exact nm1 (by omega)|exact nm2 (by omega) (by omega)|exact dct rfl|exact dct (by decide)|exact dcf (by decide)|exact (Int.toNat_of_nonneg (by omega)).symm|exact dcu|exact lk1 (by assumption)|exact lk0 (by assumption)|exact lkb|fail))|fail) ?_)
  refine CG.cond_f rfl (by exact rho_of rfl) rfl ?_
  repeat (first|apply CG.seq|apply CG.region|apply SG.nil|apply NG.next|apply CG.skip|apply CG.block|apply CG.ret|apply CG.exit|apply CG.scope|apply NG.ret_then|apply NG.ret_block|apply NG.ret_scope|apply NG.exit_then|refine NG.exit_block rfl ?_|refine NG.exit_other rfl ?_|apply NG.exit_scope|apply NG.normal_block|apply NG.normal_scope|refine SG.val rfl rfl rfl rfl (by first|((first|apply qmv|apply qas|apply qlc|apply qla|apply qfa|apply qnc|apply qic|apply qix|apply qpk|apply qls|apply qei|apply qni|apply qed|apply qnd|apply qad|apply qln|apply qle|apply qgt|apply qge|apply qlk|apply qlv|apply qxt|apply qsb|apply qnt|apply qep|apply qnp|apply qeb|apply qnb|apply qx2|apply qx4|apply qcv|apply qlm|apply qfr|apply qto|apply qmx|apply qen|apply qsn|apply qx8|apply qx7|apply qx6|apply qx5|apply qx4|apply qx3|apply qx2|apply qx1|apply qx0)<;>(first|exact rfl|exact Ar.mk (by omega)|assumption|exact dct (by assumption)|exact dcf (by assumption)|exact dct (by omega)|exact dcf (by omega)|exact List.not_mem_nil|exact dc_length _|exact nc_length _|exact rc_length _ _ _|exact ec_length _|exact nm1 (by omega)|exact nm2 (by omega) (by omega)|exact dct rfl|exact dct (by decide)|exact dcf (by decide)|exact (Int.toNat_of_nonneg (by omega)).symm|exact dcu|exact lk1 (by assumption)|exact lk0 (by assumption)|exact lkb|fail))|fail) ?_)
  refine SG.ret rfl rfl rfl (vs := [bv 1]) ⟨rfl, True.intro⟩ (key_spec 1 w3) (fun w4 hk4 => ?_)
  refine SG.ret rfl rfl rfl (vs := [bv 2]) ⟨rfl, True.intro⟩ (key_spec 2 w4) (fun w5 hk5 => ?_)
  refine SG.call rfl rfl rfl (by repeat' (first | exact True.intro | exact rho_of rfl | refine And.intro ?_ ?_)) ((move_spec ((hB.kp0 hk4).kp0 hk5) g0 k1 k2 3).mono (fun e w6 hh => ?_))
  obtain ⟨he6, hB6, hk6⟩ := hh
  rw [t_mv1] at he6
  rw [t_mm1] at hB6
  refine ⟨_, he6, ?_⟩
  repeat (first|apply CG.seq|apply CG.region|apply SG.nil|apply NG.next|apply CG.skip|apply CG.block|apply CG.ret|apply CG.exit|apply CG.scope|apply NG.ret_then|apply NG.ret_block|apply NG.ret_scope|apply NG.exit_then|refine NG.exit_block rfl ?_|refine NG.exit_other rfl ?_|apply NG.exit_scope|apply NG.normal_block|apply NG.normal_scope|refine SG.val rfl rfl rfl rfl (by first|((first|apply qmv|apply qas|apply qlc|apply qla|apply qfa|apply qnc|apply qic|apply qix|apply qpk|apply qls|apply qei|apply qni|apply qed|apply qnd|apply qad|apply qln|apply qle|apply qgt|apply qge|apply qlk|apply qlv|apply qxt|apply qsb|apply qnt|apply qep|apply qnp|apply qeb|apply qnb|apply qx2|apply qx4|apply qcv|apply qlm|apply qfr|apply qto|apply qmx|apply qen|apply qsn|apply qx8|apply qx7|apply qx6|apply qx5|apply qx4|apply qx3|apply qx2|apply qx1|apply qx0)<;>(first|exact rfl|exact Ar.mk (by omega)|assumption|exact dct (by assumption)|exact dcf (by assumption)|exact dct (by omega)|exact dcf (by omega)|exact List.not_mem_nil|exact dc_length _|exact nc_length _|exact rc_length _ _ _|exact ec_length _|exact nm1 (by omega)|exact nm2 (by omega) (by omega)|exact dct rfl|exact dct (by decide)|exact dcf (by decide)|exact (Int.toNat_of_nonneg (by omega)).symm|exact dcu|exact lk1 (by assumption)|exact lk0 (by assumption)|exact lkb|fail))|fail) ?_)
  refine SG.ret rfl rfl rfl (vs := [bv 1]) ⟨rfl, True.intro⟩ (key_spec 1 w6) (fun w7 hk7 => ?_)
  refine SG.ret rfl rfl rfl (vs := [bv 2]) ⟨rfl, True.intro⟩ (key_spec 2 w7) (fun w8 hk8 => ?_)
  refine SG.call rfl rfl rfl (by repeat' (first | exact True.intro | exact rho_of rfl | refine And.intro ?_ ?_)) ((move_spec ((hB6.kp0 hk7).kp0 hk8) g1 k1 k2 3).mono (fun e w9 hh => ?_))
  obtain ⟨he9, hB9, hk9⟩ := hh
  rw [t_mv2] at he9
  rw [t_mm2] at hB9
  refine ⟨_, he9, ?_⟩
  repeat (first|apply CG.seq|apply CG.region|apply SG.nil|apply NG.next|apply CG.skip|apply CG.block|apply CG.ret|apply CG.exit|apply CG.scope|apply NG.ret_then|apply NG.ret_block|apply NG.ret_scope|apply NG.exit_then|refine NG.exit_block rfl ?_|refine NG.exit_other rfl ?_|apply NG.exit_scope|apply NG.normal_block|apply NG.normal_scope|refine SG.val rfl rfl rfl rfl (by first|((first|apply qmv|apply qas|apply qlc|apply qla|apply qfa|apply qnc|apply qic|apply qix|apply qpk|apply qls|apply qei|apply qni|apply qed|apply qnd|apply qad|apply qln|apply qle|apply qgt|apply qge|apply qlk|apply qlv|apply qxt|apply qsb|apply qnt|apply qep|apply qnp|apply qeb|apply qnb|apply qx2|apply qx4|apply qcv|apply qlm|apply qfr|apply qto|apply qmx|apply qen|apply qsn|apply qx8|apply qx7|apply qx6|apply qx5|apply qx4|apply qx3|apply qx2|apply qx1|apply qx0)<;>(first|exact rfl|exact Ar.mk (by omega)|assumption|exact dct (by assumption)|exact dcf (by assumption)|exact dct (by omega)|exact dcf (by omega)|exact List.not_mem_nil|exact dc_length _|exact nc_length _|exact rc_length _ _ _|exact ec_length _|exact nm1 (by omega)|exact nm2 (by omega) (by omega)|exact dct rfl|exact dct (by decide)|exact dcf (by decide)|exact (Int.toNat_of_nonneg (by omega)).symm|exact dcu|exact lk1 (by assumption)|exact lk0 (by assumption)|exact lkb|fail))|fail) ?_)
  refine SG.ret rfl rfl rfl (vs := [bv 1]) ⟨rfl, True.intro⟩ (key_spec 1 w9) (fun w10 hk10 => ?_)
  refine SG.call rfl rfl rfl (by repeat' (first | exact True.intro | exact rho_of rfl | refine And.intro ?_ ?_)) ((use_spec (hB9.kp0 hk10) g1 k1 0).mono (fun e w11 hh => ?_))
  obtain ⟨he11, hB11, hk11⟩ := hh
  rw [t_us1] at he11
  rw [t_um1] at hB11
  refine ⟨_, he11, ?_⟩
  repeat (first|apply CG.seq|apply CG.region|apply SG.nil|apply NG.next|apply CG.skip|apply CG.block|apply CG.ret|apply CG.exit|apply CG.scope|apply NG.ret_then|apply NG.ret_block|apply NG.ret_scope|apply NG.exit_then|refine NG.exit_block rfl ?_|refine NG.exit_other rfl ?_|apply NG.exit_scope|apply NG.normal_block|apply NG.normal_scope|refine SG.val rfl rfl rfl rfl (by first|((first|apply qmv|apply qas|apply qlc|apply qla|apply qfa|apply qnc|apply qic|apply qix|apply qpk|apply qls|apply qei|apply qni|apply qed|apply qnd|apply qad|apply qln|apply qle|apply qgt|apply qge|apply qlk|apply qlv|apply qxt|apply qsb|apply qnt|apply qep|apply qnp|apply qeb|apply qnb|apply qx2|apply qx4|apply qcv|apply qlm|apply qfr|apply qto|apply qmx|apply qen|apply qsn|apply qx8|apply qx7|apply qx6|apply qx5|apply qx4|apply qx3|apply qx2|apply qx1|apply qx0)<;>(first|exact rfl|exact Ar.mk (by omega)|assumption|exact dct (by assumption)|exact dcf (by assumption)|exact dct (by omega)|exact dcf (by omega)|exact List.not_mem_nil|exact dc_length _|exact nc_length _|exact rc_length _ _ _|exact ec_length _|exact nm1 (by omega)|exact nm2 (by omega) (by omega)|exact dct rfl|exact dct (by decide)|exact dcf (by decide)|exact (Int.toNat_of_nonneg (by omega)).symm|exact dcu|exact lk1 (by assumption)|exact lk0 (by assumption)|exact lkb|fail))|fail) ?_)
  refine SG.ret rfl rfl rfl (vs := [bv 1]) ⟨rfl, True.intro⟩ (key_spec 1 w11) (fun w12 hk12 => ?_)
  refine SG.call rfl rfl rfl (by repeat' (first | exact True.intro | exact rho_of rfl | refine And.intro ?_ ?_)) ((use_spec (hB11.kp0 hk12) g2 k1 0).mono (fun e w13 hh => ?_))
  obtain ⟨he13, hB13, hk13⟩ := hh
  rw [t_us2] at he13
  rw [t_um2] at hB13
  refine ⟨_, he13, ?_⟩
  repeat (first|apply CG.seq|apply CG.region|apply SG.nil|apply NG.next|apply CG.skip|apply CG.block|apply CG.ret|apply CG.exit|apply CG.scope|apply NG.ret_then|apply NG.ret_block|apply NG.ret_scope|apply NG.exit_then|refine NG.exit_block rfl ?_|refine NG.exit_other rfl ?_|apply NG.exit_scope|apply NG.normal_block|apply NG.normal_scope|refine SG.val rfl rfl rfl rfl (by first|((first|apply qmv|apply qas|apply qlc|apply qla|apply qfa|apply qnc|apply qic|apply qix|apply qpk|apply qls|apply qei|apply qni|apply qed|apply qnd|apply qad|apply qln|apply qle|apply qgt|apply qge|apply qlk|apply qlv|apply qxt|apply qsb|apply qnt|apply qep|apply qnp|apply qeb|apply qnb|apply qx2|apply qx4|apply qcv|apply qlm|apply qfr|apply qto|apply qmx|apply qen|apply qsn|apply qx8|apply qx7|apply qx6|apply qx5|apply qx4|apply qx3|apply qx2|apply qx1|apply qx0)<;>(first|exact rfl|exact Ar.mk (by omega)|assumption|exact dct (by assumption)|exact dcf (by assumption)|exact dct (by omega)|exact dcf (by omega)|exact List.not_mem_nil|exact dc_length _|exact nc_length _|exact rc_length _ _ _|exact ec_length _|exact nm1 (by omega)|exact nm2 (by omega) (by omega)|exact dct rfl|exact dct (by decide)|exact dcf (by decide)|exact (Int.toNat_of_nonneg (by omega)).symm|exact dcu|exact lk1 (by assumption)|exact lk0 (by assumption)|exact lkb|fail))|fail) ?_)
  refine SG.ret rfl rfl rfl (vs := [bv 1]) ⟨rfl, True.intro⟩ (key_spec 1 w13) (fun w14 hk14 => ?_)
  refine SG.call rfl rfl rfl (by repeat' (first | exact True.intro | exact rho_of rfl | refine And.intro ?_ ?_)) ((use_spec (hB13.kp0 hk14) g2 k1 2).mono (fun e w15 hh => ?_))
  obtain ⟨he15, hB15, hk15⟩ := hh
  rw [t_us3] at he15
  rw [t_um3] at hB15
  refine ⟨_, he15, ?_⟩
  repeat (first|apply CG.seq|apply CG.region|apply SG.nil|apply NG.next|apply CG.skip|apply CG.block|apply CG.ret|apply CG.exit|apply CG.scope|apply NG.ret_then|apply NG.ret_block|apply NG.ret_scope|apply NG.exit_then|refine NG.exit_block rfl ?_|refine NG.exit_other rfl ?_|apply NG.exit_scope|apply NG.normal_block|apply NG.normal_scope|refine SG.val rfl rfl rfl rfl (by first|((first|apply qmv|apply qas|apply qlc|apply qla|apply qfa|apply qnc|apply qic|apply qix|apply qpk|apply qls|apply qei|apply qni|apply qed|apply qnd|apply qad|apply qln|apply qle|apply qgt|apply qge|apply qlk|apply qlv|apply qxt|apply qsb|apply qnt|apply qep|apply qnp|apply qeb|apply qnb|apply qx2|apply qx4|apply qcv|apply qlm|apply qfr|apply qto|apply qmx|apply qen|apply qsn|apply qx8|apply qx7|apply qx6|apply qx5|apply qx4|apply qx3|apply qx2|apply qx1|apply qx0)<;>(first|exact rfl|exact Ar.mk (by omega)|assumption|exact dct (by assumption)|exact dcf (by assumption)|exact dct (by omega)|exact dcf (by omega)|exact List.not_mem_nil|exact dc_length _|exact nc_length _|exact rc_length _ _ _|exact ec_length _|exact nm1 (by omega)|exact nm2 (by omega) (by omega)|exact dct rfl|exact dct (by decide)|exact dcf (by decide)|exact (Int.toNat_of_nonneg (by omega)).symm|exact dcu|exact lk1 (by assumption)|exact lk0 (by assumption)|exact lkb|fail))|fail) ?_)
  refine SG.ret rfl rfl rfl (by repeat' (first | exact True.intro | exact rho_of rfl | refine And.intro ?_ ?_)) (total_spec hB15 g2 (by rw [t_tot]; omega)) (fun w16 hk16 => ?_)
  rw [t_tot]
  repeat (first|apply CG.seq|apply CG.region|apply SG.nil|apply NG.next|apply CG.skip|apply CG.block|apply CG.ret|apply CG.exit|apply CG.scope|apply NG.ret_then|apply NG.ret_block|apply NG.ret_scope|apply NG.exit_then|refine NG.exit_block rfl ?_|refine NG.exit_other rfl ?_|apply NG.exit_scope|apply NG.normal_block|apply NG.normal_scope|refine SG.val rfl rfl rfl rfl (by first|((first|apply qmv|apply qas|apply qlc|apply qla|apply qfa|apply qnc|apply qic|apply qix|apply qpk|apply qls|apply qei|apply qni|apply qed|apply qnd|apply qad|apply qln|apply qle|apply qgt|apply qge|apply qlk|apply qlv|apply qxt|apply qsb|apply qnt|apply qep|apply qnp|apply qeb|apply qnb|apply qx2|apply qx4|apply qcv|apply qlm|apply qfr|apply qto|apply qmx|apply qen|apply qsn|apply qx8|apply qx7|apply qx6|apply qx5|apply qx4|apply qx3|apply qx2|apply qx1|apply qx0)<;>(first|exact rfl|exact Ar.mk (by omega)|assumption|exact dct (by assumption)|exact dcf (by assumption)|exact dct (by omega)|exact dcf (by omega)|exact List.not_mem_nil|exact dc_length _|exact nc_length _|exact rc_length _ _ _|exact ec_length _|exact nm1 (by omega)|exact nm2 (by omega) (by omega)|exact dct rfl|exact dct (by decide)|exact dcf (by decide)|exact (Int.toNat_of_nonneg (by omega)).symm|exact dcu|exact lk1 (by assumption)|exact lk0 (by assumption)|exact lkb|fail))|fail) ?_)
  refine SG.ret rfl rfl rfl (vs := [bv 2]) ⟨rfl, True.intro⟩ (key_spec 2 w16) (fun w17 hk17 => ?_)
  have hB17 := (hB15.kp0 hk16).kp0 hk17
  refine SG.ret rfl rfl rfl (by repeat' (first | exact True.intro | exact rho_of rfl | refine And.intro ?_ ?_)) (of_spec hB17 k2) (fun w18 hk18 => ?_)
  rw [t_bal]
  have hB18 := hB17.kp0 hk18
  repeat (first|apply CG.seq|apply CG.region|apply SG.nil|apply NG.next|apply CG.skip|apply CG.block|apply CG.ret|apply CG.exit|apply CG.scope|apply NG.ret_then|apply NG.ret_block|apply NG.ret_scope|apply NG.exit_then|refine NG.exit_block rfl ?_|refine NG.exit_other rfl ?_|apply NG.exit_scope|apply NG.normal_block|apply NG.normal_scope|refine SG.val rfl rfl rfl rfl (by first|((first|apply qmv|apply qas|apply qlc|apply qla|apply qfa|apply qnc|apply qic|apply qix|apply qpk|apply qls|apply qei|apply qni|apply qed|apply qnd|apply qad|apply qln|apply qle|apply qgt|apply qge|apply qlk|apply qlv|apply qxt|apply qsb|apply qnt|apply qep|apply qnp|apply qeb|apply qnb|apply qx2|apply qx4|apply qcv|apply qlm|apply qfr|apply qto|apply qmx|apply qen|apply qsn|apply qx8|apply qx7|apply qx6|apply qx5|apply qx4|apply qx3|apply qx2|apply qx1|apply qx0)<;>(first|exact rfl|exact Ar.mk (by omega)|assumption|exact dct (by assumption)|exact dcf (by assumption)|exact dct (by omega)|exact dcf (by omega)|exact List.not_mem_nil|exact dc_length _|exact nc_length _|exact rc_length _ _ _|exact ec_length _|exact nm1 (by omega)|exact nm2 (by omega) (by omega)|exact dct rfl|exact dct (by decide)|exact dcf (by decide)|exact (Int.toNat_of_nonneg (by omega)).symm|exact dcu|exact lk1 (by assumption)|exact lk0 (by assumption)|exact lkb|fail))|fail) ?_)
  refine SG.call rfl rfl rfl (by repeat' (first | exact True.intro | exact rho_of rfl | refine And.intro ?_ ?_)) ((all_spec hB18 (by decide)).mono (fun e w19 hh => ?_))
  obtain ⟨v, l, he19, ho19, hp19, _, hk19⟩ := hh
  refine ⟨_, he19, ?_⟩
  have hl2 : l.length = 2 := by rw [hp19.length_eq]; rfl
  rw [hl2] at ho19
  obtain ⟨a, c, rfl, hS⟩ := SlF.own ec_length ho19 hl2
  repeat (first|apply CG.seq|apply CG.region|apply SG.nil|apply NG.next|apply CG.skip|apply CG.block|apply CG.ret|apply CG.exit|apply CG.scope|apply NG.ret_then|apply NG.ret_block|apply NG.ret_scope|apply NG.exit_then|refine NG.exit_block rfl ?_|refine NG.exit_other rfl ?_|apply NG.exit_scope|apply NG.normal_block|apply NG.normal_scope|refine SG.val rfl rfl rfl rfl (by first|((first|apply qmv|apply qas|apply qlc|apply qla|apply qfa|apply qnc|apply qic|apply qix|apply qpk|apply qls|apply qei|apply qni|apply qed|apply qnd|apply qad|apply qln|apply qle|apply qgt|apply qge|apply qlk|apply qlv|apply qxt|apply qsb|apply qnt|apply qep|apply qnp|apply qeb|apply qnb|apply qx2|apply qx4|apply qcv|apply qlm|apply qfr|apply qto|apply qmx|apply qen|apply qsn|apply qx8|apply qx7|apply qx6|apply qx5|apply qx4|apply qx3|apply qx2|apply qx1|apply qx0)<;>(first|exact rfl|exact Ar.mk (by omega)|assumption|exact dct (by assumption)|exact dcf (by assumption)|exact dct (by omega)|exact dcf (by omega)|exact List.not_mem_nil|exact dc_length _|exact nc_length _|exact rc_length _ _ _|exact ec_length _|exact nm1 (by omega)|exact nm2 (by omega) (by omega)|exact dct rfl|exact dct (by decide)|exact dcf (by decide)|exact (Int.toNat_of_nonneg (by omega)).symm|exact dcu|exact lk1 (by assumption)|exact lk0 (by assumption)|exact lkb|fail))|fail) ?_)
  refine ret1 (Or.inl rfl) Try.results12 (by first | exact ResV.tmp rfl | exact ResV.agg rfl rfl (by assumption) (by first | exact dc_length _ | exact nc_length _ | exact rc_length _ _ _ | exact ec_length _ | rfl) | exact ResV.cell rfl rfl (by assumption)) ?_
  refine ⟨rfl, ?_⟩
  have n6 := hk6
  have hkk : Kp [] w w6 := ((hk.trans hk4).trans hk5).trans_new hk6 (new1 (by omega))
  have hkk := ((hkk.trans hk7).trans hk8).trans_new hk9 (new1 (by omega))
  have hkk := (hkk.trans hk10).trans_new hk11 (new1 (by omega))
  have hkk := (hkk.trans hk12).trans_new hk13 (new1 (by omega))
  have hkk := (hkk.trans hk14).trans_new hk15 (new1 (by omega))
  exact (((hkk.trans hk16).trans hk17).trans hk18).trans hk19
end Go.Proofs.Ytkkfppfpbobghaa
/-
  A book of some money of the first keys.
-/
namespace Go.Proofs.Ytkkfppfpbobghaa
set_option linter.unusedVariables false

/-! what a new book holds -/
def esum (l : List En) : Int := (l.map (·.money)).sum
theorem esum_cons (e : En) (l : List En) : esum (e :: l) = e.money + esum l := by simp [esum]
/-- A key's account, as the document finds it. -/
def ofL (l : List En) (k : Dg) : Pu := match l.find? (fun e => decide (e.key = k)) with
  | some e => ⟨e.money, e.nonce⟩
  | none => p0
theorem newGo_ok : ∀ {l : List En} {ks : List Dg} {s : Int}, (∀ e ∈ l, ¬ badR e) → (l.map (·.key)).Nodup → (∀ e ∈ l, e.key ∉ ks) → s + esum l ≤ 1125899906842624 → newGo ks s l = 0
  | [], ks, s, _, _, _, h => by
    simp only [esum, List.map_nil, List.sum_nil] at h
    simp only [newGo]
    rw [if_neg (by omega)]
  | e :: l, ks, s, h1, h2, h3, h4 => by
    rw [esum_cons] at h4
    rw [List.map_cons, List.nodup_cons] at h2
    simp only [newGo]
    rw [if_neg (h1 e (by simp)), if_neg (h3 e (by simp))]
    refine newGo_ok (fun x hx => h1 x (by simp [hx])) h2.2 (fun x hx hm => ?_) (by omega)
    rcases List.mem_cons.1 hm with h | h
    · exact h2.1 (List.mem_map.2 ⟨x, hx, h⟩)
    · exact h3 x (by simp [hx]) h
theorem newGo_zero : ∀ {l : List En} {ks : List Dg} {s : Int}, newGo ks s l = 0 → (∀ e ∈ l, ¬ badR e) ∧ (l.map (·.key)).Nodup ∧ (∀ e ∈ l, e.key ∉ ks) ∧ s + esum l ≤ 1125899906842624
  | [], ks, s, h => by
    simp only [newGo] at h
    refine ⟨by simp, by simp, by simp, ?_⟩
    simp only [esum, List.map_nil, List.sum_nil]
    split at h
    · cases h
    · omega
  | e :: l, ks, s, h => by
    simp only [newGo] at h
    split at h
    · cases h
    · rename_i hb
      split at h
      · cases h
      · rename_i hk
        obtain ⟨a1, a2, a3, a4⟩ := newGo_zero h
        refine ⟨fun x hx => ?_, ?_, fun x hx => ?_, by rw [esum_cons]; omega⟩
        · rcases List.mem_cons.1 hx with rfl | hx
          · exact hb
          · exact a1 x hx
        · rw [List.map_cons, List.nodup_cons]
          refine ⟨fun hm => ?_, a2⟩
          obtain ⟨x, hx, he⟩ := List.mem_map.1 hm
          exact a3 x hx (by rw [he]; simp)
        · rcases List.mem_cons.1 hx with rfl | hx
          · exact hk
          · exact fun hm => a3 x hx (by simp [hm])
theorem puts_bal : ∀ {l : List En} {m : Bk}, (l.map (·.key)).Nodup → ∀ k, bal (puts m l) k = match l.find? (fun e => decide (e.key = k)) with
    | some e => ⟨e.money, e.nonce⟩
    | none => bal m k
  | [], m, _, k => rfl
  | e :: l, m, h, k => by
    rw [List.map_cons, List.nodup_cons] at h
    show bal (puts (mput m e.key ⟨e.money, e.nonce⟩) l) k = _
    rw [puts_bal h.2 k, List.find?_cons]
    by_cases ek : e.key = k
    · have hn : l.find? (fun x => decide (x.key = k)) = none := by
        rw [List.find?_eq_none]
        intro x hx
        simp only [decide_eq_true_eq]
        exact fun hk => h.1 (List.mem_map.2 ⟨x, hx, by rw [hk, ek]⟩)
      rw [hn]
      simp only [ek, decide_true]
      rw [bal_put, if_pos rfl]
    · simp only [ek, decide_false]
      cases l.find? (fun x => decide (x.key = k)) with
      | some x => rfl
      | none =>
        simp only
        rw [bal_put, if_neg ek]
theorem puts_ok {N : Int} : ∀ {l : List En} {m : Bk} {T : Int}, Ok T N m → (∀ e ∈ l, 0 ≤ e.money ∧ 0 ≤ e.nonce ∧ e.nonce ≤ N) → (l.map (·.key)).Nodup → (∀ e ∈ l, bal m e.key = p0) → Ok (T + esum l) N (puts m l) ∧ (puts m l).length ≤ m.length + l.length
  | [], m, T, h, _, _, _ => by
    simp only [esum, List.map_nil, List.sum_nil, Int.add_zero]
    exact ⟨h, Nat.le_refl _⟩
  | e :: l, m, T, h, h1, h2, h3 => by
    rw [List.map_cons, List.nodup_cons] at h2
    have he := h1 e (by simp)
    have h4 := h.put (Int.le_refl N) e.key ⟨e.money, e.nonce⟩ he.1 he.2
    rw [h3 e (by simp)] at h4
    have e1 : T - p0.money + e.money = T + e.money := by simp [p0]
    simp only at h4
    rw [e1] at h4
    have h5 := puts_ok h4 (fun x hx => h1 x (by simp [hx])) h2.2 (fun x hx => by
      rw [bal_put, if_neg (fun hk => h2.1 (List.mem_map.2 ⟨x, hx, hk.symm⟩))]
      exact h3 x (by simp [hx]))
    have h6 := length_put m e.key ⟨e.money, e.nonce⟩
    refine ⟨?_, ?_⟩
    · rw [esum_cons, ← Int.add_assoc]
      exact h5.1
    · have := h5.2
      show (puts (mput m e.key ⟨e.money, e.nonce⟩) l).length ≤ _
      simp only [List.length_cons]
      omega
theorem ok_nil (N : Int) : Ok 0 N [] := ⟨by simp, by simp, by simp, by simp, rfl⟩
theorem puts_new {l : List En} {N : Int} (h : newE l = 0) (hN : ∀ e ∈ l, e.nonce ≤ N) : Ok (esum l) N (puts [] l) ∧ (puts [] l).length ≤ l.length ∧ (∀ k, bal (puts [] l) k = ofL l k) ∧ (l.map (·.key)).Nodup ∧ esum l ≤ 1125899906842624 ∧ l.length ≤ 1024 := by
  unfold newE at h
  split at h
  · cases h
  · rename_i hl
    obtain ⟨a1, a2, a3, a4⟩ := newGo_zero h
    have h1 := puts_ok (N := N) (m := []) (T := 0) (ok_nil N) (fun e he => by
      have b := a1 e he
      have n := hN e he
      unfold badR at b
      omega) a2 (fun e he => rfl)
    rw [Int.zero_add] at h1 a4
    refine ⟨h1.1, by simpa using h1.2, fun k => ?_, a2, a4, by omega⟩
    rw [puts_bal a2 k]
    rfl

/-! begin -/
abbrev uc (n : Nat) : List Value := [.int .u16 (n : Int)]
abbrev SlU (w : World) (a : Option Addr) (l : List Nat) : Prop := Sl uc 1 w a l
def bE (l : List Nat) (i : Nat) : En := ⟨keyD (UInt8.ofNat i), (l.getD i 0 : Nat), ((l.getD i 0 : Nat) : Int) % 3⟩
def begN (l : List Nat) (n : Nat) : List En := (List.range n).map (bE l)
def begL (l : List Nat) : List En := begN l (min l.length 8)
theorem begN_succ (l : List Nat) (n : Nat) : begN l (n + 1) = begN l n ++ [bE l n] := by simp [begN, List.range_succ]
theorem begN_length (l : List Nat) (n : Nat) : (begN l n).length = n := by simp [begN]
theorem bv_ofNat {i : Nat} (h : i < 256) : Value.int .u8 (i : Int) = bv (UInt8.ofNat i) := by
  have h2 : (UInt8.ofNat i).toNat = i := by rw [UInt8.toNat_ofNat']; omega
  show _ = Value.int .u8 ((UInt8.ofNat i).toNat : Int)
  rw [h2]
theorem keyD_inj {u v : UInt8} (h : keyD u = keyD v) : u = v := by
  have := congrArg Subtype.val h
  simp [keyD] at this
  exact this
theorem getD_lt {l : List Nat} (hb : ∀ x ∈ l, x < 65536) (i : Nat) : l.getD i 0 < 65536 := by
  rw [List.getD_eq_getElem?_getD]
  cases h : l[i]? with
  | none => simp
  | some x =>
    simp only [Option.getD_some]
    exact hb x (List.mem_of_getElem? h)
theorem ofNat_inj8 {i j : Nat} (hi : i < 256) (hj : j < 256) (h : UInt8.ofNat i = UInt8.ofNat j) : i = j := by
  have := congrArg UInt8.toNat h
  rw [UInt8.toNat_ofNat', UInt8.toNat_ofNat'] at this
  omega
theorem begN_nodup (l : List Nat) (n : Nat) (hn : n ≤ 8) : ((begN l n).map (·.key)).Nodup := by
  unfold begN
  rw [List.map_map]
  refine List.Pairwise.map _ ?_ (List.nodup_range.imp_of_mem (R := fun i j => i ≠ j) (S := fun i j => i < 8 ∧ j < 8 ∧ i ≠ j) (fun ha hb h => ?_))
  · intro i j ⟨h1, h2, h3⟩ h
    exact h3 (ofNat_inj8 (by omega) (by omega) (keyD_inj h))
  · rw [List.mem_range] at ha hb
    exact ⟨by omega, by omega, h⟩
theorem begN_mem {l : List Nat} {n : Nat} (hb : ∀ x ∈ l, x < 65536) {e : En} (he : e ∈ begN l n) : 0 ≤ e.money ∧ e.money < 65536 ∧ 0 ≤ e.nonce ∧ e.nonce ≤ 2 := by
  obtain ⟨i, _, rfl⟩ := List.mem_map.1 he
  have := getD_lt hb i
  simp only [bE]
  omega
theorem esum_le {l : List En} (h : ∀ e ∈ l, 0 ≤ e.money ∧ e.money < 65536) : 0 ≤ esum l ∧ esum l ≤ l.length * 65536 := by
  induction l with
  | nil => simp [esum]
  | cons e l ih =>
    rw [esum_cons]
    have h1 := h e (by simp)
    have h2 := ih (fun x hx => h x (by simp [hx]))
    simp only [List.length_cons]
    omega
theorem beg_new {l : List Nat} (hb : ∀ x ∈ l, x < 65536) : newE (begL l) = 0 := by
  have hlen : (begL l).length = min l.length 8 := begN_length _ _
  unfold newE
  rw [if_neg (by omega)]
  have hm : ∀ e ∈ begL l, 0 ≤ e.money ∧ e.money < 65536 ∧ 0 ≤ e.nonce ∧ e.nonce ≤ 2 := fun e he => begN_mem hb he
  have hs := esum_le (l := begL l) (fun e he => ⟨(hm e he).1, (hm e he).2.1⟩)
  refine newGo_ok (fun e he => ?_) (begN_nodup l _ (by omega)) (fun e he => by simp) (by omega)
  have := hm e he
  unfold badR
  omega
/-- The book that is begun with. -/
def begM (l : List Nat) : Bk := puts [] (begL l)
theorem begM_ok {l : List Nat} (hb : ∀ x ∈ l, x < 65536) : Ok (esum (begL l)) 2 (begM l) ∧ (begM l).length ≤ 8 ∧ (∀ k, bal (begM l) k = ofL (begL l) k) ∧ 0 ≤ esum (begL l) ∧ esum (begL l) ≤ 600000 := by
  have hm : ∀ e ∈ begL l, 0 ≤ e.money ∧ e.money < 65536 ∧ 0 ≤ e.nonce ∧ e.nonce ≤ 2 := fun e he => begN_mem hb he
  have hs := esum_le (l := begL l) (fun e he => ⟨(hm e he).1, (hm e he).2.1⟩)
  have hlen : (begL l).length = min l.length 8 := begN_length _ _
  obtain ⟨a1, a2, a3, _⟩ := puts_new (beg_new hb) (N := 2) (fun e he => (hm e he).2.2.2)
  exact ⟨a1, by show (puts [] (begL l)).length ≤ 8; omega, a3, hs.1, by omega⟩

attribute [local irreducible] CG NG SG Vals Der Row Blk MapIs IterAt DerX
set_option maxHeartbeats 32000000 in
theorem begin_spec {w : World} {a : Option Addr} {l : List Nat} (c : Nat) (h : SlU w a l) (hb : ∀ x ∈ l, x < 65536) : Calls Try.prog 11 #[.slice a l.length c] w (fun e w' => ∃ bt bm v, e = .returned (.tuple #[.pointer (some ⟨bt, 0, none⟩), v]) ∧ BookAt w' bt bm (begM l) ∧ w.heap.size ≤ bt ∧ w.heap.size ≤ bm ∧ w'.ownsRow w.heap.size 62 10 v (begL l).length (flt ec (begL l)) ∧ Kp [] w w') := by
  refine enter1 Try.func11 rfl Try.ntmps11 rfl ?_
  repeat (first|apply CG.seq|apply CG.region|apply SG.nil|apply NG.next|apply CG.skip|apply CG.block|apply CG.ret|apply CG.exit|apply CG.scope|apply NG.ret_then|apply NG.ret_block|apply NG.ret_scope|apply NG.exit_then|refine NG.exit_block rfl ?_|refine NG.exit_other rfl ?_|apply NG.exit_scope|apply NG.normal_block|apply NG.normal_scope|refine SG.val rfl rfl rfl rfl (by first|((first|apply qmv|apply qas|apply qlc|apply qla|apply qfa|apply qnc|apply qic|apply qix|apply qpk|apply qls|apply qei|apply qni|apply qed|apply qnd|apply qad|apply qln|apply qle|apply qgt|apply qge|apply qlk|apply qlv|apply qxt|apply qsb|apply qnt|apply qep|apply qnp|apply qeb|apply qnb|apply qx2|apply qx4|apply qcv|apply qlm|apply qfr|apply qto|apply qmx|apply qen|apply qsn|apply qx8|apply qx7|apply qx6|apply qx5|apply qx4|apply qx3|apply qx2|apply qx1|apply qx0)<;>(first|exact rfl|exact Ar.mk (by omega)|assumption|exact dct (by assumption)|exact dcf (by assumption)|exact dct (by omega)|exact dcf (by omega)|exact List.not_mem_nil|exact dc_length _|exact nc_length _|exact rc_length _ _ _|exact ec_length _|exact nm1 (by omega)|exact nm2 (by omega) (by omega)|exact dct rfl|exact dct (by decide)|exact dcf (by decide)|exact (Int.toNat_of_nonneg (by omega)).symm|exact dcu|exact lk1 (by assumption)|exact lk0 (by assumption)|exact lkb|fail))|fail) ?_)
  refine CG.loop (X := Nat × Value) (fun q => [(0, .slice a l.length c), (4, q.2), (5, .int .i64 (q.1 : Int))])
    (fun q w' => q.1 ≤ min l.length 8 ∧ Kp [] w w' ∧ w'.ownsRow w.heap.size 49 10 q.2 q.1 (flt ec (begN l q.1)))
    (fun q => 8 - q.1) (0, .slice none 0 0) ⟨Nat.zero_le _, Kp.refl _ _, rfl, Or.inl ⟨rfl, rfl⟩⟩ (by (repeat' (first | exact True.intro | exact rfl | refine And.intro ?_ ?_))) ?_
  rintro ⟨i, v⟩ w1 ⟨hi, hk, hown⟩
  simp only at hi hown
  refine CG.to [(0, .slice a l.length c), (4, v), (5, .int .i64 (i : Int))] (by (repeat' (first | exact True.intro | exact rfl | refine And.intro ?_ ?_))) ?_
  by_cases hlt : i < min l.length 8
  case neg =>
    have ei : i = min l.length 8 := by omega
    have hcase : ¬ (i : Int) < (l.length : Int) ∨ ((i : Int) < (l.length : Int) ∧ ¬ (i : Int) < 8) := by omega
    have hown : w1.ownsRow w.heap.size 49 10 v (begL l).length (flt ec (begL l)) := by
      unfold begL
      rw [begN_length, ← ei]
      exact hown
    obtain ⟨a1, c1, rfl, hS1⟩ := SlF.own ec_length hown rfl
    have hlen : (begL l).length ≤ 8 := by unfold begL; rw [begN_length]; omega
    have s1 := hk.size
    rcases hcase with g1 | ⟨g1, g2⟩
    all_goals
      repeat (first | first|apply CG.seq|apply CG.region|apply SG.nil|apply NG.next|apply CG.skip|apply CG.block|apply CG.ret|apply CG.exit|apply CG.scope|apply NG.ret_then|apply NG.ret_block|apply NG.ret_scope|apply NG.exit_then|refine NG.exit_block rfl ?_|refine NG.exit_other rfl ?_|apply NG.exit_scope|apply NG.normal_block|apply NG.normal_scope|refine SG.val rfl rfl rfl rfl (by first|((first|apply qmv|apply qas|apply qlc|apply qla|apply qfa|apply qnc|apply qic|apply qix|apply qpk|apply qls|apply qei|apply qni|apply qed|apply qnd|apply qad|apply qln|apply qle|apply qgt|apply qge|apply qlk|apply qlv|apply qxt|apply qsb|apply qnt|apply qep|apply qnp|apply qeb|apply qnb|apply qx2|apply qx4|apply qcv|apply qlm|apply qfr|apply qto|apply qmx|apply qen|apply qsn|apply qx8|apply qx7|apply qx6|apply qx5|apply qx4|apply qx3|apply qx2|apply qx1|apply qx0)<;>(first|exact rfl|exact Ar.mk (by omega)|assumption|exact dct (by assumption)|exact dcf (by assumption)|exact dct (by omega)|exact dcf (by omega)|exact List.not_mem_nil|exact dc_length _|exact nc_length _|exact rc_length _ _ _|exact ec_length _|exact nm1 (by omega)|exact nm2 (by omega) (by omega)|exact dct rfl|exact dct (by decide)|exact dcf (by decide)|exact (Int.toNat_of_nonneg (by omega)).symm|exact dcu|exact lk1 (by assumption)|exact lk0 (by assumption)|exact lkb|fail))|fail) ?_ | refine SG.skip rfl rfl ?_)
      refine CG.cond_f rfl (by exact rho_of rfl) rfl ?_
      repeat (first|apply CG.seq|apply CG.region|apply SG.nil|apply NG.next|apply CG.skip|apply CG.block|apply CG.ret|apply CG.exit|apply CG.scope|apply NG.ret_then|apply NG.ret_block|apply NG.ret_scope|apply NG.exit_then|refine NG.exit_block rfl ?_|refine NG.exit_other rfl ?_|apply NG.exit_scope|apply NG.normal_block|apply NG.normal_scope|refine SG.val rfl rfl rfl rfl (by first|((first|apply qmv|apply qas|apply qlc|apply qla|apply qfa|apply qnc|apply qic|apply qix|apply qpk|apply qls|apply qei|apply qni|apply qed|apply qnd|apply qad|apply qln|apply qle|apply qgt|apply qge|apply qlk|apply qlv|apply qxt|apply qsb|apply qnt|apply qep|apply qnp|apply qeb|apply qnb|apply qx2|apply qx4|apply qcv|apply qlm|apply qfr|apply qto|apply qmx|apply qen|apply qsn|apply qx8|apply qx7|apply qx6|apply qx5|apply qx4|apply qx3|apply qx2|apply qx1|apply qx0)<;>(first|exact rfl|exact Ar.mk (by omega)|assumption|exact dct (by assumption)|exact dcf (by assumption)|exact dct (by omega)|exact dcf (by omega)|exact List.not_mem_nil|exact dc_length _|exact nc_length _|exact rc_length _ _ _|exact ec_length _|exact nm1 (by omega)|exact nm2 (by omega) (by omega)|exact dct rfl|exact dct (by decide)|exact dcf (by decide)|exact (Int.toNat_of_nonneg (by omega)).symm|exact dcu|exact lk1 (by assumption)|exact lk0 (by assumption)|exact lkb|fail))|fail) ?_)
      refine SG.call rfl rfl rfl (by repeat' (first | exact True.intro | exact rho_of rfl | refine And.intro ?_ ?_)) ((new_spec c1 hS1.sl (by omega)).mono (fun e w2 hh => ?_))
      obtain ⟨hk2, ⟨h, _⟩ | ⟨_, bt, bm, he, hB, hbt, hbm⟩⟩ := hh
      · exact absurd (beg_new hb) h
      refine ⟨_, he, ?_⟩
      repeat (first|apply CG.seq|apply CG.region|apply SG.nil|apply NG.next|apply CG.skip|apply CG.block|apply CG.ret|apply CG.exit|apply CG.scope|apply NG.ret_then|apply NG.ret_block|apply NG.ret_scope|apply NG.exit_then|refine NG.exit_block rfl ?_|refine NG.exit_other rfl ?_|apply NG.exit_scope|apply NG.normal_block|apply NG.normal_scope|refine SG.val rfl rfl rfl rfl (by first|((first|apply qmv|apply qas|apply qlc|apply qla|apply qfa|apply qnc|apply qic|apply qix|apply qpk|apply qls|apply qei|apply qni|apply qed|apply qnd|apply qad|apply qln|apply qle|apply qgt|apply qge|apply qlk|apply qlv|apply qxt|apply qsb|apply qnt|apply qep|apply qnp|apply qeb|apply qnb|apply qx2|apply qx4|apply qcv|apply qlm|apply qfr|apply qto|apply qmx|apply qen|apply qsn|apply qx8|apply qx7|apply qx6|apply qx5|apply qx4|apply qx3|apply qx2|apply qx1|apply qx0)<;>(first|exact rfl|exact Ar.mk (by omega)|assumption|exact dct (by assumption)|exact dcf (by assumption)|exact dct (by omega)|exact dcf (by omega)|exact List.not_mem_nil|exact dc_length _|exact nc_length _|exact rc_length _ _ _|exact ec_length _|exact nm1 (by omega)|exact nm2 (by omega) (by omega)|exact dct rfl|exact dct (by decide)|exact dcf (by decide)|exact (Int.toNat_of_nonneg (by omega)).symm|exact dcu|exact lk1 (by assumption)|exact lk0 (by assumption)|exact lkb|fail))|fail) ?_)
      refine SG.call rfl rfl rfl (by repeat' (first | exact True.intro | exact rho_of rfl | refine And.intro ?_ ?_)) ((plain_spec c1 (hS1.sl.kp0 hk2) (by omega)).mono (fun e w3 hh => ?_))
      obtain ⟨v3, he3, ho3, hk3⟩ := hh
      refine ⟨_, he3, ?_⟩
      have s2 := hk2.size
      repeat (first|apply CG.seq|apply CG.region|apply SG.nil|apply NG.next|apply CG.skip|apply CG.block|apply CG.ret|apply CG.exit|apply CG.scope|apply NG.ret_then|apply NG.ret_block|apply NG.ret_scope|apply NG.exit_then|refine NG.exit_block rfl ?_|refine NG.exit_other rfl ?_|apply NG.exit_scope|apply NG.normal_block|apply NG.normal_scope|refine SG.val rfl rfl rfl rfl (by first|((first|apply qmv|apply qas|apply qlc|apply qla|apply qfa|apply qnc|apply qic|apply qix|apply qpk|apply qls|apply qei|apply qni|apply qed|apply qnd|apply qad|apply qln|apply qle|apply qgt|apply qge|apply qlk|apply qlv|apply qxt|apply qsb|apply qnt|apply qep|apply qnp|apply qeb|apply qnb|apply qx2|apply qx4|apply qcv|apply qlm|apply qfr|apply qto|apply qmx|apply qen|apply qsn|apply qx8|apply qx7|apply qx6|apply qx5|apply qx4|apply qx3|apply qx2|apply qx1|apply qx0)<;>(first|exact rfl|exact Ar.mk (by omega)|assumption|exact dct (by assumption)|exact dcf (by assumption)|exact dct (by omega)|exact dcf (by omega)|exact List.not_mem_nil|exact dc_length _|exact nc_length _|exact rc_length _ _ _|exact ec_length _|exact nm1 (by omega)|exact nm2 (by omega) (by omega)|exact dct rfl|exact dct (by decide)|exact dcf (by decide)|exact (Int.toNat_of_nonneg (by omega)).symm|exact dcu|exact lk1 (by assumption)|exact lk0 (by assumption)|exact lkb|fail))|fail) ?_)
      refine ret2 (Or.inl rfl) Try.results11 (by first | exact ResV.tmp rfl | exact ResV.agg rfl rfl (by assumption) (by first | exact dc_length _ | exact nc_length _ | exact rc_length _ _ _ | exact ec_length _ | rfl) | exact ResV.cell rfl rfl (by assumption)) (by first | exact ResV.tmp rfl | exact ResV.agg rfl rfl (by assumption) (by first | exact dc_length _ | exact nc_length _ | exact rc_length _ _ _ | exact ec_length _ | rfl) | exact ResV.cell rfl rfl (by assumption)) ?_
      exact ⟨bt, bm, v3, rfl, hB.kp0 hk3, by omega, by omega, own_mono ho3 (by omega), (hk.trans hk2).trans hk3⟩
  have g1 : (i : Int) < (l.length : Int) := by omega
  have g2 : (i : Int) < 8 := by omega
  obtain ⟨ba, oa, rfl, hr⟩ := (h.kp0 hk).at (show i < l.length by omega)
  have hx : l[i]'(by omega) = l.getD i 0 := by simp [List.getD_eq_getElem?_getD, show i < l.length by omega]
  have hrb := getD_lt hb i
  rw [hx] at hr
  obtain ⟨x, hxx⟩ : ∃ x, x = l.getD i 0 := ⟨_, rfl⟩
  rw [← hxx] at hr hrb
  have hbE : bE l i = ⟨keyD (UInt8.ofNat i), (x : Int), (x : Int) % 3⟩ := by unfold bE; rw [← hxx]
  have g3 : 0 ≤ (x : Int) ∧ (x : Int) < 65536 := by omega
  have hr : Row w1 ba (oa + i * 1) [.int .u16 (x : Int)] := hr
  repeat (first|apply CG.seq|apply CG.region|apply SG.nil|apply NG.next|apply CG.skip|apply CG.block|apply CG.ret|apply CG.exit|apply CG.scope|apply NG.ret_then|apply NG.ret_block|apply NG.ret_scope|apply NG.exit_then|refine NG.exit_block rfl ?_|refine NG.exit_other rfl ?_|apply NG.exit_scope|apply NG.normal_block|apply NG.normal_scope|refine SG.val rfl rfl rfl rfl (by first|((first|apply qmv|apply qas|apply qlc|apply qla|apply qfa|apply qnc|apply qic|apply qix|apply qpk|apply qls|apply qei|apply qni|apply qed|apply qnd|apply qad|apply qln|apply qle|apply qgt|apply qge|apply qlk|apply qlv|apply qxt|apply qsb|apply qnt|apply qep|apply qnp|apply qeb|apply qnb|apply qx2|apply qx4|apply qcv|apply qlm|apply qfr|apply qto|apply qmx|apply qen|apply qsn|apply qx8|apply qx7|apply qx6|apply qx5|apply qx4|apply qx3|apply qx2|apply qx1|apply qx0)<;>(first|exact rfl|exact Ar.mk (by omega)|assumption|exact dct (by assumption)|exact dcf (by assumption)|exact dct (by omega)|exact dcf (by omega)|exact List.not_mem_nil|exact dc_length _|exact nc_length _|exact rc_length _ _ _|exact ec_length _|exact nm1 (by omega)|exact nm2 (by omega) (by omega)|exact dct rfl|exact dct (by decide)|exact dcf (by decide)|exact (Int.toNat_of_nonneg (by omega)).symm|exact dcu|exact lk1 (by assumption)|exact lk0 (by assumption)|exact lkb|fail))|fail) ?_)
  refine CG.cond_t rfl (by exact rho_of rfl) rfl ?_
  repeat (first|apply CG.seq|apply CG.region|apply SG.nil|apply NG.next|apply CG.skip|apply CG.block|apply CG.ret|apply CG.exit|apply CG.scope|apply NG.ret_then|apply NG.ret_block|apply NG.ret_scope|apply NG.exit_then|refine NG.exit_block rfl ?_|refine NG.exit_other rfl ?_|apply NG.exit_scope|apply NG.normal_block|apply NG.normal_scope|refine SG.val rfl rfl rfl rfl (by first|((first|apply qmv|apply qas|apply qlc|apply qla|apply qfa|apply qnc|apply qic|apply qix|apply qpk|apply qls|apply qei|apply qni|apply qed|apply qnd|apply qad|apply qln|apply qle|apply qgt|apply qge|apply qlk|apply qlv|apply qxt|apply qsb|apply qnt|apply qep|apply qnp|apply qeb|apply qnb|apply qx2|apply qx4|apply qcv|apply qlm|apply qfr|apply qto|apply qmx|apply qen|apply qsn|apply qx8|apply qx7|apply qx6|apply qx5|apply qx4|apply qx3|apply qx2|apply qx1|apply qx0)<;>(first|exact rfl|exact Ar.mk (by omega)|assumption|exact dct (by assumption)|exact dcf (by assumption)|exact dct (by omega)|exact dcf (by omega)|exact List.not_mem_nil|exact dc_length _|exact nc_length _|exact rc_length _ _ _|exact ec_length _|exact nm1 (by omega)|exact nm2 (by omega) (by omega)|exact dct rfl|exact dct (by decide)|exact dcf (by decide)|exact (Int.toNat_of_nonneg (by omega)).symm|exact dcu|exact lk1 (by assumption)|exact lk0 (by assumption)|exact lkb|fail))|fail) ?_)
  refine CG.free mixed 17 [0, 1, 2, 3, 4, 5, 6, 7, 8, 9, 10, 11, 12, 13, 14, 15, 16] [(16, gS w1.heap.size ec 10 [bE l i])] (by kernel_rfl) (by intro p hp y; simp at hp; rcases hp with rfl; exact gS_stab y) ?_
  repeat (refine DerX.val rfl rfl rfl rfl (by first|((first|apply qmv|apply qas|apply qlc|apply qla|apply qfa|apply qnc|apply qic|apply qix|apply qpk|apply qls|apply qei|apply qni|apply qed|apply qnd|apply qad|apply qln|apply qle|apply qgt|apply qge|apply qlk|apply qlv|apply qxt|apply qsb|apply qnt|apply qep|apply qnp|apply qeb|apply qnb|apply qx2|apply qx4|apply qcv|apply qlm|apply qfr|apply qto|apply qmx|apply qen|apply qsn|apply qx8|apply qx7|apply qx6|apply qx5|apply qx4|apply qx3|apply qx2|apply qx1|apply qx0)<;>(first|exact rfl|exact Ar.mk (by omega)|assumption|exact dct (by assumption)|exact dcf (by assumption)|exact dct (by omega)|exact dcf (by omega)|exact List.not_mem_nil|exact dc_length _|exact nc_length _|exact rc_length _ _ _|exact ec_length _|exact nm1 (by omega)|exact nm2 (by omega) (by omega)|exact dct rfl|exact dct (by decide)|exact dcf (by decide)|exact (Int.toNat_of_nonneg (by omega)).symm|exact dcu|exact lk1 (by assumption)|exact lk0 (by assumption)|exact lkb|fail))|fail) ?_)
  refine DerX.call rfl rfl rfl rfl (vs := [bv (UInt8.ofNat i)]) ⟨by rw [← bv_ofNat (by omega)]; rfl, True.intro⟩ (fun w hk _ => key_spec _ w) ?_
  repeat (refine DerX.val rfl rfl rfl rfl (by first|((first|apply qmv|apply qas|apply qlc|apply qla|apply qfa|apply qnc|apply qic|apply qix|apply qpk|apply qls|apply qei|apply qni|apply qed|apply qnd|apply qad|apply qln|apply qle|apply qgt|apply qge|apply qlk|apply qlv|apply qxt|apply qsb|apply qnt|apply qep|apply qnp|apply qeb|apply qnb|apply qx2|apply qx4|apply qcv|apply qlm|apply qfr|apply qto|apply qmx|apply qen|apply qsn|apply qx8|apply qx7|apply qx6|apply qx5|apply qx4|apply qx3|apply qx2|apply qx1|apply qx0)<;>(first|exact rfl|exact Ar.mk (by omega)|assumption|exact dct (by assumption)|exact dcf (by assumption)|exact dct (by omega)|exact dcf (by omega)|exact List.not_mem_nil|exact dc_length _|exact nc_length _|exact rc_length _ _ _|exact ec_length _|exact nm1 (by omega)|exact nm2 (by omega) (by omega)|exact dct rfl|exact dct (by decide)|exact dcf (by decide)|exact (Int.toNat_of_nonneg (by omega)).symm|exact dcu|exact lk1 (by assumption)|exact lk0 (by assumption)|exact lkb|fail))|fail) ?_)
  refine DerX.val rfl rfl rfl rfl (vals_build rfl (fun w => build49 w (keyD (UInt8.ofNat i)) (x : Int) ((x : Int) % 3))) ?_
  refine DerX.buildSlice [bE l i] ec_length rfl rfl rfl rfl rfl rfl (Nat.le_refl _) (fun w => by rw [flt_one, hbE]; exact bs35 _ w) (fun a9 c9 => ?_)
  refine DerX.tl (fun w2 hk2 hF => ?_)
  have hS9 : SlF w1.heap.size ec 10 w2 a9 c9 [bE l i] := hF _ (.head _)
  obtain ⟨b9, o9, rfl, hr9⟩ := hS9.sl.at (i := 0) (by simp)
  have hr9 : Row w2 b9 o9 (ec (bE l i)) := by simpa using hr9
  have s1 := hk.size
  have s2 := hk2.size
  refine SG.append rfl rfl rfl (by exact rho_of rfl) (by exact rho_of rfl) rfl rfl rfl (own_kp0 hown hk2) hr9 (by first | exact dc_length _ | exact nc_length _ | exact rc_length _ _ _ | exact ec_length _ | rfl) (by first | exact dc_one _ | exact nc_one _ | exact rc_one _ _ _ | exact ec_one _ | rfl) (by simp only [maxLen]; simp; omega) (by show (i + [bE l i].length) * 24 ≤ _; simp; omega) (by omega) (fun v' w3 hk3 hown3 => ?_)
  repeat (first|apply CG.seq|apply CG.region|apply SG.nil|apply NG.next|apply CG.skip|apply CG.block|apply CG.ret|apply CG.exit|apply CG.scope|apply NG.ret_then|apply NG.ret_block|apply NG.ret_scope|apply NG.exit_then|refine NG.exit_block rfl ?_|refine NG.exit_other rfl ?_|apply NG.exit_scope|apply NG.normal_block|apply NG.normal_scope|refine SG.val rfl rfl rfl rfl (by first|((first|apply qmv|apply qas|apply qlc|apply qla|apply qfa|apply qnc|apply qic|apply qix|apply qpk|apply qls|apply qei|apply qni|apply qed|apply qnd|apply qad|apply qln|apply qle|apply qgt|apply qge|apply qlk|apply qlv|apply qxt|apply qsb|apply qnt|apply qep|apply qnp|apply qeb|apply qnb|apply qx2|apply qx4|apply qcv|apply qlm|apply qfr|apply qto|apply qmx|apply qen|apply qsn|apply qx8|apply qx7|apply qx6|apply qx5|apply qx4|apply qx3|apply qx2|apply qx1|apply qx0)<;>(first|exact rfl|exact Ar.mk (by omega)|assumption|exact dct (by assumption)|exact dcf (by assumption)|exact dct (by omega)|exact dcf (by omega)|exact List.not_mem_nil|exact dc_length _|exact nc_length _|exact rc_length _ _ _|exact ec_length _|exact nm1 (by omega)|exact nm2 (by omega) (by omega)|exact dct rfl|exact dct (by decide)|exact dcf (by decide)|exact (Int.toNat_of_nonneg (by omega)).symm|exact dcu|exact lk1 (by assumption)|exact lk0 (by assumption)|exact lkb|fail))|fail) ?_)
  refine NG.round (i + 1, v') (by (repeat' (first | exact True.intro | exact rfl | refine And.intro ?_ ?_))) ⟨by simp only; omega, (hk.trans hk2).trans_new hk3 (own_new hown (Nat.le_refl _)), ?_⟩ (by simp only; omega)
  simp only
  rw [begN_succ, flt_append, flt_one]
  exact hown3
end Go.Proofs.Ytkkfppfpbobghaa
/-
  What is done: in memory.
-/
namespace Go.Proofs.Ytkkfppfpbobghaa
set_option linter.unusedVariables false
abbrev inc (z : Int) : List Value := [.int .i64 z]
abbrev SlI (w : World) (a : Option Addr) (l : List Int) : Prop := Sl inc 1 w a l
/-- Something that is done. -/
structure Oq where
  kind : Int
  A : UInt8
  B : UInt8
  N : Int
def oq (o : Oq) : List Value := [.int .i64 o.kind, bv o.A, bv o.B, .int .i64 o.N]
theorem oq_length (o : Oq) : (oq o).length = 4 := rfl
def Oq.Fit (o : Oq) : Prop := (-9223372036854775808 ≤ o.kind ∧ o.kind ≤ 9223372036854775807) ∧ (-9223372036854775808 ≤ o.N ∧ o.N ≤ 9223372036854775807)
abbrev SlO (w : World) (a : Option Addr) (l : List Oq) : Prop := Sl oq 4 w a l
theorem oq_sub {w : World} {b o : Nat} {x : Oq} (h : Row w b o (oq x)) : Row w b o [.int .i64 x.kind] ∧ Row w b (o + 1) [bv x.A] ∧ Row w b (o + 2) [bv x.B] ∧ Row w b (o + 3) [.int .i64 x.N] :=
  ⟨h.sub [] [.int .i64 x.kind] [bv x.A, bv x.B, .int .i64 x.N] rfl, h.sub [.int .i64 x.kind] [bv x.A] [bv x.B, .int .i64 x.N] rfl, h.sub [.int .i64 x.kind, bv x.A] [bv x.B] [.int .i64 x.N] rfl, h.sub [.int .i64 x.kind, bv x.A, bv x.B] [.int .i64 x.N] [] rfl⟩
/-- A cut: what is known behind c, where B goes on. -/
theorem CG.cut_then {P : Program} {n : Nat} {Q Q' : Exit → Act → World → Prop} {L : Env} {w : World} {c B : Code} (M : Env → World → Prop) (h : CG P n c (Exit.then (fun a w => ∃ L, Fits n a L ∧ M L w) Q') L w) (h2 : ∀ L w, M L w → CG P n B Q L w) : CG P n c (Exit.then (B.wp P Q) Q') L w := by
  refine fun a ha => wp_mono (h a ha) (fun e a w hq => ?_)
  cases e <;> first | exact hq | (obtain ⟨L, h1, h2'⟩ := hq; exact h2 L w h2' a h1)
/-- The rest by a number above 0, of any int. -/
theorem vals_rem {P : Program} {S : List Nat} {w0 : World} {F : World → Prop} {L : Env} {d : Option Nat} {ty : TypeId} {pos : String} {af : Array Edge} {g : Option (Nat × Bool)} {T T' : TypeId} {x y : Operand} {a b : Int} (hx : ro L x = some (.int .i64 a)) (hy : ro L y = some (.int .i64 b)) (h : 0 < b) :
    Vals P S w0 F L ⟨d, .binOp .rem T x y T', ty, pos, af, g⟩ (.int .i64 (a.tmod b)) := fun w _ _ => by
  have hb : b ≠ 0 := by omega
  simp [execOp, rho_of hx, rho_of hy, eqGuard, binOp, Op.intDiv, hb]
/-- What is done makes of a book .. -/
def Oq.mv (o : Oq) : Prop := o.kind.tmod 2 = 0
instance (o : Oq) : Decidable o.mv := by unfold Oq.mv; infer_instance
def doM (m : Bk) (o : Oq) : Bk := if o.mv then mvM m (keyD o.A) (keyD o.B) o.N else usM m (keyD o.A) o.N
def doE (m : Bk) (o : Oq) : Int := if o.mv then mvE m (keyD o.A) o.N else usE m (keyD o.A) o.N
theorem Ok.do {T N : Int} {m : Bk} (h : Ok T N m) (hN : 0 ≤ N) (o : Oq) : Ok T (N + 1) (doM m o) := by
  unfold doM
  split
  · exact (h.move hN _ _ _).wide (by omega)
  · exact h.use hN _ _
theorem length_do (m : Bk) (o : Oq) : (doM m o).length ≤ m.length + 2 := by
  unfold doM
  split
  · exact length_move _ _ _ _
  · exact length_use _ _ _
theorem esum_perm {l l' : List En} (hp : l.Perm l') : esum l = esum l' := by
  induction hp with
  | nil => rfl
  | cons x _ ih => rw [esum_cons, esum_cons, ih]
  | swap x y l => rw [esum_cons, esum_cons, esum_cons, esum_cons]; omega
  | trans _ _ a b => exact a.trans b
theorem esum_enE (m : Bk) : esum (m.map enE) = tot m := by
  induction m with
  | nil => rfl
  | cons p m ih => rw [List.map_cons, esum_cons, tot_cons, ih]; rfl
theorem esum_append (a b : List En) : esum (a ++ b) = esum a + esum b := by simp [esum]
theorem esum_nonneg {l : List En} (h : ∀ e ∈ l, 0 ≤ e.money) : 0 ≤ esum l := by
  induction l with
  | nil => simp [esum]
  | cons e l ih =>
    rw [esum_cons]
    have := h e (by simp)
    have := ih (fun x hx => h x (by simp [hx]))
    omega
end Go.Proofs.Ytkkfppfpbobghaa
/-
  The rows' own: how what comes is read.
-/
namespace Go.Proofs.Ytkkfppfpbobghaa
open Go.ChangeShapes Go.WideShapes Go.ChangeAt Go.RowKit
set_option linter.unusedVariables false

theorem own : ownKnob Try.prog.godebug = none := by kernel_rfl
theorem laidOut : laidOutB Try.prog = true := by kernel_rfl
theorem cells5 : Try.prog.cellsOf 5 = 1 := by kernel_rfl
theorem cells3 : Try.prog.cellsOf 3 = 1 := by kernel_rfl

/-- The elements of a slice, by how one is read. -/
theorem elems_of {H α : Type} {en : TypeId × Value → H} {P : Program} {w : World} {e : TypeId} {a : Option Addr} {n : Nat} (enc : α → List Value) (p : α → Prop) (h : SlOf en P w e a n)
    (rd : ∀ cs fuel y, DataW.trod en P w 0 (fun _ => true) true fuel e cs = some y → ∃ x : α, cs = enc x ∧ p x) : ∃ l : List α, l.length = n ∧ Sl enc (P.cellsOf e) w a l ∧ ∀ x ∈ l, p x := by
  have key : ∀ i : _root_.Fin n, ∃ x : α, (∃ b off, a = some ⟨b, off, none⟩ ∧ Row w b (off + i.1 * P.cellsOf e) (enc x)) ∧ p x := by
    intro i
    obtain ⟨b, off, cs, fuel, y, h1, h2, h3, h4⟩ := h.row i.1 i.2
    obtain ⟨x, rfl, hp⟩ := rd cs fuel y h4
    exact ⟨x, ⟨b, off, h1, h2⟩, hp⟩
  refine ⟨List.ofFn (fun i => Classical.choose (key i)), by simp, fun i x hx => ?_, fun x hx => ?_⟩
  · rw [List.getElem?_ofFn] at hx
    split at hx
    · rename_i hi
      cases hx
      exact (Classical.choose_spec (key ⟨i, hi⟩)).1
    · cases hx
  · obtain ⟨i, rfl⟩ := List.mem_ofFn.1 hx
    exact (Classical.choose_spec (key i)).2
theorem bytes_of {H : Type} {enc : TypeId × Value → H} {w : World} {a : Option Addr} {n : Nat} (h : SlOf enc Try.prog w 5 a n) : ∃ l : List UInt8, l.length = n ∧ Sl (fun u => [bv u]) 1 w a l := by
  obtain ⟨l, h1, h2, _⟩ := elems_of (fun u : UInt8 => [bv u]) (fun _ => True) h (fun cs fuel y hy => by
    obtain ⟨u, hu⟩ := one_byte Try.underlying5 hy
    exact ⟨u, hu, trivial⟩)
  rw [cells5] at h2
  exact ⟨l, h1, h2⟩
theorem ints_of {H : Type} {enc : TypeId × Value → H} {w : World} {a : Option Addr} {n : Nat} (h : SlOf enc Try.prog w 3 a n) : ∃ l : List Int, l.length = n ∧ Sl inc 1 w a l ∧ ∀ x ∈ l, -9223372036854775808 ≤ x ∧ x ≤ 9223372036854775807 := by
  obtain ⟨l, h1, h2, h3⟩ := elems_of inc (fun x => -9223372036854775808 ≤ x ∧ x ≤ 9223372036854775807) h (fun cs fuel y hy => by
    obtain ⟨n0, e0, _, w0⟩ := DataW.trod_int Try.underlying3 hy
    exact ⟨n0, e0, i64_of w0⟩)
  rw [cells3] at h2
  exact ⟨l, h1, h2, h3⟩
theorem cells41 : Try.prog.cellsOf 41 = 1 := by kernel_rfl
theorem cells32 : Try.prog.cellsOf 32 = 4 := by kernel_rfl
theorem u16_of {n : Int} (h : (Lit.int .u16 n).wf = true) : 0 ≤ n ∧ n ≤ 65535 := by
  simpa [Lit.wf, IntKind.min, IntKind.max, IntKind.signed, IntKind.bits] using h
theorem u16s_of {H : Type} {enc : TypeId × Value → H} {w : World} {a : Option Addr} {n : Nat} (h : SlOf enc Try.prog w 41 a n) : ∃ l : List Nat, l.length = n ∧ SlU w a l ∧ ∀ x ∈ l, x < 65536 := by
  obtain ⟨l, h1, h2, h3⟩ := elems_of uc (fun x => x < 65536) h (fun cs fuel y hy => by
    obtain ⟨n0, e0, _, w0⟩ := DataW.trod_int Try.underlying41 hy
    have := u16_of w0
    refine ⟨n0.toNat, ?_, by omega⟩
    rw [e0]
    show _ = [Value.int .u16 ((n0.toNat : Nat) : Int)]
    rw [Int.toNat_of_nonneg this.1])
  rw [cells41] at h2
  exact ⟨l, h1, h2, h3⟩
set_option maxRecDepth 100000 in
theorem opc_of {H : Type} {enc : TypeId × Value → H} {w : World} {cs : List Value} {fuel : Nat} {y : DataW H × List MemPlace} (h : DataW.trod enc Try.prog w 0 (fun _ => true) true fuel 32 cs = some y) : ∃ o : Oq, cs = oq o ∧ o.Fit := by
  obtain ⟨xs, m, _, _, hl, hlen, hf⟩ := DataW.trod_struct Try.underlying32 h
  rw [cells32] at hl
  match cs, hl, xs, hlen with
  | [x0, x1, x2, x3], _, [y0, y1, y2, y3], _ =>
    have h0 : DataW.trod enc Try.prog w 0 (fun _ => true) true m 3 (([x0, x1, x2, x3].drop 0).take (Try.prog.cellsOf 3)) = some y0 := hf 0 _ rfl
    rw [cells3] at h0
    have h1 : DataW.trod enc Try.prog w 0 (fun _ => true) true m 5 (([x0, x1, x2, x3].drop 1).take (Try.prog.cellsOf 5)) = some y1 := hf 1 _ rfl
    rw [cells5] at h1
    have h2 : DataW.trod enc Try.prog w 0 (fun _ => true) true m 5 (([x0, x1, x2, x3].drop 2).take (Try.prog.cellsOf 5)) = some y2 := hf 2 _ rfl
    rw [cells5] at h2
    have h3 : DataW.trod enc Try.prog w 0 (fun _ => true) true m 3 (([x0, x1, x2, x3].drop 3).take (Try.prog.cellsOf 3)) = some y3 := hf 3 _ rfl
    rw [cells3] at h3
    obtain ⟨n0, e0, _, w0⟩ := DataW.trod_int Try.underlying3 h0
    obtain ⟨u1, e1⟩ := one_byte Try.underlying5 h1
    obtain ⟨u2, e2⟩ := one_byte Try.underlying5 h2
    obtain ⟨n3, e3, _, w3⟩ := DataW.trod_int Try.underlying3 h3
    refine ⟨⟨n0, u1, u2, n3⟩, ?_, i64_of w0, i64_of w3⟩
    have e0 : [x0] = [.int .i64 n0] := e0
    have e1 : [x1] = [bv u1] := e1
    have e2 : [x2] = [bv u2] := e2
    have e3 : [x3] = [.int .i64 n3] := e3
    rw [List.cons.injEq] at e0 e1 e2 e3
    rw [e0.1, e1.1, e2.1, e3.1]
    rfl
theorem ops_of {H : Type} {enc : TypeId × Value → H} {w : World} {a : Option Addr} {n : Nat} (h : SlOf enc Try.prog w 32 a n) : ∃ l : List Oq, l.length = n ∧ SlO w a l ∧ ∀ o ∈ l, o.Fit := by
  obtain ⟨l, h1, h2, h3⟩ := elems_of oq Oq.Fit h (fun cs fuel y hy => opc_of hy)
  rw [cells32] at h2
  exact ⟨l, h1, h2, h3⟩
theorem op_of {H : Type} {enc : TypeId × Value → H} {w : World} {cs : Array Value} {d : DataW H} {ps : List MemPlace} (h : DataW.Trod enc Try.prog w 0 (fun _ => true) true 32 (.agg cs) d ps) : ∃ o : Oq, cs = (oq o).toArray ∧ o.Fit := by
  obtain ⟨fuel, hf⟩ := h
  obtain ⟨o, e, hF⟩ := opc_of hf
  refine ⟨o, ?_, hF⟩
  have : cs.toList = oq o := by simpa [Value.cells] using e
  exact Array.toList_inj.1 (by simpa using this)
end Go.Proofs.Ytkkfppfpbobghaa
/-
  How entries and keys are read.
-/
namespace Go.Proofs.Ytkkfppfpbobghaa
open Go.ChangeShapes Go.WideShapes Go.ChangeAt Go.RowKit
set_option linter.unusedVariables false
theorem cells45 : Try.prog.cellsOf 45 = 8 := by kernel_rfl
theorem cells49 : Try.prog.cellsOf 49 = 10 := by kernel_rfl
set_option maxRecDepth 100000 in
theorem dg_of {H : Type} {enc : TypeId × Value → H} {w : World} {v : Value} {d : DataW H} {ps : List MemPlace} {b0 : Nat} (hval : Value.okWide Try.prog w .any b0 45 v) (h : DataW.Trod enc Try.prog w 0 (fun _ => true) true 45 v d ps) : ∃ x : Dg, v = dv x := by
  simp only [Value.okWide, Try.underlying45] at hval
  obtain ⟨xs, rfl, _⟩ := hval
  obtain ⟨fuel, hf⟩ := h
  obtain ⟨x, hx⟩ := arr_bytes Try.underlying45 Try.underlying5 cells5 cells45 hf
  refine ⟨x, ?_⟩
  have : xs.toList = dc x := by simpa [Value.cells] using hx
  rw [dv, ← this]
def En.I64 (e : En) : Prop := (-9223372036854775808 ≤ e.money ∧ e.money ≤ 9223372036854775807) ∧ (-9223372036854775808 ≤ e.nonce ∧ e.nonce ≤ 9223372036854775807)
set_option maxRecDepth 100000 in
theorem ent_of {H : Type} {enc : TypeId × Value → H} {w : World} {cs : List Value} {fuel : Nat} {y : DataW H × List MemPlace} (h : DataW.trod enc Try.prog w 0 (fun _ => true) true fuel 49 cs = some y) : ∃ e : En, cs = ec e ∧ e.I64 := by
  obtain ⟨xs, m, _, _, hl, hlen, hf⟩ := DataW.trod_struct Try.underlying49 h
  rw [cells49] at hl
  match xs, hlen with
  | [y0, y1, y2], _ =>
    have h0 : DataW.trod enc Try.prog w 0 (fun _ => true) true m 45 ((cs.drop 0).take (Try.prog.cellsOf 45)) = some y0 := hf 0 _ rfl
    rw [cells45] at h0
    have h1 : DataW.trod enc Try.prog w 0 (fun _ => true) true m 3 ((cs.drop 8).take (Try.prog.cellsOf 3)) = some y1 := hf 1 _ rfl
    rw [cells3] at h1
    have h2 : DataW.trod enc Try.prog w 0 (fun _ => true) true m 3 ((cs.drop 9).take (Try.prog.cellsOf 3)) = some y2 := hf 2 _ rfl
    rw [cells3] at h2
    obtain ⟨x, hx⟩ := arr_bytes Try.underlying45 Try.underlying5 cells5 cells45 h0
    obtain ⟨n1, e1, _, w1⟩ := DataW.trod_int Try.underlying3 h1
    obtain ⟨n2, e2, _, w2⟩ := DataW.trod_int Try.underlying3 h2
    refine ⟨⟨x, n1, n2⟩, ?_, i64_of w1, i64_of w2⟩
    have hx : (cs.drop 0).take 8 = dc x := hx
    have e1 : (cs.drop 8).take 1 = [.int .i64 n1] := e1
    have e2 : (cs.drop 9).take 1 = [.int .i64 n2] := e2
    have hs : cs = (cs.drop 0).take 8 ++ ((cs.drop 8).take 1 ++ (cs.drop 9).take 1) := by
      match cs, hl with
      | [a0, a1, a2, a3, a4, a5, a6, a7, a8, a9], _ => rfl
    rw [hs, hx, e1, e2]
    rfl
theorem ents_of {H : Type} {enc : TypeId × Value → H} {w : World} {a : Option Addr} {n : Nat} (h : SlOf enc Try.prog w 49 a n) : ∃ l : List En, l.length = n ∧ SlE w a l ∧ ∀ e ∈ l, e.I64 := by
  obtain ⟨l, h1, h2, h3⟩ := elems_of ec En.I64 h (fun cs fuel y hy => ent_of hy)
  rw [cells49] at h2
  exact ⟨l, h1, h2, h3⟩
end Go.Proofs.Ytkkfppfpbobghaa
/-
  AccountOwn: the walk.
-/
namespace Go.Proofs.Ytkkfppfpbobghaa
set_option linter.unusedVariables false

theorem vals_addw {P : Program} {S : List Nat} {w0 : World} {F : World → Prop} {L : Env} {d : Option Nat} {ty : TypeId} {pos : String} {af : Array Edge} {g : Option (Nat × Bool)} {T T' : TypeId} {x y : Operand} {a b : Int} (hx : ro L x = some (.int .i64 a)) (hy : ro L y = some (.int .i64 b)) :
    Vals P S w0 F L ⟨d, .binOp .add T x y T', ty, pos, af, g⟩ (.int .i64 (IntKind.wrap .i64 (a + b))) := fun w _ _ => by
  simp [execOp, rho_of hx, rho_of hy, eqGuard, binOp, Op.intArith]
/-- A part of an owned row is written. -/
theorem SG.setOwn {P : Program} {n : Nat} {Q : Exit → Act → World → Prop} {L : Env} {w : World} {ops : List Oper} {rest : List Oper} {ty : TypeId} {pos : String} {af : Array Edge} {g : Option (Nat × Bool)} {T T' : TypeId} {i : TypeInfo} [f : Inf P T i] {a x : Operand} {b off base sz nn cap : Nat} {v : Value} (pre old post : List Value)
    (hw : want ops L ⟨none, .store T a x, ty, pos, af, g⟩ = some true) (hk : (known L a && known L x) = true) (ha : rho L a = .pointer (some ⟨b, off, none⟩)) (hx : rho L x = v) (ho : w.ownsRow base T' sz (.slice (some ⟨b, 0, none⟩) nn cap) nn (pre ++ (old ++ post)))
    (hn : v.cells.toList.length = i.size) (hol : old.length = i.size) (hp : pre.length = off) (hone : allOne v.cells.toList = true)
    (h : ∀ w', Kp [b] w w' → w'.ownsRow base T' sz (.slice (some ⟨b, 0, none⟩) nn cap) nn (pre ++ (v.cells.toList ++ post)) → SG P n ops Q rest L w') : SG P n ops Q (⟨none, .store T a x, ty, pos, af, g⟩ :: rest) L w := by
  obtain ⟨hlen, ⟨h0, _⟩ | ⟨g', cap', cur, hv, hb, hh, hc1, hc2, hc3, hc4⟩⟩ := ho
  · cases h0
  · simp only [Value.slice.injEq, Option.some.injEq, Addr.mk.injEq] at hv
    obtain ⟨⟨rfl, _⟩, _, rfl⟩ := hv
    have hcur : cur.toList = pre ++ (old ++ (post ++ cur.toList.drop (nn * sz))) := by
      have := List.take_append_drop (nn * sz) cur.toList
      rw [hc4] at this
      have e : pre ++ (old ++ (post ++ cur.toList.drop (nn * sz))) = pre ++ (old ++ post) ++ cur.toList.drop (nn * sz) := by simp
      rw [e]
      exact this.symm
    have hB : Blk w b (.cells cur T') := hh
    refine SG.setMid (f := f) pre old (post ++ cur.toList.drop (nn * sz)) hw hk ha hx hB hcur hn hol hp hone (fun w' hk' hB' => h w' hk' ?_)
    have hll : v.cells.toList.length = old.length := by rw [hn, hol]
    have hlen2 : (pre ++ (v.cells.toList ++ post)).length = nn * sz := by
      rw [← hlen]
      simp only [List.length_append]
      omega
    refine ⟨hlen2, Or.inr ⟨b, cap, _, rfl, hb, hB', hc1, hc2, ?_, ?_⟩⟩
    · have h1 := congrArg List.length hcur
      rw [← hc3]
      simp only [List.length_append, Array.length_toList] at h1
      rw [List.size_toArray]
      simp only [List.length_append]
      omega
    · rw [show (pre ++ (v.cells.toList ++ (post ++ cur.toList.drop (nn * sz)))).toArray.toList = (pre ++ (v.cells.toList ++ post)) ++ cur.toList.drop (nn * sz) by simp]
      rw [List.take_append_of_le_length (by omega), ← hlen2, List.take_length]
theorem flt_money {es : List En} {i : Nat} (hi : i < es.length) : flt ec es = (flt ec (es.take i) ++ dc es[i].key) ++ ([.int .i64 es[i].money] ++ ([.int .i64 es[i].nonce] ++ flt ec (es.drop (i + 1)))) := by
  rw [flt_split es i hi]
  simp [ec]
theorem flt_nonce {es : List En} {i : Nat} (hi : i < es.length) : flt ec es = (flt ec (es.take i) ++ (dc es[i].key ++ [.int .i64 es[i].money])) ++ ([.int .i64 es[i].nonce] ++ flt ec (es.drop (i + 1))) := by
  rw [flt_split es i hi]
  simp [ec]
theorem flt_set {es : List En} {i : Nat} (hi : i < es.length) (e : En) : flt ec (es.set i e) = flt ec (es.take i) ++ (ec e ++ flt ec (es.drop (i + 1))) := by
  rw [List.set_eq_take_append_cons_drop, if_pos hi, flt_append]
  simp [flt]

theorem own_blk {w : World} {base n sz : Nat} {T : TypeId} {v : Value} {xs : List Value} (h : w.ownsRow base T sz v n xs) {z : Nat} (hz : v.ownBlock = some z) : ∃ cs, Blk w z (.cells cs T) := by
  obtain ⟨_, ⟨rfl, _⟩ | ⟨g, cap, cur, rfl, _, hh, _⟩⟩ := h
  · cases hz
  · cases hz
    exact ⟨cur, hh⟩
theorem own_off {w : World} {base n sz : Nat} {T : TypeId} {b off k c : Nat} {xs : List Value} (h : w.ownsRow base T sz (.slice (some ⟨b, off, none⟩) k c) n xs) : off = 0 ∧ base ≤ b := by
  obtain ⟨_, ⟨h0, _⟩ | ⟨g, cap, cur, hv, hb, _⟩⟩ := h
  · cases h0
  · simp only [Value.slice.injEq, Option.some.injEq, Addr.mk.injEq] at hv
    exact ⟨hv.1.2.1, by rw [hv.1.1]; exact hb⟩
/-- A book stays where entries are written. -/
theorem BookAt.kpe {w w' : World} {bt bm : Nat} {m : Bk} (h : BookAt w bt bm m) {b : Nat} {cs : Array Value} (hb : Blk w b (.cells cs 49)) (hk : Kp [b] w w') : BookAt w' bt bm m := by
  refine h.kp hk (nm1 (fun e => ?_)) (nm1 (fun e => ?_))
  · have h2 := h.blk
    rw [e] at h2
    have := h2.uniq hb
    simp only [Obj.cells.injEq] at this
    exact absurd this.2.1 (by decide)
  · obtain ⟨_, _, hq⟩ := h.map.blk
    rw [e] at hq
    cases hq.uniq hb
theorem build49c (w : World) (a0 a1 a2 a3 a4 a5 a6 a7 : UInt8) (x : Int) : (Instr.build 49 #[(0, .agg #[bv a0, bv a1, bv a2, bv a3, bv a4, bv a5, bv a6, bv a7]), (1, Value.int .i64 x)]).run Try.prog w =
    .ok (.agg #[bv a0, bv a1, bv a2, bv a3, bv a4, bv a5, bv a6, bv a7, Value.int .i64 x, Value.int .i64 0]) w := by kernel_rfl
theorem build49m (w : World) (k : Dg) (x : Int) : (Instr.build 49 #[(0, dv k), (1, Value.int .i64 x)]).run Try.prog w = .ok (ev ⟨k, x, 0⟩) w := by
  obtain ⟨la, ha⟩ := k
  match la, ha with
  | [a0, a1, a2, a3, a4, a5, a6, a7], _ => exact build49c w a0 a1 a2 a3 a4 a5 a6 a7 x

def wE (l : List Nat) (i : Nat) : En := ⟨keyD (UInt8.ofNat i), (l.getD i 0 : Nat), 0⟩
def wN (l : List Nat) (n : Nat) : List En := (List.range n).map (wE l)
theorem wN_succ (l : List Nat) (n : Nat) : wN l (n + 1) = wN l n ++ [wE l n] := by simp [wN, List.range_succ]
theorem wN_length (l : List Nat) (n : Nat) : (wN l n).length = n := by simp [wN]
theorem wN_nodup (l : List Nat) (n : Nat) (hn : n ≤ 8) : ((wN l n).map (·.key)).Nodup := by
  have h := begN_nodup l n hn
  unfold begN at h
  unfold wN
  rw [List.map_map] at h ⊢
  exact h
theorem wN_mem {l : List Nat} {n : Nat} (hb : ∀ x ∈ l, x < 65536) {e : En} (he : e ∈ wN l n) : 0 ≤ e.money ∧ e.money < 65536 ∧ e.nonce = 0 := by
  obtain ⟨i, _, rfl⟩ := List.mem_map.1 he
  have := getD_lt hb i
  simp only [wE]
  exact ⟨by omega, by omega, trivial⟩
theorem w_new {l : List Nat} (hb : ∀ x ∈ l, x < 65536) {n : Nat} (hn : n ≤ 8) : newE (wN l n) = 0 := by
  have hlen := wN_length l n
  unfold newE
  rw [if_neg (by omega)]
  have hs := esum_le (l := wN l n) (fun e he => ⟨(wN_mem hb he).1, (wN_mem hb he).2.1⟩)
  refine newGo_ok (fun e he => ?_) (wN_nodup l n hn) (fun e he => by simp) (by omega)
  have := wN_mem hb he
  unfold badR
  omega

attribute [local irreducible] CG NG SG Vals Der Row Blk MapIs IterAt DerX
set_option maxHeartbeats 32000000 in
theorem own_law (w : World) (a : Option Addr) (n c : Nat) (l : List Nat) (hl : l.length = n ∧ SlU w a l ∧ ∀ x ∈ l, x < 65536) (y : Int) :
    Ret Try.prog 10 #[.slice a n c, .int .i64 y] w (.bool true) := by
  obtain ⟨rfl, h, hb⟩ := hl
  refine enter2 Try.func10 rfl Try.ntmps10 rfl ?_
  repeat (first|apply CG.seq|apply CG.region|apply SG.nil|apply NG.next|apply CG.skip|apply CG.block|apply CG.ret|apply CG.exit|apply CG.scope|apply NG.ret_then|apply NG.ret_block|apply NG.ret_scope|apply NG.exit_then|refine NG.exit_block rfl ?_|refine NG.exit_other rfl ?_|apply NG.exit_scope|apply NG.normal_block|apply NG.normal_scope|refine SG.val rfl rfl rfl rfl (by first|((first|apply qmv|apply qas|apply qlc|apply qla|apply qfa|apply qnc|apply qic|apply qix|apply qpk|apply qls|apply qei|apply qni|apply qed|apply qnd|apply qad|apply qln|apply qle|apply qgt|apply qge|apply qlk|apply qlv|apply qxt|apply qsb|apply qnt|apply qep|apply qnp|apply qeb|apply qnb|apply qx2|apply qx4|apply qcv|apply qlm|apply qfr|apply qto|apply qmx|apply qen|apply qsn|apply qx8|apply qx7|apply qx6|apply qx5|apply qx4|apply qx3|apply qx2|apply qx1|apply qx0)<;>(first|exact rfl|exact Ar.mk (by omega)|assumption|exact dct (by assumption)|exact dcf (by assumption)|exact dct (by omega)|exact dcf (by omega)|exact List.not_mem_nil|exact dc_length _|exact nc_length _|exact rc_length _ _ _|exact ec_length _|exact nm1 (by omega)|exact nm2 (by omega) (by omega)|exact dct rfl|exact dct (by decide)|exact dcf (by decide)|exact (Int.toNat_of_nonneg (by omega)).symm|exact dcu|exact lk1 (by assumption)|exact lk0 (by assumption)|exact lkb|fail))|fail) ?_)
  refine CG.loop (X := Nat × Value) (fun q => [(0, .slice a l.length c), (1, .int .i64 y), (5, q.2), (6, .int .i64 (q.1 : Int))])
    (fun q w' => q.1 ≤ min l.length 8 ∧ Kp [] w w' ∧ w'.ownsRow w.heap.size 49 10 q.2 q.1 (flt ec (wN l q.1)))
    (fun q => 8 - q.1) (0, .slice none 0 0) ⟨Nat.zero_le _, Kp.refl _ _, rfl, Or.inl ⟨rfl, rfl⟩⟩ (by (repeat' (first | exact True.intro | exact rfl | refine And.intro ?_ ?_))) ?_
  rintro ⟨i, v⟩ w1 ⟨hi, hk, hown⟩
  simp only at hi hown
  refine CG.to [(0, .slice a l.length c), (1, .int .i64 y), (5, v), (6, .int .i64 (i : Int))] (by (repeat' (first | exact True.intro | exact rfl | refine And.intro ?_ ?_))) ?_
  by_cases hlt : i < min l.length 8
  · have g1 : (i : Int) < (l.length : Int) := by omega
    have g2 : (i : Int) < 8 := by omega
    obtain ⟨ba, oa, rfl, hr⟩ := (h.kp0 hk).at (show i < l.length by omega)
    have hx : l[i]'(by omega) = l.getD i 0 := by simp [List.getD_eq_getElem?_getD, show i < l.length by omega]
    have hrb := getD_lt hb i
    rw [hx] at hr
    obtain ⟨x, hxx⟩ : ∃ x, x = l.getD i 0 := ⟨_, rfl⟩
    rw [← hxx] at hr hrb
    have hbE : wE l i = ⟨keyD (UInt8.ofNat i), (x : Int), 0⟩ := by unfold wE; rw [← hxx]
    have g3 : 0 ≤ (x : Int) ∧ (x : Int) < 65536 := by omega
    have hr : Row w1 ba (oa + i * 1) [.int .u16 (x : Int)] := hr
    repeat (first|apply CG.seq|apply CG.region|apply SG.nil|apply NG.next|apply CG.skip|apply CG.block|apply CG.ret|apply CG.exit|apply CG.scope|apply NG.ret_then|apply NG.ret_block|apply NG.ret_scope|apply NG.exit_then|refine NG.exit_block rfl ?_|refine NG.exit_other rfl ?_|apply NG.exit_scope|apply NG.normal_block|apply NG.normal_scope|refine SG.val rfl rfl rfl rfl (by first|((first|apply qmv|apply qas|apply qlc|apply qla|apply qfa|apply qnc|apply qic|apply qix|apply qpk|apply qls|apply qei|apply qni|apply qed|apply qnd|apply qad|apply qln|apply qle|apply qgt|apply qge|apply qlk|apply qlv|apply qxt|apply qsb|apply qnt|apply qep|apply qnp|apply qeb|apply qnb|apply qx2|apply qx4|apply qcv|apply qlm|apply qfr|apply qto|apply qmx|apply qen|apply qsn|apply qx8|apply qx7|apply qx6|apply qx5|apply qx4|apply qx3|apply qx2|apply qx1|apply qx0)<;>(first|exact rfl|exact Ar.mk (by omega)|assumption|exact dct (by assumption)|exact dcf (by assumption)|exact dct (by omega)|exact dcf (by omega)|exact List.not_mem_nil|exact dc_length _|exact nc_length _|exact rc_length _ _ _|exact ec_length _|exact nm1 (by omega)|exact nm2 (by omega) (by omega)|exact dct rfl|exact dct (by decide)|exact dcf (by decide)|exact (Int.toNat_of_nonneg (by omega)).symm|exact dcu|exact lk1 (by assumption)|exact lk0 (by assumption)|exact lkb|fail))|fail) ?_)
    refine CG.cond_t rfl (by exact rho_of rfl) rfl ?_
    repeat (first|apply CG.seq|apply CG.region|apply SG.nil|apply NG.next|apply CG.skip|apply CG.block|apply CG.ret|apply CG.exit|apply CG.scope|apply NG.ret_then|apply NG.ret_block|apply NG.ret_scope|apply NG.exit_then|refine NG.exit_block rfl ?_|refine NG.exit_other rfl ?_|apply NG.exit_scope|apply NG.normal_block|apply NG.normal_scope|refine SG.val rfl rfl rfl rfl (by first|((first|apply qmv|apply qas|apply qlc|apply qla|apply qfa|apply qnc|apply qic|apply qix|apply qpk|apply qls|apply qei|apply qni|apply qed|apply qnd|apply qad|apply qln|apply qle|apply qgt|apply qge|apply qlk|apply qlv|apply qxt|apply qsb|apply qnt|apply qep|apply qnp|apply qeb|apply qnb|apply qx2|apply qx4|apply qcv|apply qlm|apply qfr|apply qto|apply qmx|apply qen|apply qsn|apply qx8|apply qx7|apply qx6|apply qx5|apply qx4|apply qx3|apply qx2|apply qx1|apply qx0)<;>(first|exact rfl|exact Ar.mk (by omega)|assumption|exact dct (by assumption)|exact dcf (by assumption)|exact dct (by omega)|exact dcf (by omega)|exact List.not_mem_nil|exact dc_length _|exact nc_length _|exact rc_length _ _ _|exact ec_length _|exact nm1 (by omega)|exact nm2 (by omega) (by omega)|exact dct rfl|exact dct (by decide)|exact dcf (by decide)|exact (Int.toNat_of_nonneg (by omega)).symm|exact dcu|exact lk1 (by assumption)|exact lk0 (by assumption)|exact lkb|fail))|fail) ?_)
    refine CG.free mixed 11 [0, 1, 2, 3, 4, 5, 6, 7, 8, 9, 10] [(10, gS w1.heap.size ec 10 [wE l i])] (by kernel_rfl) (by intro p hp y; simp at hp; rcases hp with rfl; exact gS_stab y) ?_
    repeat (refine DerX.val rfl rfl rfl rfl (by first|((first|apply qmv|apply qas|apply qlc|apply qla|apply qfa|apply qnc|apply qic|apply qix|apply qpk|apply qls|apply qei|apply qni|apply qed|apply qnd|apply qad|apply qln|apply qle|apply qgt|apply qge|apply qlk|apply qlv|apply qxt|apply qsb|apply qnt|apply qep|apply qnp|apply qeb|apply qnb|apply qx2|apply qx4|apply qcv|apply qlm|apply qfr|apply qto|apply qmx|apply qen|apply qsn|apply qx8|apply qx7|apply qx6|apply qx5|apply qx4|apply qx3|apply qx2|apply qx1|apply qx0)<;>(first|exact rfl|exact Ar.mk (by omega)|assumption|exact dct (by assumption)|exact dcf (by assumption)|exact dct (by omega)|exact dcf (by omega)|exact List.not_mem_nil|exact dc_length _|exact nc_length _|exact rc_length _ _ _|exact ec_length _|exact nm1 (by omega)|exact nm2 (by omega) (by omega)|exact dct rfl|exact dct (by decide)|exact dcf (by decide)|exact (Int.toNat_of_nonneg (by omega)).symm|exact dcu|exact lk1 (by assumption)|exact lk0 (by assumption)|exact lkb|fail))|fail) ?_)
    refine DerX.call rfl rfl rfl rfl (vs := [bv (UInt8.ofNat i)]) ⟨by rw [← bv_ofNat (by omega)]; rfl, True.intro⟩ (fun w hk _ => key_spec _ w) ?_
    repeat (refine DerX.val rfl rfl rfl rfl (by first|((first|apply qmv|apply qas|apply qlc|apply qla|apply qfa|apply qnc|apply qic|apply qix|apply qpk|apply qls|apply qei|apply qni|apply qed|apply qnd|apply qad|apply qln|apply qle|apply qgt|apply qge|apply qlk|apply qlv|apply qxt|apply qsb|apply qnt|apply qep|apply qnp|apply qeb|apply qnb|apply qx2|apply qx4|apply qcv|apply qlm|apply qfr|apply qto|apply qmx|apply qen|apply qsn|apply qx8|apply qx7|apply qx6|apply qx5|apply qx4|apply qx3|apply qx2|apply qx1|apply qx0)<;>(first|exact rfl|exact Ar.mk (by omega)|assumption|exact dct (by assumption)|exact dcf (by assumption)|exact dct (by omega)|exact dcf (by omega)|exact List.not_mem_nil|exact dc_length _|exact nc_length _|exact rc_length _ _ _|exact ec_length _|exact nm1 (by omega)|exact nm2 (by omega) (by omega)|exact dct rfl|exact dct (by decide)|exact dcf (by decide)|exact (Int.toNat_of_nonneg (by omega)).symm|exact dcu|exact lk1 (by assumption)|exact lk0 (by assumption)|exact lkb|fail))|fail) ?_)
    refine DerX.val rfl rfl rfl rfl (vals_build rfl (fun w => build49m w (keyD (UInt8.ofNat i)) (x : Int))) ?_
    refine DerX.buildSlice [wE l i] ec_length rfl rfl rfl rfl rfl rfl (Nat.le_refl _) (fun w => by rw [flt_one, hbE]; exact bs35 _ w) (fun a9 c9 => ?_)
    refine DerX.tl (fun w2 hk2 hF => ?_)
    have hS9 : SlF w1.heap.size ec 10 w2 a9 c9 [wE l i] := hF _ (.head _)
    obtain ⟨b9, o9, rfl, hr9⟩ := hS9.sl.at (i := 0) (by simp)
    have hr9 : Row w2 b9 o9 (ec (wE l i)) := by simpa using hr9
    have s1 := hk.size
    have s2 := hk2.size
    refine SG.append rfl rfl rfl (by exact rho_of rfl) (by exact rho_of rfl) rfl rfl rfl (own_kp0 hown hk2) hr9 (by first | exact dc_length _ | exact nc_length _ | exact rc_length _ _ _ | exact ec_length _ | rfl) (by first | exact dc_one _ | exact nc_one _ | exact rc_one _ _ _ | exact ec_one _ | rfl) (by simp only [maxLen]; simp; omega) (by show (i + [wE l i].length) * 24 ≤ _; simp; omega) (by omega) (fun v' w3 hk3 hown3 => ?_)
    repeat (first|apply CG.seq|apply CG.region|apply SG.nil|apply NG.next|apply CG.skip|apply CG.block|apply CG.ret|apply CG.exit|apply CG.scope|apply NG.ret_then|apply NG.ret_block|apply NG.ret_scope|apply NG.exit_then|refine NG.exit_block rfl ?_|refine NG.exit_other rfl ?_|apply NG.exit_scope|apply NG.normal_block|apply NG.normal_scope|refine SG.val rfl rfl rfl rfl (by first|((first|apply qmv|apply qas|apply qlc|apply qla|apply qfa|apply qnc|apply qic|apply qix|apply qpk|apply qls|apply qei|apply qni|apply qed|apply qnd|apply qad|apply qln|apply qle|apply qgt|apply qge|apply qlk|apply qlv|apply qxt|apply qsb|apply qnt|apply qep|apply qnp|apply qeb|apply qnb|apply qx2|apply qx4|apply qcv|apply qlm|apply qfr|apply qto|apply qmx|apply qen|apply qsn|apply qx8|apply qx7|apply qx6|apply qx5|apply qx4|apply qx3|apply qx2|apply qx1|apply qx0)<;>(first|exact rfl|exact Ar.mk (by omega)|assumption|exact dct (by assumption)|exact dcf (by assumption)|exact dct (by omega)|exact dcf (by omega)|exact List.not_mem_nil|exact dc_length _|exact nc_length _|exact rc_length _ _ _|exact ec_length _|exact nm1 (by omega)|exact nm2 (by omega) (by omega)|exact dct rfl|exact dct (by decide)|exact dcf (by decide)|exact (Int.toNat_of_nonneg (by omega)).symm|exact dcu|exact lk1 (by assumption)|exact lk0 (by assumption)|exact lkb|fail))|fail) ?_)
    refine NG.round (i + 1, v') (by (repeat' (first | exact True.intro | exact rfl | refine And.intro ?_ ?_))) ⟨by simp only; omega, (hk.trans hk2).trans_new hk3 (own_new hown (Nat.le_refl _)), ?_⟩ (by simp only; omega)
    simp only
    rw [wN_succ, flt_append, flt_one]
    exact hown3
  have hcase : ¬ (i : Int) < (l.length : Int) ∨ ((i : Int) < (l.length : Int) ∧ ¬ (i : Int) < 8) := by omega
  have hi8 : i ≤ 8 := by omega
  have hnew := w_new hb hi8
  have hwl := wN_length l i
  have hmem : ∀ e ∈ wN l i, 0 ≤ e.money ∧ e.money < 65536 ∧ e.nonce = 0 := fun e he => wN_mem hb he
  have hs := esum_le (l := wN l i) (fun e he => ⟨(hmem e he).1, (hmem e he).2.1⟩)
  obtain ⟨hok, hml, _⟩ := puts_new hnew (N := 0) (fun e he => by have := hmem e he; omega)
  obtain ⟨es, hes⟩ : ∃ es, es = wN l i := ⟨_, rfl⟩
  rw [← hes] at hown hnew hwl hok hs hml
  have hown : w1.ownsRow w.heap.size 49 10 v es.length (flt ec es) := by rw [hwl]; exact hown
  obtain ⟨a1, c1, rfl, hS1⟩ := SlF.own ec_length hown rfl
  have hS1 := hS1.sl
  have s1 := hk.size
  rcases hcase with g1 | ⟨g1, g2⟩
  all_goals
    repeat (first | first|apply CG.seq|apply CG.region|apply SG.nil|apply NG.next|apply CG.skip|apply CG.block|apply CG.ret|apply CG.exit|apply CG.scope|apply NG.ret_then|apply NG.ret_block|apply NG.ret_scope|apply NG.exit_then|refine NG.exit_block rfl ?_|refine NG.exit_other rfl ?_|apply NG.exit_scope|apply NG.normal_block|apply NG.normal_scope|refine SG.val rfl rfl rfl rfl (by first|((first|apply qmv|apply qas|apply qlc|apply qla|apply qfa|apply qnc|apply qic|apply qix|apply qpk|apply qls|apply qei|apply qni|apply qed|apply qnd|apply qad|apply qln|apply qle|apply qgt|apply qge|apply qlk|apply qlv|apply qxt|apply qsb|apply qnt|apply qep|apply qnp|apply qeb|apply qnb|apply qx2|apply qx4|apply qcv|apply qlm|apply qfr|apply qto|apply qmx|apply qen|apply qsn|apply qx8|apply qx7|apply qx6|apply qx5|apply qx4|apply qx3|apply qx2|apply qx1|apply qx0)<;>(first|exact rfl|exact Ar.mk (by omega)|assumption|exact dct (by assumption)|exact dcf (by assumption)|exact dct (by omega)|exact dcf (by omega)|exact List.not_mem_nil|exact dc_length _|exact nc_length _|exact rc_length _ _ _|exact ec_length _|exact nm1 (by omega)|exact nm2 (by omega) (by omega)|exact dct rfl|exact dct (by decide)|exact dcf (by decide)|exact (Int.toNat_of_nonneg (by omega)).symm|exact dcu|exact lk1 (by assumption)|exact lk0 (by assumption)|exact lkb|fail))|fail) ?_ | refine SG.skip rfl rfl ?_)
    refine CG.cond_f rfl (by exact rho_of rfl) rfl ?_
    repeat (first|apply CG.seq|apply CG.region|apply SG.nil|apply NG.next|apply CG.skip|apply CG.block|apply CG.ret|apply CG.exit|apply CG.scope|apply NG.ret_then|apply NG.ret_block|apply NG.ret_scope|apply NG.exit_then|refine NG.exit_block rfl ?_|refine NG.exit_other rfl ?_|apply NG.exit_scope|apply NG.normal_block|apply NG.normal_scope|refine SG.val rfl rfl rfl rfl (by first|((first|apply qmv|apply qas|apply qlc|apply qla|apply qfa|apply qnc|apply qic|apply qix|apply qpk|apply qls|apply qei|apply qni|apply qed|apply qnd|apply qad|apply qln|apply qle|apply qgt|apply qge|apply qlk|apply qlv|apply qxt|apply qsb|apply qnt|apply qep|apply qnp|apply qeb|apply qnb|apply qx2|apply qx4|apply qcv|apply qlm|apply qfr|apply qto|apply qmx|apply qen|apply qsn|apply qx8|apply qx7|apply qx6|apply qx5|apply qx4|apply qx3|apply qx2|apply qx1|apply qx0)<;>(first|exact rfl|exact Ar.mk (by omega)|assumption|exact dct (by assumption)|exact dcf (by assumption)|exact dct (by omega)|exact dcf (by omega)|exact List.not_mem_nil|exact dc_length _|exact nc_length _|exact rc_length _ _ _|exact ec_length _|exact nm1 (by omega)|exact nm2 (by omega) (by omega)|exact dct rfl|exact dct (by decide)|exact dcf (by decide)|exact (Int.toNat_of_nonneg (by omega)).symm|exact dcu|exact lk1 (by assumption)|exact lk0 (by assumption)|exact lkb|fail))|fail) ?_)
    refine SG.call rfl rfl rfl (by repeat' (first | exact True.intro | exact rho_of rfl | refine And.intro ?_ ?_)) ((new_spec c1 hS1 (by omega)).mono (fun e w2 hh => ?_))
    obtain ⟨hk2, ⟨h, _⟩ | ⟨_, bt, bm, he, hB, hbt, hbm⟩⟩ := hh
    · exact absurd hnew h
    refine ⟨_, he, ?_⟩
    repeat (first|apply CG.seq|apply CG.region|apply SG.nil|apply NG.next|apply CG.skip|apply CG.block|apply CG.ret|apply CG.exit|apply CG.scope|apply NG.ret_then|apply NG.ret_block|apply NG.ret_scope|apply NG.exit_then|refine NG.exit_block rfl ?_|refine NG.exit_other rfl ?_|apply NG.exit_scope|apply NG.normal_block|apply NG.normal_scope|refine SG.val rfl rfl rfl rfl (by first|((first|apply qmv|apply qas|apply qlc|apply qla|apply qfa|apply qnc|apply qic|apply qix|apply qpk|apply qls|apply qei|apply qni|apply qed|apply qnd|apply qad|apply qln|apply qle|apply qgt|apply qge|apply qlk|apply qlv|apply qxt|apply qsb|apply qnt|apply qep|apply qnp|apply qeb|apply qnb|apply qx2|apply qx4|apply qcv|apply qlm|apply qfr|apply qto|apply qmx|apply qen|apply qsn|apply qx8|apply qx7|apply qx6|apply qx5|apply qx4|apply qx3|apply qx2|apply qx1|apply qx0)<;>(first|exact rfl|exact Ar.mk (by omega)|assumption|exact dct (by assumption)|exact dcf (by assumption)|exact dct (by omega)|exact dcf (by omega)|exact List.not_mem_nil|exact dc_length _|exact nc_length _|exact rc_length _ _ _|exact ec_length _|exact nm1 (by omega)|exact nm2 (by omega) (by omega)|exact dct rfl|exact dct (by decide)|exact dcf (by decide)|exact (Int.toNat_of_nonneg (by omega)).symm|exact dcu|exact lk1 (by assumption)|exact lk0 (by assumption)|exact lkb|fail))|fail) ?_)
    refine SG.ret rfl rfl rfl (vs := []) True.intro (told_spec w2) (fun w3 hk3 => ?_)
    repeat (first|apply CG.seq|apply CG.region|apply SG.nil|apply NG.next|apply CG.skip|apply CG.block|apply CG.ret|apply CG.exit|apply CG.scope|apply NG.ret_then|apply NG.ret_block|apply NG.ret_scope|apply NG.exit_then|refine NG.exit_block rfl ?_|refine NG.exit_other rfl ?_|apply NG.exit_scope|apply NG.normal_block|apply NG.normal_scope|refine SG.val rfl rfl rfl rfl (by first|((first|apply qmv|apply qas|apply qlc|apply qla|apply qfa|apply qnc|apply qic|apply qix|apply qpk|apply qls|apply qei|apply qni|apply qed|apply qnd|apply qad|apply qln|apply qle|apply qgt|apply qge|apply qlk|apply qlv|apply qxt|apply qsb|apply qnt|apply qep|apply qnp|apply qeb|apply qnb|apply qx2|apply qx4|apply qcv|apply qlm|apply qfr|apply qto|apply qmx|apply qen|apply qsn|apply qx8|apply qx7|apply qx6|apply qx5|apply qx4|apply qx3|apply qx2|apply qx1|apply qx0)<;>(first|exact rfl|exact Ar.mk (by omega)|assumption|exact dct (by assumption)|exact dcf (by assumption)|exact dct (by omega)|exact dcf (by omega)|exact List.not_mem_nil|exact dc_length _|exact nc_length _|exact rc_length _ _ _|exact ec_length _|exact nm1 (by omega)|exact nm2 (by omega) (by omega)|exact dct rfl|exact dct (by decide)|exact dcf (by decide)|exact (Int.toNat_of_nonneg (by omega)).symm|exact dcu|exact lk1 (by assumption)|exact lk0 (by assumption)|exact lkb|fail))|fail) ?_)
    refine CG.cond_f rfl (by exact rho_of rfl) rfl ?_
    repeat (first|apply CG.seq|apply CG.region|apply SG.nil|apply NG.next|apply CG.skip|apply CG.block|apply CG.ret|apply CG.exit|apply CG.scope|apply NG.ret_then|apply NG.ret_block|apply NG.ret_scope|apply NG.exit_then|refine NG.exit_block rfl ?_|refine NG.exit_other rfl ?_|apply NG.exit_scope|apply NG.normal_block|apply NG.normal_scope|refine SG.val rfl rfl rfl rfl (by first|((first|apply qmv|apply qas|apply qlc|apply qla|apply qfa|apply qnc|apply qic|apply qix|apply qpk|apply qls|apply qei|apply qni|apply qed|apply qnd|apply qad|apply qln|apply qle|apply qgt|apply qge|apply qlk|apply qlv|apply qxt|apply qsb|apply qnt|apply qep|apply qnp|apply qeb|apply qnb|apply qx2|apply qx4|apply qcv|apply qlm|apply qfr|apply qto|apply qmx|apply qen|apply qsn|apply qx8|apply qx7|apply qx6|apply qx5|apply qx4|apply qx3|apply qx2|apply qx1|apply qx0)<;>(first|exact rfl|exact Ar.mk (by omega)|assumption|exact dct (by assumption)|exact dcf (by assumption)|exact dct (by omega)|exact dcf (by omega)|exact List.not_mem_nil|exact dc_length _|exact nc_length _|exact rc_length _ _ _|exact ec_length _|exact nm1 (by omega)|exact nm2 (by omega) (by omega)|exact dct rfl|exact dct (by decide)|exact dcf (by decide)|exact (Int.toNat_of_nonneg (by omega)).symm|exact dcu|exact lk1 (by assumption)|exact lk0 (by assumption)|exact lkb|fail))|fail) ?_)
    refine SG.call rfl rfl rfl (by repeat' (first | exact True.intro | exact rho_of rfl | refine And.intro ?_ ?_)) ((clone_spec (hB.kp0 hk3)).mono (fun e w4 hh => ?_))
    obtain ⟨ct, cm, m', he4, hC4, hp, hct, hcm, hk4⟩ := hh
    refine ⟨_, he4, ?_⟩
    obtain ⟨m, em⟩ : ∃ m, m = puts [] es := ⟨_, rfl⟩
    rw [← em] at hok hp hB hml
    obtain ⟨hok', hbe⟩ := hok.perm hp
    have hg := hok.good (by omega) (by omega) (by omega)
    have hg' := hok'.good (by omega) (by omega) (by omega)
    have hsame : sameB m m' = true := (same_iff hok hok').2 (fun k => (hbe k).symm)
    have hB4 := (hB.kp0 hk3).kp0 hk4
    have hk14 := (hk2.trans hk3).trans hk4
    have hown4 := own_kp0 hown hk14
    have s2 := hk2.size
    have s3 := hk3.size
    have s4 := hk4.size
    have l1 := hB.blk.lt
    have l2 := hB.map.lt
    have l3 := hC4.blk.lt
    have l4 := hC4.map.lt
    repeat (first|apply CG.seq|apply CG.region|apply SG.nil|apply NG.next|apply CG.skip|apply CG.block|apply CG.ret|apply CG.exit|apply CG.scope|apply NG.ret_then|apply NG.ret_block|apply NG.ret_scope|apply NG.exit_then|refine NG.exit_block rfl ?_|refine NG.exit_other rfl ?_|apply NG.exit_scope|apply NG.normal_block|apply NG.normal_scope|refine SG.val rfl rfl rfl rfl (by first|((first|apply qmv|apply qas|apply qlc|apply qla|apply qfa|apply qnc|apply qic|apply qix|apply qpk|apply qls|apply qei|apply qni|apply qed|apply qnd|apply qad|apply qln|apply qle|apply qgt|apply qge|apply qlk|apply qlv|apply qxt|apply qsb|apply qnt|apply qep|apply qnp|apply qeb|apply qnb|apply qx2|apply qx4|apply qcv|apply qlm|apply qfr|apply qto|apply qmx|apply qen|apply qsn|apply qx8|apply qx7|apply qx6|apply qx5|apply qx4|apply qx3|apply qx2|apply qx1|apply qx0)<;>(first|exact rfl|exact Ar.mk (by omega)|assumption|exact dct (by assumption)|exact dcf (by assumption)|exact dct (by omega)|exact dcf (by omega)|exact List.not_mem_nil|exact dc_length _|exact nc_length _|exact rc_length _ _ _|exact ec_length _|exact nm1 (by omega)|exact nm2 (by omega) (by omega)|exact dct rfl|exact dct (by decide)|exact dcf (by decide)|exact (Int.toNat_of_nonneg (by omega)).symm|exact dcu|exact lk1 (by assumption)|exact lk0 (by assumption)|exact lkb|fail))|fail) ?_)
    refine CG.loop (X := Nat × List En) (fun q => [(1, .int .i64 y), (5, .slice a1 es.length c1), (7, .pointer (some ⟨bt, 0, none⟩)), (9, .pointer (some ⟨ct, 0, none⟩)), (10, .int .i64 (q.1 : Int))])
      (fun q w' => q.1 ≤ es.length ∧ Kp [] w w' ∧ w4.heap.size ≤ w'.heap.size ∧ BookAt w' bt bm m ∧ BookAt w' ct cm m' ∧ q.2.length = es.length ∧ w'.ownsRow w.heap.size 49 10 (.slice a1 es.length c1) es.length (flt ec q.2))
      (fun q => es.length - q.1) (0, es) ⟨Nat.zero_le _, hk.trans hk14, Nat.le_refl _, hB4, hC4, rfl, hown4⟩ (by (repeat' (first | exact True.intro | exact rfl | refine And.intro ?_ ?_))) ?_
    rintro ⟨j, fs⟩ w5 ⟨hj, hk5, hs5, hB5, hC5, hfl, hown5⟩
    simp only at hj hfl hown5
    refine CG.to [(1, .int .i64 y), (5, .slice a1 es.length c1), (7, .pointer (some ⟨bt, 0, none⟩)), (9, .pointer (some ⟨ct, 0, none⟩)), (10, .int .i64 (j : Int))] (by (repeat' (first | exact True.intro | exact rfl | refine And.intro ?_ ?_))) ?_
    by_cases hjl : j < es.length
    · have g3 : (j : Int) < (es.length : Int) := by omega
      have hjf : j < fs.length := by omega
      obtain ⟨a5, c5, e5, hS5⟩ := SlF.own ec_length hown5 hfl
      simp only [Value.slice.injEq] at e5
      obtain ⟨rfl, _, rfl⟩ := e5
      obtain ⟨b5, o5, rfl, hr5⟩ := hS5.sl.at hjf
      obtain ⟨rfl, hb5⟩ := own_off hown5
      obtain ⟨cs5, hB5b⟩ := own_blk hown5 (z := b5) rfl
      obtain ⟨r0, r1, r2⟩ := en_sub hr5
      repeat (first|apply CG.seq|apply CG.region|apply SG.nil|apply NG.next|apply CG.skip|apply CG.block|apply CG.ret|apply CG.exit|apply CG.scope|apply NG.ret_then|apply NG.ret_block|apply NG.ret_scope|apply NG.exit_then|refine NG.exit_block rfl ?_|refine NG.exit_other rfl ?_|apply NG.exit_scope|apply NG.normal_block|apply NG.normal_scope|refine SG.val rfl rfl rfl rfl (by first|((first|apply qmv|apply qas|apply qlc|apply qla|apply qfa|apply qnc|apply qic|apply qix|apply qpk|apply qls|apply qei|apply qni|apply qed|apply qnd|apply qad|apply qln|apply qle|apply qgt|apply qge|apply qlk|apply qlv|apply qxt|apply qsb|apply qnt|apply qep|apply qnp|apply qeb|apply qnb|apply qx2|apply qx4|apply qcv|apply qlm|apply qfr|apply qto|apply qmx|apply qen|apply qsn|apply qx8|apply qx7|apply qx6|apply qx5|apply qx4|apply qx3|apply qx2|apply qx1|apply qx0)<;>(first|exact rfl|exact Ar.mk (by omega)|assumption|exact dct (by assumption)|exact dcf (by assumption)|exact dct (by omega)|exact dcf (by omega)|exact List.not_mem_nil|exact dc_length _|exact nc_length _|exact rc_length _ _ _|exact ec_length _|exact nm1 (by omega)|exact nm2 (by omega) (by omega)|exact dct rfl|exact dct (by decide)|exact dcf (by decide)|exact (Int.toNat_of_nonneg (by omega)).symm|exact dcu|exact lk1 (by assumption)|exact lk0 (by assumption)|exact lkb|fail))|fail) ?_)
      refine CG.cond_t rfl (by exact rho_of rfl) rfl ?_
      repeat (first|apply CG.seq|apply CG.region|apply SG.nil|apply NG.next|apply CG.skip|apply CG.block|apply CG.ret|apply CG.exit|apply CG.scope|apply NG.ret_then|apply NG.ret_block|apply NG.ret_scope|apply NG.exit_then|refine NG.exit_block rfl ?_|refine NG.exit_other rfl ?_|apply NG.exit_scope|apply NG.normal_block|apply NG.normal_scope|refine SG.val rfl rfl rfl rfl (by first|((first|apply qmv|apply qas|apply qlc|apply qla|apply qfa|apply qnc|apply qic|apply qix|apply qpk|apply qls|apply qei|apply qni|apply qed|apply qnd|apply qad|apply qln|apply qle|apply qgt|apply qge|apply qlk|apply qlv|apply qxt|apply qsb|apply qnt|apply qep|apply qnp|apply qeb|apply qnb|apply qx2|apply qx4|apply qcv|apply qlm|apply qfr|apply qto|apply qmx|apply qen|apply qsn|apply qx8|apply qx7|apply qx6|apply qx5|apply qx4|apply qx3|apply qx2|apply qx1|apply qx0)<;>(first|exact rfl|exact Ar.mk (by omega)|assumption|exact dct (by assumption)|exact dcf (by assumption)|exact dct (by omega)|exact dcf (by omega)|exact List.not_mem_nil|exact dc_length _|exact nc_length _|exact rc_length _ _ _|exact ec_length _|exact nm1 (by omega)|exact nm2 (by omega) (by omega)|exact dct rfl|exact dct (by decide)|exact dcf (by decide)|exact (Int.toNat_of_nonneg (by omega)).symm|exact dcu|exact lk1 (by assumption)|exact lk0 (by assumption)|exact lkb|fail))|fail) ?_)
      refine SG.val rfl rfl rfl rfl (vals_addw rfl rfl) ?_
      repeat (first|apply CG.seq|apply CG.region|apply SG.nil|apply NG.next|apply CG.skip|apply CG.block|apply CG.ret|apply CG.exit|apply CG.scope|apply NG.ret_then|apply NG.ret_block|apply NG.ret_scope|apply NG.exit_then|refine NG.exit_block rfl ?_|refine NG.exit_other rfl ?_|apply NG.exit_scope|apply NG.normal_block|apply NG.normal_scope|refine SG.val rfl rfl rfl rfl (by first|((first|apply qmv|apply qas|apply qlc|apply qla|apply qfa|apply qnc|apply qic|apply qix|apply qpk|apply qls|apply qei|apply qni|apply qed|apply qnd|apply qad|apply qln|apply qle|apply qgt|apply qge|apply qlk|apply qlv|apply qxt|apply qsb|apply qnt|apply qep|apply qnp|apply qeb|apply qnb|apply qx2|apply qx4|apply qcv|apply qlm|apply qfr|apply qto|apply qmx|apply qen|apply qsn|apply qx8|apply qx7|apply qx6|apply qx5|apply qx4|apply qx3|apply qx2|apply qx1|apply qx0)<;>(first|exact rfl|exact Ar.mk (by omega)|assumption|exact dct (by assumption)|exact dcf (by assumption)|exact dct (by omega)|exact dcf (by omega)|exact List.not_mem_nil|exact dc_length _|exact nc_length _|exact rc_length _ _ _|exact ec_length _|exact nm1 (by omega)|exact nm2 (by omega) (by omega)|exact dct rfl|exact dct (by decide)|exact dcf (by decide)|exact (Int.toNat_of_nonneg (by omega)).symm|exact dcu|exact lk1 (by assumption)|exact lk0 (by assumption)|exact lkb|fail))|fail) ?_)
      rw [flt_money hjf] at hown5
      refine SG.setOwn (flt ec (fs.take j) ++ dc fs[j].key) [.int .i64 fs[j].money] ([.int .i64 fs[j].nonce] ++ flt ec (fs.drop (j + 1))) rfl rfl (by exact rho_of rfl) (by exact rho_of rfl) hown5 rfl rfl (by rw [List.length_append, flt_length ec_length, List.length_take, dc_length]; omega) rfl (fun w6 hk6 hown6 => ?_)
      have s6 := hk6.size
      have hset : w6.ownsRow w.heap.size 49 10 (.slice (some ⟨b5, 0, none⟩) es.length c1) es.length (flt ec (fs.set j ⟨fs[j].key, IntKind.wrap .i64 (fs[j].money + y), fs[j].nonce⟩)) := by
        rw [flt_set hjf]
        have e6 : flt ec (fs.take j) ++ (ec ⟨fs[j].key, IntKind.wrap .i64 (fs[j].money + y), fs[j].nonce⟩ ++ flt ec (fs.drop (j + 1))) = (flt ec (fs.take j) ++ dc fs[j].key) ++ ((Value.int .i64 (IntKind.wrap .i64 (fs[j].money + y))).cells.toList ++ ([.int .i64 fs[j].nonce] ++ flt ec (fs.drop (j + 1)))) := by simp [ec, Value.cells]
        rw [e6]
        exact hown6
      repeat (first|apply CG.seq|apply CG.region|apply SG.nil|apply NG.next|apply CG.skip|apply CG.block|apply CG.ret|apply CG.exit|apply CG.scope|apply NG.ret_then|apply NG.ret_block|apply NG.ret_scope|apply NG.exit_then|refine NG.exit_block rfl ?_|refine NG.exit_other rfl ?_|apply NG.exit_scope|apply NG.normal_block|apply NG.normal_scope|refine SG.val rfl rfl rfl rfl (by first|((first|apply qmv|apply qas|apply qlc|apply qla|apply qfa|apply qnc|apply qic|apply qix|apply qpk|apply qls|apply qei|apply qni|apply qed|apply qnd|apply qad|apply qln|apply qle|apply qgt|apply qge|apply qlk|apply qlv|apply qxt|apply qsb|apply qnt|apply qep|apply qnp|apply qeb|apply qnb|apply qx2|apply qx4|apply qcv|apply qlm|apply qfr|apply qto|apply qmx|apply qen|apply qsn|apply qx8|apply qx7|apply qx6|apply qx5|apply qx4|apply qx3|apply qx2|apply qx1|apply qx0)<;>(first|exact rfl|exact Ar.mk (by omega)|assumption|exact dct (by assumption)|exact dcf (by assumption)|exact dct (by omega)|exact dcf (by omega)|exact List.not_mem_nil|exact dc_length _|exact nc_length _|exact rc_length _ _ _|exact ec_length _|exact nm1 (by omega)|exact nm2 (by omega) (by omega)|exact dct rfl|exact dct (by decide)|exact dcf (by decide)|exact (Int.toNat_of_nonneg (by omega)).symm|exact dcu|exact lk1 (by assumption)|exact lk0 (by assumption)|exact lkb|fail))|fail) ?_)
      refine NG.round (j + 1, fs.set j ⟨fs[j].key, IntKind.wrap .i64 (fs[j].money + y), fs[j].nonce⟩) (by (repeat' (first | exact True.intro | exact rfl | refine And.intro ?_ ?_))) ⟨by simp only; omega, hk5.trans_new hk6 (new1 (by omega)), by omega, hB5.kpe hB5b hk6, hC5.kpe hB5b hk6, by simp only; rw [List.length_set]; exact hfl, hset⟩ (by simp only; omega)
    · have g3 : ¬ (j : Int) < (es.length : Int) := by omega
      repeat (first|apply CG.seq|apply CG.region|apply SG.nil|apply NG.next|apply CG.skip|apply CG.block|apply CG.ret|apply CG.exit|apply CG.scope|apply NG.ret_then|apply NG.ret_block|apply NG.ret_scope|apply NG.exit_then|refine NG.exit_block rfl ?_|refine NG.exit_other rfl ?_|apply NG.exit_scope|apply NG.normal_block|apply NG.normal_scope|refine SG.val rfl rfl rfl rfl (by first|((first|apply qmv|apply qas|apply qlc|apply qla|apply qfa|apply qnc|apply qic|apply qix|apply qpk|apply qls|apply qei|apply qni|apply qed|apply qnd|apply qad|apply qln|apply qle|apply qgt|apply qge|apply qlk|apply qlv|apply qxt|apply qsb|apply qnt|apply qep|apply qnp|apply qeb|apply qnb|apply qx2|apply qx4|apply qcv|apply qlm|apply qfr|apply qto|apply qmx|apply qen|apply qsn|apply qx8|apply qx7|apply qx6|apply qx5|apply qx4|apply qx3|apply qx2|apply qx1|apply qx0)<;>(first|exact rfl|exact Ar.mk (by omega)|assumption|exact dct (by assumption)|exact dcf (by assumption)|exact dct (by omega)|exact dcf (by omega)|exact List.not_mem_nil|exact dc_length _|exact nc_length _|exact rc_length _ _ _|exact ec_length _|exact nm1 (by omega)|exact nm2 (by omega) (by omega)|exact dct rfl|exact dct (by decide)|exact dcf (by decide)|exact (Int.toNat_of_nonneg (by omega)).symm|exact dcu|exact lk1 (by assumption)|exact lk0 (by assumption)|exact lkb|fail))|fail) ?_)
      refine CG.cond_f rfl (by exact rho_of rfl) rfl ?_
      repeat (first|apply CG.seq|apply CG.region|apply SG.nil|apply NG.next|apply CG.skip|apply CG.block|apply CG.ret|apply CG.exit|apply CG.scope|apply NG.ret_then|apply NG.ret_block|apply NG.ret_scope|apply NG.exit_then|refine NG.exit_block rfl ?_|refine NG.exit_other rfl ?_|apply NG.exit_scope|apply NG.normal_block|apply NG.normal_scope|refine SG.val rfl rfl rfl rfl (by first|((first|apply qmv|apply qas|apply qlc|apply qla|apply qfa|apply qnc|apply qic|apply qix|apply qpk|apply qls|apply qei|apply qni|apply qed|apply qnd|apply qad|apply qln|apply qle|apply qgt|apply qge|apply qlk|apply qlv|apply qxt|apply qsb|apply qnt|apply qep|apply qnp|apply qeb|apply qnb|apply qx2|apply qx4|apply qcv|apply qlm|apply qfr|apply qto|apply qmx|apply qen|apply qsn|apply qx8|apply qx7|apply qx6|apply qx5|apply qx4|apply qx3|apply qx2|apply qx1|apply qx0)<;>(first|exact rfl|exact Ar.mk (by omega)|assumption|exact dct (by assumption)|exact dcf (by assumption)|exact dct (by omega)|exact dcf (by omega)|exact List.not_mem_nil|exact dc_length _|exact nc_length _|exact rc_length _ _ _|exact ec_length _|exact nm1 (by omega)|exact nm2 (by omega) (by omega)|exact dct rfl|exact dct (by decide)|exact dcf (by decide)|exact (Int.toNat_of_nonneg (by omega)).symm|exact dcu|exact lk1 (by assumption)|exact lk0 (by assumption)|exact lkb|fail))|fail) ?_)
      refine SG.call rfl rfl rfl (by repeat' (first | exact True.intro | exact rho_of rfl | refine And.intro ?_ ?_)) ((all_spec hB5 (by omega)).mono (fun e w6 hh => ?_))
      obtain ⟨v6, ys, he6, ho6, hp6, _, hk6⟩ := hh
      refine ⟨_, he6, ?_⟩
      have s6 := hk6.size
      have s5 := hk5.size
      obtain ⟨a6, c6, rfl, hS6⟩ := SlF.own ec_length ho6 rfl
      have hyl : ys.length ≤ 100 := by rw [hp6.length_eq, List.length_map]; omega
      have hB6 := hB5.kp0 hk6
      have hC6 := hC5.kp0 hk6
      have hk06 := hk5.trans hk6
      repeat (first|apply CG.seq|apply CG.region|apply SG.nil|apply NG.next|apply CG.skip|apply CG.block|apply CG.ret|apply CG.exit|apply CG.scope|apply NG.ret_then|apply NG.ret_block|apply NG.ret_scope|apply NG.exit_then|refine NG.exit_block rfl ?_|refine NG.exit_other rfl ?_|apply NG.exit_scope|apply NG.normal_block|apply NG.normal_scope|refine SG.val rfl rfl rfl rfl (by first|((first|apply qmv|apply qas|apply qlc|apply qla|apply qfa|apply qnc|apply qic|apply qix|apply qpk|apply qls|apply qei|apply qni|apply qed|apply qnd|apply qad|apply qln|apply qle|apply qgt|apply qge|apply qlk|apply qlv|apply qxt|apply qsb|apply qnt|apply qep|apply qnp|apply qeb|apply qnb|apply qx2|apply qx4|apply qcv|apply qlm|apply qfr|apply qto|apply qmx|apply qen|apply qsn|apply qx8|apply qx7|apply qx6|apply qx5|apply qx4|apply qx3|apply qx2|apply qx1|apply qx0)<;>(first|exact rfl|exact Ar.mk (by omega)|assumption|exact dct (by assumption)|exact dcf (by assumption)|exact dct (by omega)|exact dcf (by omega)|exact List.not_mem_nil|exact dc_length _|exact nc_length _|exact rc_length _ _ _|exact ec_length _|exact nm1 (by omega)|exact nm2 (by omega) (by omega)|exact dct rfl|exact dct (by decide)|exact dcf (by decide)|exact (Int.toNat_of_nonneg (by omega)).symm|exact dcu|exact lk1 (by assumption)|exact lk0 (by assumption)|exact lkb|fail))|fail) ?_)
      refine CG.loop (X := Nat × List En) (fun q => [(1, .int .i64 y), (7, .pointer (some ⟨bt, 0, none⟩)), (9, .pointer (some ⟨ct, 0, none⟩)), (11, .slice a6 ys.length c6), (12, .int .i64 (q.1 : Int))])
        (fun q w' => q.1 ≤ ys.length ∧ Kp [] w w' ∧ BookAt w' bt bm m ∧ BookAt w' ct cm m' ∧ q.2.length = ys.length ∧ w'.ownsRow w5.heap.size 49 10 (.slice a6 ys.length c6) ys.length (flt ec q.2))
        (fun q => ys.length - q.1) (0, ys) ⟨Nat.zero_le _, hk06, hB6, hC6, rfl, ho6⟩ (by (repeat' (first | exact True.intro | exact rfl | refine And.intro ?_ ?_))) ?_
      rintro ⟨k, zs⟩ w7 ⟨hkl, hk7, hB7, hC7, hzl, hown7⟩
      simp only at hkl hzl hown7
      refine CG.to [(1, .int .i64 y), (7, .pointer (some ⟨bt, 0, none⟩)), (9, .pointer (some ⟨ct, 0, none⟩)), (11, .slice a6 ys.length c6), (12, .int .i64 (k : Int))] (by (repeat' (first | exact True.intro | exact rfl | refine And.intro ?_ ?_))) ?_
      by_cases hkk : k < ys.length
      · have g4 : (k : Int) < (ys.length : Int) := by omega
        have hkz : k < zs.length := by omega
        obtain ⟨a8, c8, e8, hS8⟩ := SlF.own ec_length hown7 hzl
        simp only [Value.slice.injEq] at e8
        obtain ⟨rfl, _, rfl⟩ := e8
        obtain ⟨b8, o8, rfl, hr8⟩ := hS8.sl.at hkz
        obtain ⟨rfl, hb8⟩ := own_off hown7
        obtain ⟨cs8, hB8b⟩ := own_blk hown7 (z := b8) rfl
        obtain ⟨r0, r1, r2⟩ := en_sub hr8
        repeat (first|apply CG.seq|apply CG.region|apply SG.nil|apply NG.next|apply CG.skip|apply CG.block|apply CG.ret|apply CG.exit|apply CG.scope|apply NG.ret_then|apply NG.ret_block|apply NG.ret_scope|apply NG.exit_then|refine NG.exit_block rfl ?_|refine NG.exit_other rfl ?_|apply NG.exit_scope|apply NG.normal_block|apply NG.normal_scope|refine SG.val rfl rfl rfl rfl (by first|((first|apply qmv|apply qas|apply qlc|apply qla|apply qfa|apply qnc|apply qic|apply qix|apply qpk|apply qls|apply qei|apply qni|apply qed|apply qnd|apply qad|apply qln|apply qle|apply qgt|apply qge|apply qlk|apply qlv|apply qxt|apply qsb|apply qnt|apply qep|apply qnp|apply qeb|apply qnb|apply qx2|apply qx4|apply qcv|apply qlm|apply qfr|apply qto|apply qmx|apply qen|apply qsn|apply qx8|apply qx7|apply qx6|apply qx5|apply qx4|apply qx3|apply qx2|apply qx1|apply qx0)<;>(first|exact rfl|exact Ar.mk (by omega)|assumption|exact dct (by assumption)|exact dcf (by assumption)|exact dct (by omega)|exact dcf (by omega)|exact List.not_mem_nil|exact dc_length _|exact nc_length _|exact rc_length _ _ _|exact ec_length _|exact nm1 (by omega)|exact nm2 (by omega) (by omega)|exact dct rfl|exact dct (by decide)|exact dcf (by decide)|exact (Int.toNat_of_nonneg (by omega)).symm|exact dcu|exact lk1 (by assumption)|exact lk0 (by assumption)|exact lkb|fail))|fail) ?_)
        refine CG.cond_t rfl (by exact rho_of rfl) rfl ?_
        repeat (first|apply CG.seq|apply CG.region|apply SG.nil|apply NG.next|apply CG.skip|apply CG.block|apply CG.ret|apply CG.exit|apply CG.scope|apply NG.ret_then|apply NG.ret_block|apply NG.ret_scope|apply NG.exit_then|refine NG.exit_block rfl ?_|refine NG.exit_other rfl ?_|apply NG.exit_scope|apply NG.normal_block|apply NG.normal_scope|refine SG.val rfl rfl rfl rfl (by first|((first|apply qmv|apply qas|apply qlc|apply qla|apply qfa|apply qnc|apply qic|apply qix|apply qpk|apply qls|apply qei|apply qni|apply qed|apply qnd|apply qad|apply qln|apply qle|apply qgt|apply qge|apply qlk|apply qlv|apply qxt|apply qsb|apply qnt|apply qep|apply qnp|apply qeb|apply qnb|apply qx2|apply qx4|apply qcv|apply qlm|apply qfr|apply qto|apply qmx|apply qen|apply qsn|apply qx8|apply qx7|apply qx6|apply qx5|apply qx4|apply qx3|apply qx2|apply qx1|apply qx0)<;>(first|exact rfl|exact Ar.mk (by omega)|assumption|exact dct (by assumption)|exact dcf (by assumption)|exact dct (by omega)|exact dcf (by omega)|exact List.not_mem_nil|exact dc_length _|exact nc_length _|exact rc_length _ _ _|exact ec_length _|exact nm1 (by omega)|exact nm2 (by omega) (by omega)|exact dct rfl|exact dct (by decide)|exact dcf (by decide)|exact (Int.toNat_of_nonneg (by omega)).symm|exact dcu|exact lk1 (by assumption)|exact lk0 (by assumption)|exact lkb|fail))|fail) ?_)
        refine SG.val rfl rfl rfl rfl (vals_addw rfl rfl) ?_
        repeat (first|apply CG.seq|apply CG.region|apply SG.nil|apply NG.next|apply CG.skip|apply CG.block|apply CG.ret|apply CG.exit|apply CG.scope|apply NG.ret_then|apply NG.ret_block|apply NG.ret_scope|apply NG.exit_then|refine NG.exit_block rfl ?_|refine NG.exit_other rfl ?_|apply NG.exit_scope|apply NG.normal_block|apply NG.normal_scope|refine SG.val rfl rfl rfl rfl (by first|((first|apply qmv|apply qas|apply qlc|apply qla|apply qfa|apply qnc|apply qic|apply qix|apply qpk|apply qls|apply qei|apply qni|apply qed|apply qnd|apply qad|apply qln|apply qle|apply qgt|apply qge|apply qlk|apply qlv|apply qxt|apply qsb|apply qnt|apply qep|apply qnp|apply qeb|apply qnb|apply qx2|apply qx4|apply qcv|apply qlm|apply qfr|apply qto|apply qmx|apply qen|apply qsn|apply qx8|apply qx7|apply qx6|apply qx5|apply qx4|apply qx3|apply qx2|apply qx1|apply qx0)<;>(first|exact rfl|exact Ar.mk (by omega)|assumption|exact dct (by assumption)|exact dcf (by assumption)|exact dct (by omega)|exact dcf (by omega)|exact List.not_mem_nil|exact dc_length _|exact nc_length _|exact rc_length _ _ _|exact ec_length _|exact nm1 (by omega)|exact nm2 (by omega) (by omega)|exact dct rfl|exact dct (by decide)|exact dcf (by decide)|exact (Int.toNat_of_nonneg (by omega)).symm|exact dcu|exact lk1 (by assumption)|exact lk0 (by assumption)|exact lkb|fail))|fail) ?_)
        rw [flt_nonce hkz] at hown7
        refine SG.setOwn (flt ec (zs.take k) ++ (dc zs[k].key ++ [.int .i64 zs[k].money])) [.int .i64 zs[k].nonce] (flt ec (zs.drop (k + 1))) rfl rfl (by exact rho_of rfl) (by exact rho_of rfl) hown7 rfl rfl (by rw [List.length_append, flt_length ec_length, List.length_take, List.length_append, dc_length]; simp only [List.length_singleton]; omega) rfl (fun w8 hk8 hown8 => ?_)
        have hset : w8.ownsRow w5.heap.size 49 10 (.slice (some ⟨b8, 0, none⟩) ys.length c6) ys.length (flt ec (zs.set k ⟨zs[k].key, zs[k].money, IntKind.wrap .i64 (zs[k].nonce + y)⟩)) := by
          rw [flt_set hkz]
          have e6 : flt ec (zs.take k) ++ (ec ⟨zs[k].key, zs[k].money, IntKind.wrap .i64 (zs[k].nonce + y)⟩ ++ flt ec (zs.drop (k + 1))) = (flt ec (zs.take k) ++ (dc zs[k].key ++ [.int .i64 zs[k].money])) ++ ((Value.int .i64 (IntKind.wrap .i64 (zs[k].nonce + y))).cells.toList ++ flt ec (zs.drop (k + 1))) := by simp [ec, Value.cells]
          rw [e6]
          exact hown8
        repeat (first|apply CG.seq|apply CG.region|apply SG.nil|apply NG.next|apply CG.skip|apply CG.block|apply CG.ret|apply CG.exit|apply CG.scope|apply NG.ret_then|apply NG.ret_block|apply NG.ret_scope|apply NG.exit_then|refine NG.exit_block rfl ?_|refine NG.exit_other rfl ?_|apply NG.exit_scope|apply NG.normal_block|apply NG.normal_scope|refine SG.val rfl rfl rfl rfl (by first|((first|apply qmv|apply qas|apply qlc|apply qla|apply qfa|apply qnc|apply qic|apply qix|apply qpk|apply qls|apply qei|apply qni|apply qed|apply qnd|apply qad|apply qln|apply qle|apply qgt|apply qge|apply qlk|apply qlv|apply qxt|apply qsb|apply qnt|apply qep|apply qnp|apply qeb|apply qnb|apply qx2|apply qx4|apply qcv|apply qlm|apply qfr|apply qto|apply qmx|apply qen|apply qsn|apply qx8|apply qx7|apply qx6|apply qx5|apply qx4|apply qx3|apply qx2|apply qx1|apply qx0)<;>(first|exact rfl|exact Ar.mk (by omega)|assumption|exact dct (by assumption)|exact dcf (by assumption)|exact dct (by omega)|exact dcf (by omega)|exact List.not_mem_nil|exact dc_length _|exact nc_length _|exact rc_length _ _ _|exact ec_length _|exact nm1 (by omega)|exact nm2 (by omega) (by omega)|exact dct rfl|exact dct (by decide)|exact dcf (by decide)|exact (Int.toNat_of_nonneg (by omega)).symm|exact dcu|exact lk1 (by assumption)|exact lk0 (by assumption)|exact lkb|fail))|fail) ?_)
        refine NG.round (k + 1, zs.set k ⟨zs[k].key, zs[k].money, IntKind.wrap .i64 (zs[k].nonce + y)⟩) (by (repeat' (first | exact True.intro | exact rfl | refine And.intro ?_ ?_))) ⟨by simp only; omega, hk7.trans_new hk8 (new1 (by omega)), hB7.kpe hB8b hk8, hC7.kpe hB8b hk8, by simp only; rw [List.length_set]; exact hzl, hset⟩ (by simp only; omega)
      · have g4 : ¬ (k : Int) < (ys.length : Int) := by omega
        repeat (first|apply CG.seq|apply CG.region|apply SG.nil|apply NG.next|apply CG.skip|apply CG.block|apply CG.ret|apply CG.exit|apply CG.scope|apply NG.ret_then|apply NG.ret_block|apply NG.ret_scope|apply NG.exit_then|refine NG.exit_block rfl ?_|refine NG.exit_other rfl ?_|apply NG.exit_scope|apply NG.normal_block|apply NG.normal_scope|refine SG.val rfl rfl rfl rfl (by first|((first|apply qmv|apply qas|apply qlc|apply qla|apply qfa|apply qnc|apply qic|apply qix|apply qpk|apply qls|apply qei|apply qni|apply qed|apply qnd|apply qad|apply qln|apply qle|apply qgt|apply qge|apply qlk|apply qlv|apply qxt|apply qsb|apply qnt|apply qep|apply qnp|apply qeb|apply qnb|apply qx2|apply qx4|apply qcv|apply qlm|apply qfr|apply qto|apply qmx|apply qen|apply qsn|apply qx8|apply qx7|apply qx6|apply qx5|apply qx4|apply qx3|apply qx2|apply qx1|apply qx0)<;>(first|exact rfl|exact Ar.mk (by omega)|assumption|exact dct (by assumption)|exact dcf (by assumption)|exact dct (by omega)|exact dcf (by omega)|exact List.not_mem_nil|exact dc_length _|exact nc_length _|exact rc_length _ _ _|exact ec_length _|exact nm1 (by omega)|exact nm2 (by omega) (by omega)|exact dct rfl|exact dct (by decide)|exact dcf (by decide)|exact (Int.toNat_of_nonneg (by omega)).symm|exact dcu|exact lk1 (by assumption)|exact lk0 (by assumption)|exact lkb|fail))|fail) ?_)
        refine CG.cond_f rfl (by exact rho_of rfl) rfl ?_
        repeat (first|apply CG.seq|apply CG.region|apply SG.nil|apply NG.next|apply CG.skip|apply CG.block|apply CG.ret|apply CG.exit|apply CG.scope|apply NG.ret_then|apply NG.ret_block|apply NG.ret_scope|apply NG.exit_then|refine NG.exit_block rfl ?_|refine NG.exit_other rfl ?_|apply NG.exit_scope|apply NG.normal_block|apply NG.normal_scope|refine SG.val rfl rfl rfl rfl (by first|((first|apply qmv|apply qas|apply qlc|apply qla|apply qfa|apply qnc|apply qic|apply qix|apply qpk|apply qls|apply qei|apply qni|apply qed|apply qnd|apply qad|apply qln|apply qle|apply qgt|apply qge|apply qlk|apply qlv|apply qxt|apply qsb|apply qnt|apply qep|apply qnp|apply qeb|apply qnb|apply qx2|apply qx4|apply qcv|apply qlm|apply qfr|apply qto|apply qmx|apply qen|apply qsn|apply qx8|apply qx7|apply qx6|apply qx5|apply qx4|apply qx3|apply qx2|apply qx1|apply qx0)<;>(first|exact rfl|exact Ar.mk (by omega)|assumption|exact dct (by assumption)|exact dcf (by assumption)|exact dct (by omega)|exact dcf (by omega)|exact List.not_mem_nil|exact dc_length _|exact nc_length _|exact rc_length _ _ _|exact ec_length _|exact nm1 (by omega)|exact nm2 (by omega) (by omega)|exact dct rfl|exact dct (by decide)|exact dcf (by decide)|exact (Int.toNat_of_nonneg (by omega)).symm|exact dcu|exact lk1 (by assumption)|exact lk0 (by assumption)|exact lkb|fail))|fail) ?_)
        refine SG.ret rfl rfl rfl (by repeat' (first | exact True.intro | exact rho_of rfl | refine And.intro ?_ ?_)) (same_spec hB7 hC7 hg hg') (fun w9 hk9 => ?_)
        rw [hsame]
        repeat (first|apply CG.seq|apply CG.region|apply SG.nil|apply NG.next|apply CG.skip|apply CG.block|apply CG.ret|apply CG.exit|apply CG.scope|apply NG.ret_then|apply NG.ret_block|apply NG.ret_scope|apply NG.exit_then|refine NG.exit_block rfl ?_|refine NG.exit_other rfl ?_|apply NG.exit_scope|apply NG.normal_block|apply NG.normal_scope|refine SG.val rfl rfl rfl rfl (by first|((first|apply qmv|apply qas|apply qlc|apply qla|apply qfa|apply qnc|apply qic|apply qix|apply qpk|apply qls|apply qei|apply qni|apply qed|apply qnd|apply qad|apply qln|apply qle|apply qgt|apply qge|apply qlk|apply qlv|apply qxt|apply qsb|apply qnt|apply qep|apply qnp|apply qeb|apply qnb|apply qx2|apply qx4|apply qcv|apply qlm|apply qfr|apply qto|apply qmx|apply qen|apply qsn|apply qx8|apply qx7|apply qx6|apply qx5|apply qx4|apply qx3|apply qx2|apply qx1|apply qx0)<;>(first|exact rfl|exact Ar.mk (by omega)|assumption|exact dct (by assumption)|exact dcf (by assumption)|exact dct (by omega)|exact dcf (by omega)|exact List.not_mem_nil|exact dc_length _|exact nc_length _|exact rc_length _ _ _|exact ec_length _|exact nm1 (by omega)|exact nm2 (by omega) (by omega)|exact dct rfl|exact dct (by decide)|exact dcf (by decide)|exact (Int.toNat_of_nonneg (by omega)).symm|exact dcu|exact lk1 (by assumption)|exact lk0 (by assumption)|exact lkb|fail))|fail) ?_)
        refine ret1 (Or.inl rfl) Try.results10 (by first | exact ResV.tmp rfl | exact ResV.agg rfl rfl (by assumption) (by first | exact dc_length _ | exact nc_length _ | exact rc_length _ _ _ | exact ec_length _ | rfl) | exact ResV.cell rfl rfl (by assumption)) ?_
        exact ⟨rfl, hk7.trans hk9⟩
end Go.Proofs.Ytkkfppfpbobghaa
/-
  The document's accounts: found, set, moved, used, all money; two the same.
-/
namespace Go.Proofs.Ytkkfppfpbobghaa
set_option linter.unusedVariables false

/-- Where a key's account stands. -/
def idx (l : List En) (k : Dg) : Nat := l.findIdx (fun e => decide (e.key = k))
theorem find_at (l : List En) (k : Dg) : l.find? (fun e => decide (e.key = k)) = l[idx l k]? := List.find?_eq_getElem?_findIdx
theorem idx_le (l : List En) (k : Dg) : idx l k ≤ l.length := List.findIdx_le_length
theorem idx_key {l : List En} {k : Dg} (h : idx l k < l.length) : l[idx l k].key = k := by
  have := List.findIdx_getElem (w := h)
  exact of_decide_eq_true this
theorem idx_not {l : List En} {k : Dg} {i : Nat} (h : i < idx l k) : (l[i]'(Nat.lt_of_lt_of_le h (idx_le l k))).key ≠ k := by
  have := List.not_of_lt_findIdx h
  simpa using this
theorem idx_eq {l : List En} {k : Dg} {i : Nat} (h : i < l.length) (h1 : l[i].key = k) (h2 : ∀ j (hj : j < l.length), j < i → l[j].key ≠ k) : idx l k = i := by
  apply Nat.le_antisymm
  · apply Nat.le_of_not_lt
    intro hlt
    exact idx_not hlt h1
  · apply Nat.le_of_not_lt
    intro hlt
    exact h2 (idx l k) (by omega) hlt (idx_key (by omega))
theorem idx_none {l : List En} {k : Dg} (h : ∀ j (hj : j < l.length), l[j].key ≠ k) : idx l k = l.length := by
  apply Nat.le_antisymm (idx_le l k)
  apply Nat.le_of_not_lt
  intro hlt
  exact h _ hlt (idx_key hlt)
def idxI (l : List En) (k : Dg) : Int := if idx l k < l.length then (idx l k : Int) else -1
theorem ofL_at {l : List En} {k : Dg} (h : idx l k < l.length) : enOf k (ofL l k) = l[idx l k] := by
  unfold ofL
  rw [find_at, List.getElem?_eq_getElem h]
  exact En.ext (idx_key h).symm rfl rfl
theorem ofL_no {l : List En} {k : Dg} (h : ¬ idx l k < l.length) : ofL l k = p0 := by
  unfold ofL
  rw [find_at, List.getElem?_eq_none (by omega)]
/-- A key's account is another one. -/
def setL (l : List En) (e : En) : List En := if idx l e.key < l.length then l.set (idx l e.key) e else l ++ [e]
theorem setL_length (l : List En) (e : En) : (setL l e).length ≤ l.length + 1 := by
  unfold setL
  split <;> simp
theorem setL_keys {l : List En} (h : (l.map (·.key)).Nodup) (e : En) : ((setL l e).map (·.key)).Nodup := by
  unfold setL
  split
  · rename_i hi
    have : (l.set (idx l e.key) e).map (·.key) = l.map (·.key) := by
      rw [List.map_set]
      apply List.ext_getElem?
      intro j
      rw [List.getElem?_set]
      by_cases hj : idx l e.key = j
      · subst hj
        rw [if_pos rfl, if_pos (by simpa using hi), List.getElem?_map, List.getElem?_eq_getElem hi, Option.map_some, idx_key hi]
      · rw [if_neg hj]
    rw [this]
    exact h
  · rename_i hi
    rw [List.map_append, List.nodup_append]
    refine ⟨h, by simp, fun a ha b hb => ?_⟩
    simp at hb
    subst hb
    obtain ⟨x, hx, rfl⟩ := List.mem_map.1 ha
    obtain ⟨j, hj, rfl⟩ := List.mem_iff_getElem.1 hx
    exact idx_not (by have := idx_le l e.key; omega)
theorem ofL_mem {l : List En} (h : (l.map (·.key)).Nodup) {e : En} (he : e ∈ l) : ofL l e.key = ⟨e.money, e.nonce⟩ := by
  induction l with
  | nil => cases he
  | cons x l ih =>
    rw [List.map_cons, List.nodup_cons] at h
    unfold ofL
    rw [List.find?_cons]
    by_cases ek : x.key = e.key
    · rcases List.mem_cons.1 he with rfl | he
      · simp
      · exact absurd (List.mem_map.2 ⟨e, he, ek.symm⟩) h.1
    · rcases List.mem_cons.1 he with rfl | he
      · exact absurd rfl ek
      · simp only [ek, decide_false]
        exact ih h.2 he
theorem ofL_not {l : List En} {k : Dg} (h : ∀ e ∈ l, e.key ≠ k) : ofL l k = p0 := by
  unfold ofL
  have : l.find? (fun e => decide (e.key = k)) = none := by
    rw [List.find?_eq_none]
    intro e he
    simpa using h e he
  rw [this]
theorem ofL_set {l : List En} (h : (l.map (·.key)).Nodup) (e : En) (k : Dg) : ofL (setL l e) k = if e.key = k then ⟨e.money, e.nonce⟩ else ofL l k := by
  have hn := setL_keys h e
  by_cases ek : e.key = k
  · rw [if_pos ek, ← ek]
    refine ofL_mem hn ?_
    unfold setL
    split
    · exact List.mem_set ‹_› _
    · simp
  · rw [if_neg ek]
    by_cases hk : ∃ x ∈ l, x.key = k
    · obtain ⟨x, hx, rfl⟩ := hk
      rw [ofL_mem h hx]
      refine ofL_mem hn ?_
      unfold setL
      split
      · rename_i hi
        obtain ⟨j, hj, rfl⟩ := List.mem_iff_getElem.1 hx
        have hji : idx l e.key ≠ j := fun hh => by
          subst hh
          exact ek (idx_key hi).symm
        refine List.mem_iff_getElem?.2 ⟨j, ?_⟩
        rw [List.getElem?_set_ne hji, List.getElem?_eq_getElem hj]
      · simp [hx]
    · have h1 : ∀ x ∈ l, x.key ≠ k := fun x hx he => hk ⟨x, hx, he⟩
      rw [ofL_not h1]
      refine ofL_not (fun x hx => ?_)
      unfold setL at hx
      split at hx
      · rcases List.mem_or_eq_of_mem_set hx with hx | rfl
        · exact h1 x hx
        · exact ek
      · rcases List.mem_append.1 hx with hx | hx
        · exact h1 x hx
        · simp at hx
          subst hx
          exact ek
theorem esum_set {l : List En} (e : En) : esum (setL l e) = esum l - (ofL l e.key).money + e.money := by
  unfold setL
  split
  · rename_i hi
    rw [List.set_eq_take_append_cons_drop, if_pos hi, esum_append, esum_cons]
    have h1 : l = l.take (idx l e.key) ++ l[idx l e.key] :: l.drop (idx l e.key + 1) := by rw [List.getElem_cons_drop, List.take_append_drop]
    have h2 := congrArg esum h1
    rw [esum_append, esum_cons] at h2
    have h3 := ofL_at hi
    have h4 : (ofL l e.key).money = l[idx l e.key].money := by rw [← h3]; rfl
    omega
  · rename_i hi
    rw [ofL_no hi, esum_append]
    simp [esum, p0]

attribute [local irreducible] CG NG SG Vals Der Row Blk MapIs IterAt DerX
set_option maxHeartbeats 16000000 in
theorem find_spec {w : World} {a : Option Addr} {l : List En} (c : Nat) (h : SlE w a l) (hl : l.length ≤ 100000) (k : Dg) : Ret Try.prog 36 #[.slice a l.length c, dv k] w (.int .i64 (idxI l k)) := by
  refine enter2 Try.func36 rfl Try.ntmps36 rfl ?_
  repeat (first|apply CG.seq|apply CG.region|apply SG.nil|apply NG.next|apply CG.skip|apply CG.block|apply CG.ret|apply CG.exit|apply CG.scope|apply NG.ret_then|apply NG.ret_block|apply NG.ret_scope|apply NG.exit_then|refine NG.exit_block rfl ?_|refine NG.exit_other rfl ?_|apply NG.exit_scope|apply NG.normal_block|apply NG.normal_scope|refine SG.val rfl rfl rfl rfl (by first|((first|apply qmv|apply qas|apply qlc|apply qla|apply qfa|apply qnc|apply qic|apply qix|apply qpk|apply qls|apply qei|apply qni|apply qed|apply qnd|apply qad|apply qln|apply qle|apply qgt|apply qge|apply qlk|apply qlv|apply qxt|apply qsb|apply qnt|apply qep|apply qnp|apply qeb|apply qnb|apply qx2|apply qx4|apply qcv|apply qlm|apply qfr|apply qto|apply qmx|apply qen|apply qsn|apply qx8|apply qx7|apply qx6|apply qx5|apply qx4|apply qx3|apply qx2|apply qx1|apply qx0)<;>(first|exact rfl|exact Ar.mk (by omega)|assumption|exact dct (by assumption)|exact dcf (by assumption)|exact dct (by omega)|exact dcf (by omega)|exact List.not_mem_nil|exact dc_length _|exact nc_length _|exact rc_length _ _ _|exact ec_length _|exact nm1 (by omega)|exact nm2 (by omega) (by omega)|exact dct rfl|exact dct (by decide)|exact dcf (by decide)|exact (Int.toNat_of_nonneg (by omega)).symm|exact dcu|exact lk1 (by assumption)|exact lk0 (by assumption)|exact lkb|fail))|fail) ?_)
  refine SG.box rfl rfl rfl (by exact rho_of rfl) (fun b3 w1 hk1 hb3 hB3 => ?_)
  repeat (first|apply CG.seq|apply CG.region|apply SG.nil|apply NG.next|apply CG.skip|apply CG.block|apply CG.ret|apply CG.exit|apply CG.scope|apply NG.ret_then|apply NG.ret_block|apply NG.ret_scope|apply NG.exit_then|refine NG.exit_block rfl ?_|refine NG.exit_other rfl ?_|apply NG.exit_scope|apply NG.normal_block|apply NG.normal_scope|refine SG.val rfl rfl rfl rfl (by first|((first|apply qmv|apply qas|apply qlc|apply qla|apply qfa|apply qnc|apply qic|apply qix|apply qpk|apply qls|apply qei|apply qni|apply qed|apply qnd|apply qad|apply qln|apply qle|apply qgt|apply qge|apply qlk|apply qlv|apply qxt|apply qsb|apply qnt|apply qep|apply qnp|apply qeb|apply qnb|apply qx2|apply qx4|apply qcv|apply qlm|apply qfr|apply qto|apply qmx|apply qen|apply qsn|apply qx8|apply qx7|apply qx6|apply qx5|apply qx4|apply qx3|apply qx2|apply qx1|apply qx0)<;>(first|exact rfl|exact Ar.mk (by omega)|assumption|exact dct (by assumption)|exact dcf (by assumption)|exact dct (by omega)|exact dcf (by omega)|exact List.not_mem_nil|exact dc_length _|exact nc_length _|exact rc_length _ _ _|exact ec_length _|exact nm1 (by omega)|exact nm2 (by omega) (by omega)|exact dct rfl|exact dct (by decide)|exact dcf (by decide)|exact (Int.toNat_of_nonneg (by omega)).symm|exact dcu|exact lk1 (by assumption)|exact lk0 (by assumption)|exact lkb|fail))|fail) ?_)
  refine CG.loop (X := Nat) (fun q => [(0, .slice a l.length c), (3, .pointer (some ⟨b3, 0, none⟩)), (5, .int .i64 (q : Int))])
    (fun q w' => q ≤ l.length ∧ Kp [] w1 w' ∧ ∀ j (hj : j < l.length), j < q → l[j].key ≠ k)
    (fun q => l.length - q) 0 ⟨Nat.zero_le _, Kp.refl _ _, fun j hj h0 => absurd h0 (by omega)⟩ (by (repeat' (first | exact True.intro | exact rfl | refine And.intro ?_ ?_))) ?_
  rintro i w2 ⟨hi, hk, hno⟩
  by_cases hlt : i < l.length
  · have g1 : (i : Int) < (l.length : Int) := by omega
    obtain ⟨b, off, rfl, hr⟩ := (h.kp0 (hk1.trans hk)).at hlt
    obtain ⟨x, hx⟩ : ∃ x, x = l[i] := ⟨_, rfl⟩
    rw [← hx] at hr
    obtain ⟨q0, q1, q2⟩ := en_sub hr
    have hR3 : Row w2 b3 0 (dc k) := (Row.all hB3 rfl : Row w1 b3 0 (dc k)).kp0 hk
    repeat (first|apply CG.seq|apply CG.region|apply SG.nil|apply NG.next|apply CG.skip|apply CG.block|apply CG.ret|apply CG.exit|apply CG.scope|apply NG.ret_then|apply NG.ret_block|apply NG.ret_scope|apply NG.exit_then|refine NG.exit_block rfl ?_|refine NG.exit_other rfl ?_|apply NG.exit_scope|apply NG.normal_block|apply NG.normal_scope|refine SG.val rfl rfl rfl rfl (by first|((first|apply qmv|apply qas|apply qlc|apply qla|apply qfa|apply qnc|apply qic|apply qix|apply qpk|apply qls|apply qei|apply qni|apply qed|apply qnd|apply qad|apply qln|apply qle|apply qgt|apply qge|apply qlk|apply qlv|apply qxt|apply qsb|apply qnt|apply qep|apply qnp|apply qeb|apply qnb|apply qx2|apply qx4|apply qcv|apply qlm|apply qfr|apply qto|apply qmx|apply qen|apply qsn|apply qx8|apply qx7|apply qx6|apply qx5|apply qx4|apply qx3|apply qx2|apply qx1|apply qx0)<;>(first|exact rfl|exact Ar.mk (by omega)|assumption|exact dct (by assumption)|exact dcf (by assumption)|exact dct (by omega)|exact dcf (by omega)|exact List.not_mem_nil|exact dc_length _|exact nc_length _|exact rc_length _ _ _|exact ec_length _|exact nm1 (by omega)|exact nm2 (by omega) (by omega)|exact dct rfl|exact dct (by decide)|exact dcf (by decide)|exact (Int.toNat_of_nonneg (by omega)).symm|exact dcu|exact lk1 (by assumption)|exact lk0 (by assumption)|exact lkb|fail))|fail) ?_)
    refine CG.cond_t rfl (by exact rho_of rfl) rfl ?_
    repeat (first|apply CG.seq|apply CG.region|apply SG.nil|apply NG.next|apply CG.skip|apply CG.block|apply CG.ret|apply CG.exit|apply CG.scope|apply NG.ret_then|apply NG.ret_block|apply NG.ret_scope|apply NG.exit_then|refine NG.exit_block rfl ?_|refine NG.exit_other rfl ?_|apply NG.exit_scope|apply NG.normal_block|apply NG.normal_scope|refine SG.val rfl rfl rfl rfl (by first|((first|apply qmv|apply qas|apply qlc|apply qla|apply qfa|apply qnc|apply qic|apply qix|apply qpk|apply qls|apply qei|apply qni|apply qed|apply qnd|apply qad|apply qln|apply qle|apply qgt|apply qge|apply qlk|apply qlv|apply qxt|apply qsb|apply qnt|apply qep|apply qnp|apply qeb|apply qnb|apply qx2|apply qx4|apply qcv|apply qlm|apply qfr|apply qto|apply qmx|apply qen|apply qsn|apply qx8|apply qx7|apply qx6|apply qx5|apply qx4|apply qx3|apply qx2|apply qx1|apply qx0)<;>(first|exact rfl|exact Ar.mk (by omega)|assumption|exact dct (by assumption)|exact dcf (by assumption)|exact dct (by omega)|exact dcf (by omega)|exact List.not_mem_nil|exact dc_length _|exact nc_length _|exact rc_length _ _ _|exact ec_length _|exact nm1 (by omega)|exact nm2 (by omega) (by omega)|exact dct rfl|exact dct (by decide)|exact dcf (by decide)|exact (Int.toNat_of_nonneg (by omega)).symm|exact dcu|exact lk1 (by assumption)|exact lk0 (by assumption)|exact lkb|fail))|fail) ?_)
    refine CG.draw0 mixed [0, 1, 2, 3, 4, 5, 6] [] (by kernel_rfl) ?_
    by_cases e : x.key = k
    · repeat (refine Der.val rfl rfl rfl (by first|((first|apply qmv|apply qas|apply qlc|apply qla|apply qfa|apply qnc|apply qic|apply qix|apply qpk|apply qls|apply qei|apply qni|apply qed|apply qnd|apply qad|apply qln|apply qle|apply qgt|apply qge|apply qlk|apply qlv|apply qxt|apply qsb|apply qnt|apply qep|apply qnp|apply qeb|apply qnb|apply qx2|apply qx4|apply qcv|apply qlm|apply qfr|apply qto|apply qmx|apply qen|apply qsn|apply qx8|apply qx7|apply qx6|apply qx5|apply qx4|apply qx3|apply qx2|apply qx1|apply qx0)<;>(first|exact rfl|exact Ar.mk (by omega)|assumption|exact dct (by assumption)|exact dcf (by assumption)|exact dct (by omega)|exact dcf (by omega)|exact List.not_mem_nil|exact dc_length _|exact nc_length _|exact rc_length _ _ _|exact ec_length _|exact nm1 (by omega)|exact nm2 (by omega) (by omega)|exact dct rfl|exact dct (by decide)|exact dcf (by decide)|exact (Int.toNat_of_nonneg (by omega)).symm|exact dcu|exact lk1 (by assumption)|exact lk0 (by assumption)|exact lkb|fail))|fail) ?_)
      refine Der.fin (fun w3 hk3 _ _ => ?_)
      repeat (first|apply CG.seq|apply CG.region|apply SG.nil|apply NG.next|apply CG.skip|apply CG.block|apply CG.ret|apply CG.exit|apply CG.scope|apply NG.ret_then|apply NG.ret_block|apply NG.ret_scope|apply NG.exit_then|refine NG.exit_block rfl ?_|refine NG.exit_other rfl ?_|apply NG.exit_scope|apply NG.normal_block|apply NG.normal_scope|refine SG.val rfl rfl rfl rfl (by first|((first|apply qmv|apply qas|apply qlc|apply qla|apply qfa|apply qnc|apply qic|apply qix|apply qpk|apply qls|apply qei|apply qni|apply qed|apply qnd|apply qad|apply qln|apply qle|apply qgt|apply qge|apply qlk|apply qlv|apply qxt|apply qsb|apply qnt|apply qep|apply qnp|apply qeb|apply qnb|apply qx2|apply qx4|apply qcv|apply qlm|apply qfr|apply qto|apply qmx|apply qen|apply qsn|apply qx8|apply qx7|apply qx6|apply qx5|apply qx4|apply qx3|apply qx2|apply qx1|apply qx0)<;>(first|exact rfl|exact Ar.mk (by omega)|assumption|exact dct (by assumption)|exact dcf (by assumption)|exact dct (by omega)|exact dcf (by omega)|exact List.not_mem_nil|exact dc_length _|exact nc_length _|exact rc_length _ _ _|exact ec_length _|exact nm1 (by omega)|exact nm2 (by omega) (by omega)|exact dct rfl|exact dct (by decide)|exact dcf (by decide)|exact (Int.toNat_of_nonneg (by omega)).symm|exact dcu|exact lk1 (by assumption)|exact lk0 (by assumption)|exact lkb|fail))|fail) ?_)
      refine CG.cond_t rfl (by exact rho_of rfl) rfl ?_
      repeat (first|apply CG.seq|apply CG.region|apply SG.nil|apply NG.next|apply CG.skip|apply CG.block|apply CG.ret|apply CG.exit|apply CG.scope|apply NG.ret_then|apply NG.ret_block|apply NG.ret_scope|apply NG.exit_then|refine NG.exit_block rfl ?_|refine NG.exit_other rfl ?_|apply NG.exit_scope|apply NG.normal_block|apply NG.normal_scope|refine SG.val rfl rfl rfl rfl (by first|((first|apply qmv|apply qas|apply qlc|apply qla|apply qfa|apply qnc|apply qic|apply qix|apply qpk|apply qls|apply qei|apply qni|apply qed|apply qnd|apply qad|apply qln|apply qle|apply qgt|apply qge|apply qlk|apply qlv|apply qxt|apply qsb|apply qnt|apply qep|apply qnp|apply qeb|apply qnb|apply qx2|apply qx4|apply qcv|apply qlm|apply qfr|apply qto|apply qmx|apply qen|apply qsn|apply qx8|apply qx7|apply qx6|apply qx5|apply qx4|apply qx3|apply qx2|apply qx1|apply qx0)<;>(first|exact rfl|exact Ar.mk (by omega)|assumption|exact dct (by assumption)|exact dcf (by assumption)|exact dct (by omega)|exact dcf (by omega)|exact List.not_mem_nil|exact dc_length _|exact nc_length _|exact rc_length _ _ _|exact ec_length _|exact nm1 (by omega)|exact nm2 (by omega) (by omega)|exact dct rfl|exact dct (by decide)|exact dcf (by decide)|exact (Int.toNat_of_nonneg (by omega)).symm|exact dcu|exact lk1 (by assumption)|exact lk0 (by assumption)|exact lkb|fail))|fail) ?_)
      refine ret1 (Or.inl rfl) Try.results36 (by first | exact ResV.tmp rfl | exact ResV.agg rfl rfl (by assumption) (by first | exact dc_length _ | exact nc_length _ | exact rc_length _ _ _ | exact ec_length _ | rfl) | exact ResV.cell rfl rfl (by assumption)) ?_
      have : idx l k = i := idx_eq hlt (by rw [← hx]; exact e) hno
      refine ⟨?_, (hk1.trans hk).trans hk3⟩
      unfold idxI
      rw [this, if_pos hlt]
    · repeat (refine Der.val rfl rfl rfl (by first|((first|apply qmv|apply qas|apply qlc|apply qla|apply qfa|apply qnc|apply qic|apply qix|apply qpk|apply qls|apply qei|apply qni|apply qed|apply qnd|apply qad|apply qln|apply qle|apply qgt|apply qge|apply qlk|apply qlv|apply qxt|apply qsb|apply qnt|apply qep|apply qnp|apply qeb|apply qnb|apply qx2|apply qx4|apply qcv|apply qlm|apply qfr|apply qto|apply qmx|apply qen|apply qsn|apply qx8|apply qx7|apply qx6|apply qx5|apply qx4|apply qx3|apply qx2|apply qx1|apply qx0)<;>(first|exact rfl|exact Ar.mk (by omega)|assumption|exact dct (by assumption)|exact dcf (by assumption)|exact dct (by omega)|exact dcf (by omega)|exact List.not_mem_nil|exact dc_length _|exact nc_length _|exact rc_length _ _ _|exact ec_length _|exact nm1 (by omega)|exact nm2 (by omega) (by omega)|exact dct rfl|exact dct (by decide)|exact dcf (by decide)|exact (Int.toNat_of_nonneg (by omega)).symm|exact dcu|exact lk1 (by assumption)|exact lk0 (by assumption)|exact lkb|fail))|fail) ?_)
      refine Der.fin (fun w3 hk3 _ _ => ?_)
      repeat (first|apply CG.seq|apply CG.region|apply SG.nil|apply NG.next|apply CG.skip|apply CG.block|apply CG.ret|apply CG.exit|apply CG.scope|apply NG.ret_then|apply NG.ret_block|apply NG.ret_scope|apply NG.exit_then|refine NG.exit_block rfl ?_|refine NG.exit_other rfl ?_|apply NG.exit_scope|apply NG.normal_block|apply NG.normal_scope|refine SG.val rfl rfl rfl rfl (by first|((first|apply qmv|apply qas|apply qlc|apply qla|apply qfa|apply qnc|apply qic|apply qix|apply qpk|apply qls|apply qei|apply qni|apply qed|apply qnd|apply qad|apply qln|apply qle|apply qgt|apply qge|apply qlk|apply qlv|apply qxt|apply qsb|apply qnt|apply qep|apply qnp|apply qeb|apply qnb|apply qx2|apply qx4|apply qcv|apply qlm|apply qfr|apply qto|apply qmx|apply qen|apply qsn|apply qx8|apply qx7|apply qx6|apply qx5|apply qx4|apply qx3|apply qx2|apply qx1|apply qx0)<;>(first|exact rfl|exact Ar.mk (by omega)|assumption|exact dct (by assumption)|exact dcf (by assumption)|exact dct (by omega)|exact dcf (by omega)|exact List.not_mem_nil|exact dc_length _|exact nc_length _|exact rc_length _ _ _|exact ec_length _|exact nm1 (by omega)|exact nm2 (by omega) (by omega)|exact dct rfl|exact dct (by decide)|exact dcf (by decide)|exact (Int.toNat_of_nonneg (by omega)).symm|exact dcu|exact lk1 (by assumption)|exact lk0 (by assumption)|exact lkb|fail))|fail) ?_)
      refine CG.cond_f rfl (by exact rho_of rfl) rfl ?_
      repeat (first|apply CG.seq|apply CG.region|apply SG.nil|apply NG.next|apply CG.skip|apply CG.block|apply CG.ret|apply CG.exit|apply CG.scope|apply NG.ret_then|apply NG.ret_block|apply NG.ret_scope|apply NG.exit_then|refine NG.exit_block rfl ?_|refine NG.exit_other rfl ?_|apply NG.exit_scope|apply NG.normal_block|apply NG.normal_scope|refine SG.val rfl rfl rfl rfl (by first|((first|apply qmv|apply qas|apply qlc|apply qla|apply qfa|apply qnc|apply qic|apply qix|apply qpk|apply qls|apply qei|apply qni|apply qed|apply qnd|apply qad|apply qln|apply qle|apply qgt|apply qge|apply qlk|apply qlv|apply qxt|apply qsb|apply qnt|apply qep|apply qnp|apply qeb|apply qnb|apply qx2|apply qx4|apply qcv|apply qlm|apply qfr|apply qto|apply qmx|apply qen|apply qsn|apply qx8|apply qx7|apply qx6|apply qx5|apply qx4|apply qx3|apply qx2|apply qx1|apply qx0)<;>(first|exact rfl|exact Ar.mk (by omega)|assumption|exact dct (by assumption)|exact dcf (by assumption)|exact dct (by omega)|exact dcf (by omega)|exact List.not_mem_nil|exact dc_length _|exact nc_length _|exact rc_length _ _ _|exact ec_length _|exact nm1 (by omega)|exact nm2 (by omega) (by omega)|exact dct rfl|exact dct (by decide)|exact dcf (by decide)|exact (Int.toNat_of_nonneg (by omega)).symm|exact dcu|exact lk1 (by assumption)|exact lk0 (by assumption)|exact lkb|fail))|fail) ?_)
      refine NG.round (i + 1) (by (repeat' (first | exact True.intro | exact rfl | refine And.intro ?_ ?_))) ⟨hlt, hk.trans hk3, fun j hj h0 => ?_⟩ (by omega)
      by_cases ej : j = i
      · subst ej
        rw [← hx]
        exact e
      · exact hno j hj (by omega)
  · have g1 : ¬ (i : Int) < (l.length : Int) := by omega
    repeat (first|apply CG.seq|apply CG.region|apply SG.nil|apply NG.next|apply CG.skip|apply CG.block|apply CG.ret|apply CG.exit|apply CG.scope|apply NG.ret_then|apply NG.ret_block|apply NG.ret_scope|apply NG.exit_then|refine NG.exit_block rfl ?_|refine NG.exit_other rfl ?_|apply NG.exit_scope|apply NG.normal_block|apply NG.normal_scope|refine SG.val rfl rfl rfl rfl (by first|((first|apply qmv|apply qas|apply qlc|apply qla|apply qfa|apply qnc|apply qic|apply qix|apply qpk|apply qls|apply qei|apply qni|apply qed|apply qnd|apply qad|apply qln|apply qle|apply qgt|apply qge|apply qlk|apply qlv|apply qxt|apply qsb|apply qnt|apply qep|apply qnp|apply qeb|apply qnb|apply qx2|apply qx4|apply qcv|apply qlm|apply qfr|apply qto|apply qmx|apply qen|apply qsn|apply qx8|apply qx7|apply qx6|apply qx5|apply qx4|apply qx3|apply qx2|apply qx1|apply qx0)<;>(first|exact rfl|exact Ar.mk (by omega)|assumption|exact dct (by assumption)|exact dcf (by assumption)|exact dct (by omega)|exact dcf (by omega)|exact List.not_mem_nil|exact dc_length _|exact nc_length _|exact rc_length _ _ _|exact ec_length _|exact nm1 (by omega)|exact nm2 (by omega) (by omega)|exact dct rfl|exact dct (by decide)|exact dcf (by decide)|exact (Int.toNat_of_nonneg (by omega)).symm|exact dcu|exact lk1 (by assumption)|exact lk0 (by assumption)|exact lkb|fail))|fail) ?_)
    refine CG.cond_f rfl (by exact rho_of rfl) rfl ?_
    repeat (first|apply CG.seq|apply CG.region|apply SG.nil|apply NG.next|apply CG.skip|apply CG.block|apply CG.ret|apply CG.exit|apply CG.scope|apply NG.ret_then|apply NG.ret_block|apply NG.ret_scope|apply NG.exit_then|refine NG.exit_block rfl ?_|refine NG.exit_other rfl ?_|apply NG.exit_scope|apply NG.normal_block|apply NG.normal_scope|refine SG.val rfl rfl rfl rfl (by first|((first|apply qmv|apply qas|apply qlc|apply qla|apply qfa|apply qnc|apply qic|apply qix|apply qpk|apply qls|apply qei|apply qni|apply qed|apply qnd|apply qad|apply qln|apply qle|apply qgt|apply qge|apply qlk|apply qlv|apply qxt|apply qsb|apply qnt|apply qep|apply qnp|apply qeb|apply qnb|apply qx2|apply qx4|apply qcv|apply qlm|apply qfr|apply qto|apply qmx|apply qen|apply qsn|apply qx8|apply qx7|apply qx6|apply qx5|apply qx4|apply qx3|apply qx2|apply qx1|apply qx0)<;>(first|exact rfl|exact Ar.mk (by omega)|assumption|exact dct (by assumption)|exact dcf (by assumption)|exact dct (by omega)|exact dcf (by omega)|exact List.not_mem_nil|exact dc_length _|exact nc_length _|exact rc_length _ _ _|exact ec_length _|exact nm1 (by omega)|exact nm2 (by omega) (by omega)|exact dct rfl|exact dct (by decide)|exact dcf (by decide)|exact (Int.toNat_of_nonneg (by omega)).symm|exact dcu|exact lk1 (by assumption)|exact lk0 (by assumption)|exact lkb|fail))|fail) ?_)
    refine ret1 (Or.inl rfl) Try.results36 (by first | exact ResV.tmp rfl | exact ResV.agg rfl rfl (by assumption) (by first | exact dc_length _ | exact nc_length _ | exact rc_length _ _ _ | exact ec_length _ | rfl) | exact ResV.cell rfl rfl (by assumption)) ?_
    have : idx l k = l.length := idx_none (fun j hj => hno j hj (by omega))
    refine ⟨?_, hk1.trans hk⟩
    unfold idxI
    rw [this, if_neg (by omega)]
theorem build62b (w : World) (a0 a1 a2 a3 a4 a5 a6 a7 : UInt8) : (Instr.build 62 #[(0, .agg #[bv a0, bv a1, bv a2, bv a3, bv a4, bv a5, bv a6, bv a7])]).run Try.prog w =
    .ok (.agg #[bv a0, bv a1, bv a2, bv a3, bv a4, bv a5, bv a6, bv a7, Value.int .i64 0, Value.int .i64 0]) w := by kernel_rfl
theorem build62k (w : World) (k : Dg) : (Instr.build 62 #[(0, dv k)]).run Try.prog w = .ok (ev ⟨k, 0, 0⟩) w := by
  obtain ⟨la, ha⟩ := k
  match la, ha with
  | [a0, a1, a2, a3, a4, a5, a6, a7], _ => exact build62b w a0 a1 a2 a3 a4 a5 a6 a7
set_option maxHeartbeats 16000000 in
theorem rof_spec {w : World} {a : Option Addr} {l : List En} (c : Nat) (h : SlE w a l) (hl : l.length ≤ 100000) (k : Dg) : Ret Try.prog 28 #[.slice a l.length c, dv k] w (ev (enOf k (ofL l k))) := by
  refine enter2 Try.func28 rfl Try.ntmps28 rfl ?_
  repeat (first|apply CG.seq|apply CG.region|apply SG.nil|apply NG.next|apply CG.skip|apply CG.block|apply CG.ret|apply CG.exit|apply CG.scope|apply NG.ret_then|apply NG.ret_block|apply NG.ret_scope|apply NG.exit_then|refine NG.exit_block rfl ?_|refine NG.exit_other rfl ?_|apply NG.exit_scope|apply NG.normal_block|apply NG.normal_scope|refine SG.val rfl rfl rfl rfl (by first|((first|apply qmv|apply qas|apply qlc|apply qla|apply qfa|apply qnc|apply qic|apply qix|apply qpk|apply qls|apply qei|apply qni|apply qed|apply qnd|apply qad|apply qln|apply qle|apply qgt|apply qge|apply qlk|apply qlv|apply qxt|apply qsb|apply qnt|apply qep|apply qnp|apply qeb|apply qnb|apply qx2|apply qx4|apply qcv|apply qlm|apply qfr|apply qto|apply qmx|apply qen|apply qsn|apply qx8|apply qx7|apply qx6|apply qx5|apply qx4|apply qx3|apply qx2|apply qx1|apply qx0)<;>(first|exact rfl|exact Ar.mk (by omega)|assumption|exact dct (by assumption)|exact dcf (by assumption)|exact dct (by omega)|exact dcf (by omega)|exact List.not_mem_nil|exact dc_length _|exact nc_length _|exact rc_length _ _ _|exact ec_length _|exact nm1 (by omega)|exact nm2 (by omega) (by omega)|exact dct rfl|exact dct (by decide)|exact dcf (by decide)|exact (Int.toNat_of_nonneg (by omega)).symm|exact dcu|exact lk1 (by assumption)|exact lk0 (by assumption)|exact lkb|fail))|fail) ?_)
  refine SG.box rfl rfl rfl (by exact rho_of rfl) (fun b3 w1 hk1 hb3 hB3 => ?_)
  refine SG.alloc rfl rfl rfl (fun b4 w2 hk2 hb4 hB4 => ?_)
  have hR3 : Row w2 b3 0 (dc k) := Row.all (hB3.kp0 hk2) rfl
  have h2 := (h.kp0 hk1).kp0 hk2
  have s1 := hk1.size
  have s2 := hk2.size
  repeat (first|apply CG.seq|apply CG.region|apply SG.nil|apply NG.next|apply CG.skip|apply CG.block|apply CG.ret|apply CG.exit|apply CG.scope|apply NG.ret_then|apply NG.ret_block|apply NG.ret_scope|apply NG.exit_then|refine NG.exit_block rfl ?_|refine NG.exit_other rfl ?_|apply NG.exit_scope|apply NG.normal_block|apply NG.normal_scope|refine SG.val rfl rfl rfl rfl (by first|((first|apply qmv|apply qas|apply qlc|apply qla|apply qfa|apply qnc|apply qic|apply qix|apply qpk|apply qls|apply qei|apply qni|apply qed|apply qnd|apply qad|apply qln|apply qle|apply qgt|apply qge|apply qlk|apply qlv|apply qxt|apply qsb|apply qnt|apply qep|apply qnp|apply qeb|apply qnb|apply qx2|apply qx4|apply qcv|apply qlm|apply qfr|apply qto|apply qmx|apply qen|apply qsn|apply qx8|apply qx7|apply qx6|apply qx5|apply qx4|apply qx3|apply qx2|apply qx1|apply qx0)<;>(first|exact rfl|exact Ar.mk (by omega)|assumption|exact dct (by assumption)|exact dcf (by assumption)|exact dct (by omega)|exact dcf (by omega)|exact List.not_mem_nil|exact dc_length _|exact nc_length _|exact rc_length _ _ _|exact ec_length _|exact nm1 (by omega)|exact nm2 (by omega) (by omega)|exact dct rfl|exact dct (by decide)|exact dcf (by decide)|exact (Int.toNat_of_nonneg (by omega)).symm|exact dcu|exact lk1 (by assumption)|exact lk0 (by assumption)|exact lkb|fail))|fail) ?_)
  refine SG.ret rfl rfl rfl (by repeat' (first | exact True.intro | exact rho_of rfl | refine And.intro ?_ ?_)) (find_spec c h2 hl k) (fun w3 hk3 => ?_)
  have s3 := hk3.size
  have hB4 := hB4.kp0 hk3
  have hle := idx_le l k
  by_cases hi : idx l k < l.length
  · have eI : idxI l k = (idx l k : Int) := by unfold idxI; rw [if_pos hi]
    rw [eI]
    have g1 : ¬ (idx l k : Int) < 0 := by omega
    obtain ⟨b, off, rfl, hr⟩ := (h2.kp0 hk3).at hi
    rw [← ofL_at hi] at hr
    obtain ⟨j, hj⟩ : ∃ j, j = idx l k := ⟨_, rfl⟩
    rw [← hj] at hr g1 hi ⊢
    obtain ⟨x, hx⟩ : ∃ x, x = enOf k (ofL l k) := ⟨_, rfl⟩
    rw [← hx] at hr ⊢
    repeat (first|apply CG.seq|apply CG.region|apply SG.nil|apply NG.next|apply CG.skip|apply CG.block|apply CG.ret|apply CG.exit|apply CG.scope|apply NG.ret_then|apply NG.ret_block|apply NG.ret_scope|apply NG.exit_then|refine NG.exit_block rfl ?_|refine NG.exit_other rfl ?_|apply NG.exit_scope|apply NG.normal_block|apply NG.normal_scope|refine SG.val rfl rfl rfl rfl (by first|((first|apply qmv|apply qas|apply qlc|apply qla|apply qfa|apply qnc|apply qic|apply qix|apply qpk|apply qls|apply qei|apply qni|apply qed|apply qnd|apply qad|apply qln|apply qle|apply qgt|apply qge|apply qlk|apply qlv|apply qxt|apply qsb|apply qnt|apply qep|apply qnp|apply qeb|apply qnb|apply qx2|apply qx4|apply qcv|apply qlm|apply qfr|apply qto|apply qmx|apply qen|apply qsn|apply qx8|apply qx7|apply qx6|apply qx5|apply qx4|apply qx3|apply qx2|apply qx1|apply qx0)<;>(first|exact rfl|exact Ar.mk (by omega)|assumption|exact dct (by assumption)|exact dcf (by assumption)|exact dct (by omega)|exact dcf (by omega)|exact List.not_mem_nil|exact dc_length _|exact nc_length _|exact rc_length _ _ _|exact ec_length _|exact nm1 (by omega)|exact nm2 (by omega) (by omega)|exact dct rfl|exact dct (by decide)|exact dcf (by decide)|exact (Int.toNat_of_nonneg (by omega)).symm|exact dcu|exact lk1 (by assumption)|exact lk0 (by assumption)|exact lkb|fail))|fail) ?_)
    refine CG.cond_f rfl (by exact rho_of rfl) rfl ?_
    repeat (first|apply CG.seq|apply CG.region|apply SG.nil|apply NG.next|apply CG.skip|apply CG.block|apply CG.ret|apply CG.exit|apply CG.scope|apply NG.ret_then|apply NG.ret_block|apply NG.ret_scope|apply NG.exit_then|refine NG.exit_block rfl ?_|refine NG.exit_other rfl ?_|apply NG.exit_scope|apply NG.normal_block|apply NG.normal_scope|refine SG.val rfl rfl rfl rfl (by first|((first|apply qmv|apply qas|apply qlc|apply qla|apply qfa|apply qnc|apply qic|apply qix|apply qpk|apply qls|apply qei|apply qni|apply qed|apply qnd|apply qad|apply qln|apply qle|apply qgt|apply qge|apply qlk|apply qlv|apply qxt|apply qsb|apply qnt|apply qep|apply qnp|apply qeb|apply qnb|apply qx2|apply qx4|apply qcv|apply qlm|apply qfr|apply qto|apply qmx|apply qen|apply qsn|apply qx8|apply qx7|apply qx6|apply qx5|apply qx4|apply qx3|apply qx2|apply qx1|apply qx0)<;>(first|exact rfl|exact Ar.mk (by omega)|assumption|exact dct (by assumption)|exact dcf (by assumption)|exact dct (by omega)|exact dcf (by omega)|exact List.not_mem_nil|exact dc_length _|exact nc_length _|exact rc_length _ _ _|exact ec_length _|exact nm1 (by omega)|exact nm2 (by omega) (by omega)|exact dct rfl|exact dct (by decide)|exact dcf (by decide)|exact (Int.toNat_of_nonneg (by omega)).symm|exact dcu|exact lk1 (by assumption)|exact lk0 (by assumption)|exact lkb|fail))|fail) ?_)
    refine SG.setAll (old := ec ⟨zk, 0, 0⟩) (l := ec x) rfl rfl (by exact rho_of rfl) (by exact rho_of rfl) hB4 (by first | exact dc_length _ | exact nc_length _ | exact rc_length _ _ _ | exact ec_length _ | rfl) (by first | exact dc_length _ | exact nc_length _ | exact rc_length _ _ _ | exact ec_length _ | rfl) (by first | exact dc_one _ | exact nc_one _ | exact rc_one _ _ _ | exact ec_one _ | rfl) (fun w4 hk4 hB4 => ?_)
    have hR4 : Row w4 b4 0 (ec x) := Row.all hB4 rfl
    repeat (first|apply CG.seq|apply CG.region|apply SG.nil|apply NG.next|apply CG.skip|apply CG.block|apply CG.ret|apply CG.exit|apply CG.scope|apply NG.ret_then|apply NG.ret_block|apply NG.ret_scope|apply NG.exit_then|refine NG.exit_block rfl ?_|refine NG.exit_other rfl ?_|apply NG.exit_scope|apply NG.normal_block|apply NG.normal_scope|refine SG.val rfl rfl rfl rfl (by first|((first|apply qmv|apply qas|apply qlc|apply qla|apply qfa|apply qnc|apply qic|apply qix|apply qpk|apply qls|apply qei|apply qni|apply qed|apply qnd|apply qad|apply qln|apply qle|apply qgt|apply qge|apply qlk|apply qlv|apply qxt|apply qsb|apply qnt|apply qep|apply qnp|apply qeb|apply qnb|apply qx2|apply qx4|apply qcv|apply qlm|apply qfr|apply qto|apply qmx|apply qen|apply qsn|apply qx8|apply qx7|apply qx6|apply qx5|apply qx4|apply qx3|apply qx2|apply qx1|apply qx0)<;>(first|exact rfl|exact Ar.mk (by omega)|assumption|exact dct (by assumption)|exact dcf (by assumption)|exact dct (by omega)|exact dcf (by omega)|exact List.not_mem_nil|exact dc_length _|exact nc_length _|exact rc_length _ _ _|exact ec_length _|exact nm1 (by omega)|exact nm2 (by omega) (by omega)|exact dct rfl|exact dct (by decide)|exact dcf (by decide)|exact (Int.toNat_of_nonneg (by omega)).symm|exact dcu|exact lk1 (by assumption)|exact lk0 (by assumption)|exact lkb|fail))|fail) ?_)
    refine ret1 (Or.inl rfl) Try.results28 (by first | exact ResV.tmp rfl | exact ResV.agg rfl rfl (by assumption) (by first | exact dc_length _ | exact nc_length _ | exact rc_length _ _ _ | exact ec_length _ | rfl) | exact ResV.cell rfl rfl (by assumption)) ?_
    exact ⟨rfl, ((hk1.trans hk2).trans hk3).trans_new hk4 (new1 (by omega))⟩
  · have eI : idxI l k = -1 := by unfold idxI; rw [if_neg hi]
    have eO : enOf k (ofL l k) = ⟨k, 0, 0⟩ := by rw [ofL_no hi]; rfl
    rw [eI, eO]
    have g1 : (-1 : Int) < 0 := by omega
    have hR3 := hR3.kp0 hk3
    repeat (first|apply CG.seq|apply CG.region|apply SG.nil|apply NG.next|apply CG.skip|apply CG.block|apply CG.ret|apply CG.exit|apply CG.scope|apply NG.ret_then|apply NG.ret_block|apply NG.ret_scope|apply NG.exit_then|refine NG.exit_block rfl ?_|refine NG.exit_other rfl ?_|apply NG.exit_scope|apply NG.normal_block|apply NG.normal_scope|refine SG.val rfl rfl rfl rfl (by first|((first|apply qmv|apply qas|apply qlc|apply qla|apply qfa|apply qnc|apply qic|apply qix|apply qpk|apply qls|apply qei|apply qni|apply qed|apply qnd|apply qad|apply qln|apply qle|apply qgt|apply qge|apply qlk|apply qlv|apply qxt|apply qsb|apply qnt|apply qep|apply qnp|apply qeb|apply qnb|apply qx2|apply qx4|apply qcv|apply qlm|apply qfr|apply qto|apply qmx|apply qen|apply qsn|apply qx8|apply qx7|apply qx6|apply qx5|apply qx4|apply qx3|apply qx2|apply qx1|apply qx0)<;>(first|exact rfl|exact Ar.mk (by omega)|assumption|exact dct (by assumption)|exact dcf (by assumption)|exact dct (by omega)|exact dcf (by omega)|exact List.not_mem_nil|exact dc_length _|exact nc_length _|exact rc_length _ _ _|exact ec_length _|exact nm1 (by omega)|exact nm2 (by omega) (by omega)|exact dct rfl|exact dct (by decide)|exact dcf (by decide)|exact (Int.toNat_of_nonneg (by omega)).symm|exact dcu|exact lk1 (by assumption)|exact lk0 (by assumption)|exact lkb|fail))|fail) ?_)
    refine CG.cond_t rfl (by exact rho_of rfl) rfl ?_
    repeat (first|apply CG.seq|apply CG.region|apply SG.nil|apply NG.next|apply CG.skip|apply CG.block|apply CG.ret|apply CG.exit|apply CG.scope|apply NG.ret_then|apply NG.ret_block|apply NG.ret_scope|apply NG.exit_then|refine NG.exit_block rfl ?_|refine NG.exit_other rfl ?_|apply NG.exit_scope|apply NG.normal_block|apply NG.normal_scope|refine SG.val rfl rfl rfl rfl (by first|((first|apply qmv|apply qas|apply qlc|apply qla|apply qfa|apply qnc|apply qic|apply qix|apply qpk|apply qls|apply qei|apply qni|apply qed|apply qnd|apply qad|apply qln|apply qle|apply qgt|apply qge|apply qlk|apply qlv|apply qxt|apply qsb|apply qnt|apply qep|apply qnp|apply qeb|apply qnb|apply qx2|apply qx4|apply qcv|apply qlm|apply qfr|apply qto|apply qmx|apply qen|apply qsn|apply qx8|apply qx7|apply qx6|apply qx5|apply qx4|apply qx3|apply qx2|apply qx1|apply qx0)<;>(first|exact rfl|exact Ar.mk (by omega)|assumption|exact dct (by assumption)|exact dcf (by assumption)|exact dct (by omega)|exact dcf (by omega)|exact List.not_mem_nil|exact dc_length _|exact nc_length _|exact rc_length _ _ _|exact ec_length _|exact nm1 (by omega)|exact nm2 (by omega) (by omega)|exact dct rfl|exact dct (by decide)|exact dcf (by decide)|exact (Int.toNat_of_nonneg (by omega)).symm|exact dcu|exact lk1 (by assumption)|exact lk0 (by assumption)|exact lkb|fail))|fail) ?_)
    refine SG.val rfl rfl rfl rfl (vals_build rfl (fun w => build62k w k)) ?_
    refine SG.setAll (old := ec ⟨zk, 0, 0⟩) (l := ec ⟨k, 0, 0⟩) rfl rfl (by exact rho_of rfl) (by exact rho_of rfl) hB4 (by first | exact dc_length _ | exact nc_length _ | exact rc_length _ _ _ | exact ec_length _ | rfl) (by first | exact dc_length _ | exact nc_length _ | exact rc_length _ _ _ | exact ec_length _ | rfl) (by first | exact dc_one _ | exact nc_one _ | exact rc_one _ _ _ | exact ec_one _ | rfl) (fun w4 hk4 hB4 => ?_)
    have hR4 : Row w4 b4 0 (ec ⟨k, 0, 0⟩) := Row.all hB4 rfl
    repeat (first|apply CG.seq|apply CG.region|apply SG.nil|apply NG.next|apply CG.skip|apply CG.block|apply CG.ret|apply CG.exit|apply CG.scope|apply NG.ret_then|apply NG.ret_block|apply NG.ret_scope|apply NG.exit_then|refine NG.exit_block rfl ?_|refine NG.exit_other rfl ?_|apply NG.exit_scope|apply NG.normal_block|apply NG.normal_scope|refine SG.val rfl rfl rfl rfl (by first|((first|apply qmv|apply qas|apply qlc|apply qla|apply qfa|apply qnc|apply qic|apply qix|apply qpk|apply qls|apply qei|apply qni|apply qed|apply qnd|apply qad|apply qln|apply qle|apply qgt|apply qge|apply qlk|apply qlv|apply qxt|apply qsb|apply qnt|apply qep|apply qnp|apply qeb|apply qnb|apply qx2|apply qx4|apply qcv|apply qlm|apply qfr|apply qto|apply qmx|apply qen|apply qsn|apply qx8|apply qx7|apply qx6|apply qx5|apply qx4|apply qx3|apply qx2|apply qx1|apply qx0)<;>(first|exact rfl|exact Ar.mk (by omega)|assumption|exact dct (by assumption)|exact dcf (by assumption)|exact dct (by omega)|exact dcf (by omega)|exact List.not_mem_nil|exact dc_length _|exact nc_length _|exact rc_length _ _ _|exact ec_length _|exact nm1 (by omega)|exact nm2 (by omega) (by omega)|exact dct rfl|exact dct (by decide)|exact dcf (by decide)|exact (Int.toNat_of_nonneg (by omega)).symm|exact dcu|exact lk1 (by assumption)|exact lk0 (by assumption)|exact lkb|fail))|fail) ?_)
    refine ret1 (Or.inl rfl) Try.results28 (by first | exact ResV.tmp rfl | exact ResV.agg rfl rfl (by assumption) (by first | exact dc_length _ | exact nc_length _ | exact rc_length _ _ _ | exact ec_length _ | rfl) | exact ResV.cell rfl rfl (by assumption)) ?_
    exact ⟨rfl, ((hk1.trans hk2).trans hk3).trans_new hk4 (new1 (by omega))⟩
set_option maxHeartbeats 16000000 in
theorem set_spec {w : World} {a : Option Addr} {l : List En} (c : Nat) (h : SlE w a l) (hl : l.length ≤ 100000) (e : En) : Calls Try.prog 37 #[.slice a l.length c, ev e] w (fun r w' => ∃ a' c', r = .returned (.slice a' (setL l e).length c') ∧ SlE w' a' (setL l e) ∧ Kp [] w w') := by
  refine enter2 Try.func37 rfl Try.ntmps37 rfl ?_
  repeat (first|apply CG.seq|apply CG.region|apply SG.nil|apply NG.next|apply CG.skip|apply CG.block|apply CG.ret|apply CG.exit|apply CG.scope|apply NG.ret_then|apply NG.ret_block|apply NG.ret_scope|apply NG.exit_then|refine NG.exit_block rfl ?_|refine NG.exit_other rfl ?_|apply NG.exit_scope|apply NG.normal_block|apply NG.normal_scope|refine SG.val rfl rfl rfl rfl (by first|((first|apply qmv|apply qas|apply qlc|apply qla|apply qfa|apply qnc|apply qic|apply qix|apply qpk|apply qls|apply qei|apply qni|apply qed|apply qnd|apply qad|apply qln|apply qle|apply qgt|apply qge|apply qlk|apply qlv|apply qxt|apply qsb|apply qnt|apply qep|apply qnp|apply qeb|apply qnb|apply qx2|apply qx4|apply qcv|apply qlm|apply qfr|apply qto|apply qmx|apply qen|apply qsn|apply qx8|apply qx7|apply qx6|apply qx5|apply qx4|apply qx3|apply qx2|apply qx1|apply qx0)<;>(first|exact rfl|exact Ar.mk (by omega)|assumption|exact dct (by assumption)|exact dcf (by assumption)|exact dct (by omega)|exact dcf (by omega)|exact List.not_mem_nil|exact dc_length _|exact nc_length _|exact rc_length _ _ _|exact ec_length _|exact nm1 (by omega)|exact nm2 (by omega) (by omega)|exact dct rfl|exact dct (by decide)|exact dcf (by decide)|exact (Int.toNat_of_nonneg (by omega)).symm|exact dcu|exact lk1 (by assumption)|exact lk0 (by assumption)|exact lkb|fail))|fail) ?_)
  refine SG.box rfl rfl rfl (by exact rho_of rfl) (fun b3 w1 hk1 hb3 hB3 => ?_)
  have hB3 : Blk w1 b3 (.cells (ec e).toArray 62) := hB3
  repeat (first|apply CG.seq|apply CG.region|apply SG.nil|apply NG.next|apply CG.skip|apply CG.block|apply CG.ret|apply CG.exit|apply CG.scope|apply NG.ret_then|apply NG.ret_block|apply NG.ret_scope|apply NG.exit_then|refine NG.exit_block rfl ?_|refine NG.exit_other rfl ?_|apply NG.exit_scope|apply NG.normal_block|apply NG.normal_scope|refine SG.val rfl rfl rfl rfl (by first|((first|apply qmv|apply qas|apply qlc|apply qla|apply qfa|apply qnc|apply qic|apply qix|apply qpk|apply qls|apply qei|apply qni|apply qed|apply qnd|apply qad|apply qln|apply qle|apply qgt|apply qge|apply qlk|apply qlv|apply qxt|apply qsb|apply qnt|apply qep|apply qnp|apply qeb|apply qnb|apply qx2|apply qx4|apply qcv|apply qlm|apply qfr|apply qto|apply qmx|apply qen|apply qsn|apply qx8|apply qx7|apply qx6|apply qx5|apply qx4|apply qx3|apply qx2|apply qx1|apply qx0)<;>(first|exact rfl|exact Ar.mk (by omega)|assumption|exact dct (by assumption)|exact dcf (by assumption)|exact dct (by omega)|exact dcf (by omega)|exact List.not_mem_nil|exact dc_length _|exact nc_length _|exact rc_length _ _ _|exact ec_length _|exact nm1 (by omega)|exact nm2 (by omega) (by omega)|exact dct rfl|exact dct (by decide)|exact dcf (by decide)|exact (Int.toNat_of_nonneg (by omega)).symm|exact dcu|exact lk1 (by assumption)|exact lk0 (by assumption)|exact lkb|fail))|fail) ?_)
  refine SG.empty rfl rfl (fun b7 w2 hk2 hb7 hB7 => ?_)
  repeat (first|apply CG.seq|apply CG.region|apply SG.nil|apply NG.next|apply CG.skip|apply CG.block|apply CG.ret|apply CG.exit|apply CG.scope|apply NG.ret_then|apply NG.ret_block|apply NG.ret_scope|apply NG.exit_then|refine NG.exit_block rfl ?_|refine NG.exit_other rfl ?_|apply NG.exit_scope|apply NG.normal_block|apply NG.normal_scope|refine SG.val rfl rfl rfl rfl (by first|((first|apply qmv|apply qas|apply qlc|apply qla|apply qfa|apply qnc|apply qic|apply qix|apply qpk|apply qls|apply qei|apply qni|apply qed|apply qnd|apply qad|apply qln|apply qle|apply qgt|apply qge|apply qlk|apply qlv|apply qxt|apply qsb|apply qnt|apply qep|apply qnp|apply qeb|apply qnb|apply qx2|apply qx4|apply qcv|apply qlm|apply qfr|apply qto|apply qmx|apply qen|apply qsn|apply qx8|apply qx7|apply qx6|apply qx5|apply qx4|apply qx3|apply qx2|apply qx1|apply qx0)<;>(first|exact rfl|exact Ar.mk (by omega)|assumption|exact dct (by assumption)|exact dcf (by assumption)|exact dct (by omega)|exact dcf (by omega)|exact List.not_mem_nil|exact dc_length _|exact nc_length _|exact rc_length _ _ _|exact ec_length _|exact nm1 (by omega)|exact nm2 (by omega) (by omega)|exact dct rfl|exact dct (by decide)|exact dcf (by decide)|exact (Int.toNat_of_nonneg (by omega)).symm|exact dcu|exact lk1 (by assumption)|exact lk0 (by assumption)|exact lkb|fail))|fail) ?_)
  refine SG.cloneO (m := w1.heap.size) rfl rfl rfl ec_length ec_one (by exact rho_of rfl) (by exact rho_of rfl) rfl rfl rfl (by simp only [maxLen]; omega) (by show l.length * 24 ≤ _; omega) hb7 ((h.kp0 hk1).kp0 hk2) hB7 (fun v w3 hk3 ho3 => ?_)
  have s1 := hk1.size
  have s2 := hk2.size
  have s3 := hk3.size
  have l3 := hB3.lt
  obtain ⟨q0, q1, q2, q3⟩ := en_rows ((hB3.kp0 hk2).kp0 hk3)
  clear q3
  have hk03 := (hk1.trans hk2).trans hk3
  repeat (first|apply CG.seq|apply CG.region|apply SG.nil|apply NG.next|apply CG.skip|apply CG.block|apply CG.ret|apply CG.exit|apply CG.scope|apply NG.ret_then|apply NG.ret_block|apply NG.ret_scope|apply NG.exit_then|refine NG.exit_block rfl ?_|refine NG.exit_other rfl ?_|apply NG.exit_scope|apply NG.normal_block|apply NG.normal_scope|refine SG.val rfl rfl rfl rfl (by first|((first|apply qmv|apply qas|apply qlc|apply qla|apply qfa|apply qnc|apply qic|apply qix|apply qpk|apply qls|apply qei|apply qni|apply qed|apply qnd|apply qad|apply qln|apply qle|apply qgt|apply qge|apply qlk|apply qlv|apply qxt|apply qsb|apply qnt|apply qep|apply qnp|apply qeb|apply qnb|apply qx2|apply qx4|apply qcv|apply qlm|apply qfr|apply qto|apply qmx|apply qen|apply qsn|apply qx8|apply qx7|apply qx6|apply qx5|apply qx4|apply qx3|apply qx2|apply qx1|apply qx0)<;>(first|exact rfl|exact Ar.mk (by omega)|assumption|exact dct (by assumption)|exact dcf (by assumption)|exact dct (by omega)|exact dcf (by omega)|exact List.not_mem_nil|exact dc_length _|exact nc_length _|exact rc_length _ _ _|exact ec_length _|exact nm1 (by omega)|exact nm2 (by omega) (by omega)|exact dct rfl|exact dct (by decide)|exact dcf (by decide)|exact (Int.toNat_of_nonneg (by omega)).symm|exact dcu|exact lk1 (by assumption)|exact lk0 (by assumption)|exact lkb|fail))|fail) ?_)
  refine SG.ret rfl rfl rfl (by repeat' (first | exact True.intro | exact rho_of rfl | refine And.intro ?_ ?_)) (find_spec c (h.kp0 hk03) hl e.key) (fun w4 hk4 => ?_)
  have ho4 := own_kp0 ho3 hk4
  have hB34 := (((hB3.kp0 hk2).kp0 hk3).kp0 hk4)
  have hR3 : Row w4 b3 0 (ec e) := Row.all hB34 rfl
  have hle := idx_le l e.key
  have s4 := hk4.size
  by_cases hi : idx l e.key < l.length
  · have eI : idxI l e.key = (idx l e.key : Int) := by unfold idxI; rw [if_pos hi]
    have eS : setL l e = l.set (idx l e.key) e := by unfold setL; rw [if_pos hi]
    rw [eI, eS]
    obtain ⟨j, hj⟩ : ∃ j, j = idx l e.key := ⟨_, rfl⟩
    rw [← hj] at hi ⊢
    have g1 : ¬ (j : Int) < 0 := by omega
    obtain ⟨a4, c4, rfl, hS4⟩ := SlF.own ec_length ho4 rfl
    obtain ⟨b4, o4, rfl, hr4⟩ := hS4.sl.at hi
    obtain ⟨rfl, hb4⟩ := own_off ho4
    rw [flt_split l j hi] at ho4
    repeat (first|apply CG.seq|apply CG.region|apply SG.nil|apply NG.next|apply CG.skip|apply CG.block|apply CG.ret|apply CG.exit|apply CG.scope|apply NG.ret_then|apply NG.ret_block|apply NG.ret_scope|apply NG.exit_then|refine NG.exit_block rfl ?_|refine NG.exit_other rfl ?_|apply NG.exit_scope|apply NG.normal_block|apply NG.normal_scope|refine SG.val rfl rfl rfl rfl (by first|((first|apply qmv|apply qas|apply qlc|apply qla|apply qfa|apply qnc|apply qic|apply qix|apply qpk|apply qls|apply qei|apply qni|apply qed|apply qnd|apply qad|apply qln|apply qle|apply qgt|apply qge|apply qlk|apply qlv|apply qxt|apply qsb|apply qnt|apply qep|apply qnp|apply qeb|apply qnb|apply qx2|apply qx4|apply qcv|apply qlm|apply qfr|apply qto|apply qmx|apply qen|apply qsn|apply qx8|apply qx7|apply qx6|apply qx5|apply qx4|apply qx3|apply qx2|apply qx1|apply qx0)<;>(first|exact rfl|exact Ar.mk (by omega)|assumption|exact dct (by assumption)|exact dcf (by assumption)|exact dct (by omega)|exact dcf (by omega)|exact List.not_mem_nil|exact dc_length _|exact nc_length _|exact rc_length _ _ _|exact ec_length _|exact nm1 (by omega)|exact nm2 (by omega) (by omega)|exact dct rfl|exact dct (by decide)|exact dcf (by decide)|exact (Int.toNat_of_nonneg (by omega)).symm|exact dcu|exact lk1 (by assumption)|exact lk0 (by assumption)|exact lkb|fail))|fail) ?_)
    refine CG.cond_f rfl (by exact rho_of rfl) rfl ?_
    repeat (first|apply CG.seq|apply CG.region|apply SG.nil|apply NG.next|apply CG.skip|apply CG.block|apply CG.ret|apply CG.exit|apply CG.scope|apply NG.ret_then|apply NG.ret_block|apply NG.ret_scope|apply NG.exit_then|refine NG.exit_block rfl ?_|refine NG.exit_other rfl ?_|apply NG.exit_scope|apply NG.normal_block|apply NG.normal_scope|refine SG.val rfl rfl rfl rfl (by first|((first|apply qmv|apply qas|apply qlc|apply qla|apply qfa|apply qnc|apply qic|apply qix|apply qpk|apply qls|apply qei|apply qni|apply qed|apply qnd|apply qad|apply qln|apply qle|apply qgt|apply qge|apply qlk|apply qlv|apply qxt|apply qsb|apply qnt|apply qep|apply qnp|apply qeb|apply qnb|apply qx2|apply qx4|apply qcv|apply qlm|apply qfr|apply qto|apply qmx|apply qen|apply qsn|apply qx8|apply qx7|apply qx6|apply qx5|apply qx4|apply qx3|apply qx2|apply qx1|apply qx0)<;>(first|exact rfl|exact Ar.mk (by omega)|assumption|exact dct (by assumption)|exact dcf (by assumption)|exact dct (by omega)|exact dcf (by omega)|exact List.not_mem_nil|exact dc_length _|exact nc_length _|exact rc_length _ _ _|exact ec_length _|exact nm1 (by omega)|exact nm2 (by omega) (by omega)|exact dct rfl|exact dct (by decide)|exact dcf (by decide)|exact (Int.toNat_of_nonneg (by omega)).symm|exact dcu|exact lk1 (by assumption)|exact lk0 (by assumption)|exact lkb|fail))|fail) ?_)
    refine SG.setOwn (flt ec (l.take j)) (ec l[j]) (flt ec (l.drop (j + 1))) rfl rfl (by exact rho_of rfl) (by exact rho_of rfl) ho4 (by first | exact dc_length _ | exact nc_length _ | exact rc_length _ _ _ | exact ec_length _ | rfl) (ec_length _) (by rw [flt_length ec_length, List.length_take]; omega) (by first | exact dc_one _ | exact nc_one _ | exact rc_one _ _ _ | exact ec_one _ | rfl) (fun w5 hk5 ho5 => ?_)
    repeat (first|apply CG.seq|apply CG.region|apply SG.nil|apply NG.next|apply CG.skip|apply CG.block|apply CG.ret|apply CG.exit|apply CG.scope|apply NG.ret_then|apply NG.ret_block|apply NG.ret_scope|apply NG.exit_then|refine NG.exit_block rfl ?_|refine NG.exit_other rfl ?_|apply NG.exit_scope|apply NG.normal_block|apply NG.normal_scope|refine SG.val rfl rfl rfl rfl (by first|((first|apply qmv|apply qas|apply qlc|apply qla|apply qfa|apply qnc|apply qic|apply qix|apply qpk|apply qls|apply qei|apply qni|apply qed|apply qnd|apply qad|apply qln|apply qle|apply qgt|apply qge|apply qlk|apply qlv|apply qxt|apply qsb|apply qnt|apply qep|apply qnp|apply qeb|apply qnb|apply qx2|apply qx4|apply qcv|apply qlm|apply qfr|apply qto|apply qmx|apply qen|apply qsn|apply qx8|apply qx7|apply qx6|apply qx5|apply qx4|apply qx3|apply qx2|apply qx1|apply qx0)<;>(first|exact rfl|exact Ar.mk (by omega)|assumption|exact dct (by assumption)|exact dcf (by assumption)|exact dct (by omega)|exact dcf (by omega)|exact List.not_mem_nil|exact dc_length _|exact nc_length _|exact rc_length _ _ _|exact ec_length _|exact nm1 (by omega)|exact nm2 (by omega) (by omega)|exact dct rfl|exact dct (by decide)|exact dcf (by decide)|exact (Int.toNat_of_nonneg (by omega)).symm|exact dcu|exact lk1 (by assumption)|exact lk0 (by assumption)|exact lkb|fail))|fail) ?_)
    refine ret1 (Or.inl rfl) Try.results37 (by first | exact ResV.tmp rfl | exact ResV.agg rfl rfl (by assumption) (by first | exact dc_length _ | exact nc_length _ | exact rc_length _ _ _ | exact ec_length _ | rfl) | exact ResV.cell rfl rfl (by assumption)) ?_
    have ho5 : w5.ownsRow w1.heap.size 62 10 (.slice (some ⟨b4, 0, none⟩) l.length c4) l.length (flt ec (l.set j e)) := by
      rw [flt_set hi]
      exact ho5
    obtain ⟨a5, c5, e5, hS5⟩ := SlF.own ec_length ho5 (by rw [List.length_set])
    simp only [Value.slice.injEq] at e5
    obtain ⟨rfl, _, rfl⟩ := e5
    exact ⟨_, _, by rw [List.length_set], hS5.sl, (hk03.trans hk4).trans_new hk5 (new1 (by omega))⟩
  · have eI : idxI l e.key = -1 := by unfold idxI; rw [if_neg hi]
    have eS : setL l e = l ++ [e] := by unfold setL; rw [if_neg hi]
    rw [eI, eS]
    have g1 : (-1 : Int) < 0 := by omega
    repeat (first|apply CG.seq|apply CG.region|apply SG.nil|apply NG.next|apply CG.skip|apply CG.block|apply CG.ret|apply CG.exit|apply CG.scope|apply NG.ret_then|apply NG.ret_block|apply NG.ret_scope|apply NG.exit_then|refine NG.exit_block rfl ?_|refine NG.exit_other rfl ?_|apply NG.exit_scope|apply NG.normal_block|apply NG.normal_scope|refine SG.val rfl rfl rfl rfl (by first|((first|apply qmv|apply qas|apply qlc|apply qla|apply qfa|apply qnc|apply qic|apply qix|apply qpk|apply qls|apply qei|apply qni|apply qed|apply qnd|apply qad|apply qln|apply qle|apply qgt|apply qge|apply qlk|apply qlv|apply qxt|apply qsb|apply qnt|apply qep|apply qnp|apply qeb|apply qnb|apply qx2|apply qx4|apply qcv|apply qlm|apply qfr|apply qto|apply qmx|apply qen|apply qsn|apply qx8|apply qx7|apply qx6|apply qx5|apply qx4|apply qx3|apply qx2|apply qx1|apply qx0)<;>(first|exact rfl|exact Ar.mk (by omega)|assumption|exact dct (by assumption)|exact dcf (by assumption)|exact dct (by omega)|exact dcf (by omega)|exact List.not_mem_nil|exact dc_length _|exact nc_length _|exact rc_length _ _ _|exact ec_length _|exact nm1 (by omega)|exact nm2 (by omega) (by omega)|exact dct rfl|exact dct (by decide)|exact dcf (by decide)|exact (Int.toNat_of_nonneg (by omega)).symm|exact dcu|exact lk1 (by assumption)|exact lk0 (by assumption)|exact lkb|fail))|fail) ?_)
    refine CG.cond_t rfl (by exact rho_of rfl) rfl ?_
    repeat (first|apply CG.seq|apply CG.region|apply SG.nil|apply NG.next|apply CG.skip|apply CG.block|apply CG.ret|apply CG.exit|apply CG.scope|apply NG.ret_then|apply NG.ret_block|apply NG.ret_scope|apply NG.exit_then|refine NG.exit_block rfl ?_|refine NG.exit_other rfl ?_|apply NG.exit_scope|apply NG.normal_block|apply NG.normal_scope|refine SG.val rfl rfl rfl rfl (by first|((first|apply qmv|apply qas|apply qlc|apply qla|apply qfa|apply qnc|apply qic|apply qix|apply qpk|apply qls|apply qei|apply qni|apply qed|apply qnd|apply qad|apply qln|apply qle|apply qgt|apply qge|apply qlk|apply qlv|apply qxt|apply qsb|apply qnt|apply qep|apply qnp|apply qeb|apply qnb|apply qx2|apply qx4|apply qcv|apply qlm|apply qfr|apply qto|apply qmx|apply qen|apply qsn|apply qx8|apply qx7|apply qx6|apply qx5|apply qx4|apply qx3|apply qx2|apply qx1|apply qx0)<;>(first|exact rfl|exact Ar.mk (by omega)|assumption|exact dct (by assumption)|exact dcf (by assumption)|exact dct (by omega)|exact dcf (by omega)|exact List.not_mem_nil|exact dc_length _|exact nc_length _|exact rc_length _ _ _|exact ec_length _|exact nm1 (by omega)|exact nm2 (by omega) (by omega)|exact dct rfl|exact dct (by decide)|exact dcf (by decide)|exact (Int.toNat_of_nonneg (by omega)).symm|exact dcu|exact lk1 (by assumption)|exact lk0 (by assumption)|exact lkb|fail))|fail) ?_)
    refine SG.buildSlice rfl rfl rfl rfl (bs25 _) (fun bn w5 hk5 hbn hBn => ?_)
    have hRn : Row w5 bn 0 (ec e) := Row.all hBn rfl
    have s5 := hk5.size
    refine SG.append rfl rfl rfl (by exact rho_of rfl) (by exact rho_of rfl) rfl rfl rfl (own_kp0 ho4 hk5) hRn (by first | exact dc_length _ | exact nc_length _ | exact rc_length _ _ _ | exact ec_length _ | rfl) (by first | exact dc_one _ | exact nc_one _ | exact rc_one _ _ _ | exact ec_one _ | rfl) (by simp only [maxLen]; omega) (by show (l.length + 1) * 24 ≤ _; omega) (by omega) (fun v' w6 hk6 ho6 => ?_)
    repeat (first|apply CG.seq|apply CG.region|apply SG.nil|apply NG.next|apply CG.skip|apply CG.block|apply CG.ret|apply CG.exit|apply CG.scope|apply NG.ret_then|apply NG.ret_block|apply NG.ret_scope|apply NG.exit_then|refine NG.exit_block rfl ?_|refine NG.exit_other rfl ?_|apply NG.exit_scope|apply NG.normal_block|apply NG.normal_scope|refine SG.val rfl rfl rfl rfl (by first|((first|apply qmv|apply qas|apply qlc|apply qla|apply qfa|apply qnc|apply qic|apply qix|apply qpk|apply qls|apply qei|apply qni|apply qed|apply qnd|apply qad|apply qln|apply qle|apply qgt|apply qge|apply qlk|apply qlv|apply qxt|apply qsb|apply qnt|apply qep|apply qnp|apply qeb|apply qnb|apply qx2|apply qx4|apply qcv|apply qlm|apply qfr|apply qto|apply qmx|apply qen|apply qsn|apply qx8|apply qx7|apply qx6|apply qx5|apply qx4|apply qx3|apply qx2|apply qx1|apply qx0)<;>(first|exact rfl|exact Ar.mk (by omega)|assumption|exact dct (by assumption)|exact dcf (by assumption)|exact dct (by omega)|exact dcf (by omega)|exact List.not_mem_nil|exact dc_length _|exact nc_length _|exact rc_length _ _ _|exact ec_length _|exact nm1 (by omega)|exact nm2 (by omega) (by omega)|exact dct rfl|exact dct (by decide)|exact dcf (by decide)|exact (Int.toNat_of_nonneg (by omega)).symm|exact dcu|exact lk1 (by assumption)|exact lk0 (by assumption)|exact lkb|fail))|fail) ?_)
    refine ret1 (Or.inl rfl) Try.results37 (by first | exact ResV.tmp rfl | exact ResV.agg rfl rfl (by assumption) (by first | exact dc_length _ | exact nc_length _ | exact rc_length _ _ _ | exact ec_length _ | rfl) | exact ResV.cell rfl rfl (by assumption)) ?_
    have ho6 : w6.ownsRow w1.heap.size 62 10 v' (l ++ [e]).length (flt ec (l ++ [e])) := by
      rw [flt_append, flt_one, List.length_append]
      exact ho6
    obtain ⟨a6, c6, rfl, hS6⟩ := SlF.own ec_length ho6 rfl
    exact ⟨_, _, rfl, hS6.sl, ((hk03.trans hk4).trans hk5).trans_new hk6 (own_new ho4 (by omega))⟩
end Go.Proofs.Ytkkfppfpbobghaa
