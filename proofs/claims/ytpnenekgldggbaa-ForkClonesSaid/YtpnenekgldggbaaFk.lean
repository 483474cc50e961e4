/-
  The fork's tree in memory.
-/
import Derived.Test.YtpnenekgldggbaaTy
namespace Go.Proofs.Ytpnenekgldggbaa
set_option linter.unusedVariables false

abbrev Dg := BA 8

/-- A node: its parent, its height. -/
structure Nd where
  parent : Dg
  height : Nat
def nc (x : Nd) : List Value := dc x.parent ++ [.int .i64 x.height]
@[reducible] def nv (x : Nd) : Value := .agg (nc x).toArray

structure Tr where
  first : Dg
  tip : Dg
  depth : Nat
  nodes : List (Dg × Nd)
def tc (t : Tr) (bm : Nat) : List Value := dc t.first ++ (dc t.tip ++ [.int .i64 t.depth, .map (some bm)])

structure TreeAt (w : World) (bt bm : Nat) (t : Tr) : Prop where
  blk : Blk w bt (.cells (tc t bm).toArray 72)
  map : MapIs w bm (dv (n := 8)) nv t.nodes

theorem TreeAt.kp {S : List Nat} {w w' : World} {bt bm : Nat} {t : Tr} (h : TreeAt w bt bm t) (hk : Kp S w w') (h1 : bt ∉ S) (h2 : bm ∉ S) : TreeAt w' bt bm t := ⟨h.blk.kp hk h1, h.map.kp hk h2⟩
theorem TreeAt.kp0 {w w' : World} {bt bm : Nat} {t : Tr} (h : TreeAt w bt bm t) (hk : Kp [] w w') : TreeAt w' bt bm t := h.kp hk (by simp) (by simp)
theorem TreeAt.r0 {w : World} {bt bm : Nat} {t : Tr} (h : TreeAt w bt bm t) : Row w bt 0 (dc t.first) := Row.of h.blk [] (dc t.tip ++ [.int .i64 t.depth, .map (some bm)]) (by simp [tc]) rfl
theorem TreeAt.r8 {w : World} {bt bm : Nat} {t : Tr} (h : TreeAt w bt bm t) : Row w bt 8 (dc t.tip) := Row.of h.blk (dc t.first) [.int .i64 t.depth, .map (some bm)] (by simp [tc]) (dc_length _)
theorem TreeAt.r16 {w : World} {bt bm : Nat} {t : Tr} (h : TreeAt w bt bm t) : Row w bt 16 [.int .i64 t.depth] := Row.of h.blk (dc t.first ++ dc t.tip) [.map (some bm)] (by simp [tc]) (by simp [dc_length])
theorem TreeAt.r17 {w : World} {bt bm : Nat} {t : Tr} (h : TreeAt w bt bm t) : Row w bt 17 [.map (some bm)] := Row.of h.blk (dc t.first ++ dc t.tip ++ [.int .i64 t.depth]) [] (by simp [tc]) (by simp [dc_length])

def Tr.height (t : Tr) (x : Dg) : Int := match alook t.nodes x with
  | some n => n.height
  | none => -1

theorem zero8 : (Value.agg #[.int .u8 0, .int .u8 0, .int .u8 0, .int .u8 0, .int .u8 0, .int .u8 0, .int .u8 0, .int .u8 0]) = dv (n := 8) ⟨[0, 0, 0, 0, 0, 0, 0, 0], rfl⟩ := rfl
def nd0 : Nd := ⟨⟨[0, 0, 0, 0, 0, 0, 0, 0], rfl⟩, 0⟩
theorem nc_length (x : Nd) : (nc x).length = 9 := by simp [nc, dc_length]
theorem nc_one (x : Nd) : allOne (nc x) = true := by
  have := dc_one x.parent
  unfold allOne at *
  simp [nc, this, oneB]
theorem getD_nv (r : Option Nd) : (r.map nv).getD (Value.agg #[.int .u8 0, .int .u8 0, .int .u8 0, .int .u8 0, .int .u8 0, .int .u8 0, .int .u8 0, .int .u8 0, .int .i64 0]) = nv (r.getD nd0) := by cases r <;> rfl

theorem Row.ncp {w : World} {b : Nat} {x : Nd} (h : Row w b 0 (nc x)) : Row w b 0 (dc x.parent) := by
  obtain ⟨cs, T, f, h1, h2⟩ := h
  refine ⟨cs, T, f, h1, fun i v hv => h2 i v ?_⟩
  have hi : i < (dc x.parent).length := (List.getElem?_eq_some_iff.1 hv).1
  rw [nc, List.getElem?_append_left hi]
  exact hv
theorem Row.nch {w : World} {b : Nat} {x : Nd} (h : Row w b 0 (nc x)) : Row w b 8 [.int .i64 x.height] := by
  obtain ⟨cs, T, f, h1, h2⟩ := h
  refine ⟨cs, T, f, h1, fun i v hv => ?_⟩
  have hi : i < 1 := (List.getElem?_eq_some_iff.1 hv).1
  have hi0 : i = 0 := by omega
  subst hi0
  have := h2 8 v (by rw [nc, List.getElem?_append_right (by rw [dc_length]; omega), dc_length]; exact hv)
  simpa using this

attribute [local irreducible] CG NG SG Vals Der Row Blk MapIs
set_option maxHeartbeats 4000000 in
theorem height_spec {w : World} {bt bm : Nat} {t : Tr} (hT : TreeAt w bt bm t) (x : Dg) : Ret Try.prog 16 #[.pointer (some ⟨bt, 0, none⟩), dv x] w (.int .i64 (t.height x)) := by
  refine enter2 Try.func16 rfl Try.ntmps16 rfl ?_
  repeat (first|apply CG.seq|apply CG.region|apply SG.nil|apply NG.next|apply CG.skip|apply CG.block|apply CG.ret|apply CG.exit|apply CG.scope|apply NG.ret_then|apply NG.ret_block|apply NG.ret_scope|apply NG.exit_then|refine NG.exit_block rfl ?_|refine NG.exit_other rfl ?_|apply NG.exit_scope|apply NG.normal_block|apply NG.normal_scope|refine SG.val rfl rfl rfl rfl (by first|((first|apply qmv|apply qas|apply qlc|apply qla|apply qfa|apply qnc|apply qic|apply qix|apply qpk|apply qls|apply qei|apply qni|apply qed|apply qnd|apply qad|apply qln|apply qle|apply qgt|apply qge|apply qlk|apply qlv|apply qxt|apply qsb|apply qnt|apply qep|apply qnp|apply qeb|apply qnb|apply qcv|apply qlm|apply qfr|apply qto|apply qmx)<;>(first|exact rfl|exact Ar.mk (by omega)|assumption|exact dct (by assumption)|exact dcf (by assumption)|exact dct (by omega)|exact dcf (by omega)|exact List.not_mem_nil|exact dc_length _|exact nc_length _|exact nm1 (by omega)|exact nm2 (by omega) (by omega)|exact dct rfl|exact dct (by decide)|exact dcf (by decide)|exact (Int.toNat_of_nonneg (by omega)).symm|exact dcu|exact lk1 (by assumption)|exact lk0 (by assumption)))|fail) ?_)
  refine SG.box rfl rfl rfl (by exact rho_of rfl) (fun b3 w1 hk1 hb3 hB3 => ?_)
  repeat (first|apply CG.seq|apply CG.region|apply SG.nil|apply NG.next|apply CG.skip|apply CG.block|apply CG.ret|apply CG.exit|apply CG.scope|apply NG.ret_then|apply NG.ret_block|apply NG.ret_scope|apply NG.exit_then|refine NG.exit_block rfl ?_|refine NG.exit_other rfl ?_|apply NG.exit_scope|apply NG.normal_block|apply NG.normal_scope|refine SG.val rfl rfl rfl rfl (by first|((first|apply qmv|apply qas|apply qlc|apply qla|apply qfa|apply qnc|apply qic|apply qix|apply qpk|apply qls|apply qei|apply qni|apply qed|apply qnd|apply qad|apply qln|apply qle|apply qgt|apply qge|apply qlk|apply qlv|apply qxt|apply qsb|apply qnt|apply qep|apply qnp|apply qeb|apply qnb|apply qcv|apply qlm|apply qfr|apply qto|apply qmx)<;>(first|exact rfl|exact Ar.mk (by omega)|assumption|exact dct (by assumption)|exact dcf (by assumption)|exact dct (by omega)|exact dcf (by omega)|exact List.not_mem_nil|exact dc_length _|exact nc_length _|exact nm1 (by omega)|exact nm2 (by omega) (by omega)|exact dct rfl|exact dct (by decide)|exact dcf (by decide)|exact (Int.toNat_of_nonneg (by omega)).symm|exact dcu|exact lk1 (by assumption)|exact lk0 (by assumption)))|fail) ?_)
  refine CG.cond_f rfl (by exact rho_of rfl) rfl ?_
  repeat (first|apply CG.seq|apply CG.region|apply SG.nil|apply NG.next|apply CG.skip|apply CG.block|apply CG.ret|apply CG.exit|apply CG.scope|apply NG.ret_then|apply NG.ret_block|apply NG.ret_scope|apply NG.exit_then|refine NG.exit_block rfl ?_|refine NG.exit_other rfl ?_|apply NG.exit_scope|apply NG.normal_block|apply NG.normal_scope|refine SG.val rfl rfl rfl rfl (by first|((first|apply qmv|apply qas|apply qlc|apply qla|apply qfa|apply qnc|apply qic|apply qix|apply qpk|apply qls|apply qei|apply qni|apply qed|apply qnd|apply qad|apply qln|apply qle|apply qgt|apply qge|apply qlk|apply qlv|apply qxt|apply qsb|apply qnt|apply qep|apply qnp|apply qeb|apply qnb|apply qcv|apply qlm|apply qfr|apply qto|apply qmx)<;>(first|exact rfl|exact Ar.mk (by omega)|assumption|exact dct (by assumption)|exact dcf (by assumption)|exact dct (by omega)|exact dcf (by omega)|exact List.not_mem_nil|exact dc_length _|exact nc_length _|exact nm1 (by omega)|exact nm2 (by omega) (by omega)|exact dct rfl|exact dct (by decide)|exact dcf (by decide)|exact (Int.toNat_of_nonneg (by omega)).symm|exact dcu|exact lk1 (by assumption)|exact lk0 (by assumption)))|fail) ?_)
  have hR3 : Row w1 b3 0 (dc x) := Row.all hB3 rfl
  have hT1 := hT.kp0 hk1
  have hr17 := hT1.r17
  have hm := hT1.map
  refine CG.drawv mixed [0, 1, 2, 3, 4, 5, 6, 7, 8, 11] [(9, 10, 5, .tmp 16)] (by kernel_rfl) (by kernel_rfl) ?_
  rcases hr : alook t.nodes x with _ | nd
  · repeat (refine Der.val rfl rfl rfl (by first|((first|apply qmv|apply qas|apply qlc|apply qla|apply qfa|apply qnc|apply qic|apply qix|apply qpk|apply qls|apply qei|apply qni|apply qed|apply qnd|apply qad|apply qln|apply qle|apply qgt|apply qge|apply qlk|apply qlv|apply qxt|apply qsb|apply qnt|apply qep|apply qnp|apply qeb|apply qnb|apply qcv|apply qlm|apply qfr|apply qto|apply qmx)<;>(first|exact rfl|exact Ar.mk (by omega)|assumption|exact dct (by assumption)|exact dcf (by assumption)|exact dct (by omega)|exact dcf (by omega)|exact List.not_mem_nil|exact dc_length _|exact nc_length _|exact nm1 (by omega)|exact nm2 (by omega) (by omega)|exact dct rfl|exact dct (by decide)|exact dcf (by decide)|exact (Int.toNat_of_nonneg (by omega)).symm|exact dcu|exact lk1 (by assumption)|exact lk0 (by assumption)))|fail) ?_)
    refine Der.one (VrOk.of (by rfl) rfl rfl rfl (by exact rho_of rfl) (by first | exact dc_length _ | exact nc_length _ | rfl) (by rfl) (by first | exact dc_one _ | exact nc_one _ | rfl)) (fun b5 w2 hk2 hb5 hB5 => ?_)
    repeat (first|apply CG.seq|apply CG.region|apply SG.nil|apply NG.next|apply CG.skip|apply CG.block|apply CG.ret|apply CG.exit|apply CG.scope|apply NG.ret_then|apply NG.ret_block|apply NG.ret_scope|apply NG.exit_then|refine NG.exit_block rfl ?_|refine NG.exit_other rfl ?_|apply NG.exit_scope|apply NG.normal_block|apply NG.normal_scope|refine SG.val rfl rfl rfl rfl (by first|((first|apply qmv|apply qas|apply qlc|apply qla|apply qfa|apply qnc|apply qic|apply qix|apply qpk|apply qls|apply qei|apply qni|apply qed|apply qnd|apply qad|apply qln|apply qle|apply qgt|apply qge|apply qlk|apply qlv|apply qxt|apply qsb|apply qnt|apply qep|apply qnp|apply qeb|apply qnb|apply qcv|apply qlm|apply qfr|apply qto|apply qmx)<;>(first|exact rfl|exact Ar.mk (by omega)|assumption|exact dct (by assumption)|exact dcf (by assumption)|exact dct (by omega)|exact dcf (by omega)|exact List.not_mem_nil|exact dc_length _|exact nc_length _|exact nm1 (by omega)|exact nm2 (by omega) (by omega)|exact dct rfl|exact dct (by decide)|exact dcf (by decide)|exact (Int.toNat_of_nonneg (by omega)).symm|exact dcu|exact lk1 (by assumption)|exact lk0 (by assumption)))|fail) ?_)
    refine CG.cond_t rfl (by exact rho_of rfl) rfl ?_
    repeat (first|apply CG.seq|apply CG.region|apply SG.nil|apply NG.next|apply CG.skip|apply CG.block|apply CG.ret|apply CG.exit|apply CG.scope|apply NG.ret_then|apply NG.ret_block|apply NG.ret_scope|apply NG.exit_then|refine NG.exit_block rfl ?_|refine NG.exit_other rfl ?_|apply NG.exit_scope|apply NG.normal_block|apply NG.normal_scope|refine SG.val rfl rfl rfl rfl (by first|((first|apply qmv|apply qas|apply qlc|apply qla|apply qfa|apply qnc|apply qic|apply qix|apply qpk|apply qls|apply qei|apply qni|apply qed|apply qnd|apply qad|apply qln|apply qle|apply qgt|apply qge|apply qlk|apply qlv|apply qxt|apply qsb|apply qnt|apply qep|apply qnp|apply qeb|apply qnb|apply qcv|apply qlm|apply qfr|apply qto|apply qmx)<;>(first|exact rfl|exact Ar.mk (by omega)|assumption|exact dct (by assumption)|exact dcf (by assumption)|exact dct (by omega)|exact dcf (by omega)|exact List.not_mem_nil|exact dc_length _|exact nc_length _|exact nm1 (by omega)|exact nm2 (by omega) (by omega)|exact dct rfl|exact dct (by decide)|exact dcf (by decide)|exact (Int.toNat_of_nonneg (by omega)).symm|exact dcu|exact lk1 (by assumption)|exact lk0 (by assumption)))|fail) ?_)
    refine ret1 (Or.inl rfl) Try.results16 (by first | exact ResV.tmp rfl | exact ResV.agg rfl rfl (by assumption) (by first | exact dc_length _ | exact nc_length _ | rfl) | exact ResV.cell rfl rfl (by assumption)) ?_
    exact ⟨by simp [Tr.height, hr], hk1.trans hk2⟩
  · repeat (refine Der.val rfl rfl rfl (by first|((first|apply qmv|apply qas|apply qlc|apply qla|apply qfa|apply qnc|apply qic|apply qix|apply qpk|apply qls|apply qei|apply qni|apply qed|apply qnd|apply qad|apply qln|apply qle|apply qgt|apply qge|apply qlk|apply qlv|apply qxt|apply qsb|apply qnt|apply qep|apply qnp|apply qeb|apply qnb|apply qcv|apply qlm|apply qfr|apply qto|apply qmx)<;>(first|exact rfl|exact Ar.mk (by omega)|assumption|exact dct (by assumption)|exact dcf (by assumption)|exact dct (by omega)|exact dcf (by omega)|exact List.not_mem_nil|exact dc_length _|exact nc_length _|exact nm1 (by omega)|exact nm2 (by omega) (by omega)|exact dct rfl|exact dct (by decide)|exact dcf (by decide)|exact (Int.toNat_of_nonneg (by omega)).symm|exact dcu|exact lk1 (by assumption)|exact lk0 (by assumption)))|fail) ?_)
    refine Der.one (VrOk.of (by rfl) rfl rfl rfl (by exact rho_of rfl) (by first | exact dc_length _ | exact nc_length _ | rfl) (by rfl) (by first | exact dc_one _ | exact nc_one _ | rfl)) (fun b5 w2 hk2 hb5 hB5 => ?_)
    have hR5 : Row w2 b5 0 (nc nd) := Row.all hB5 rfl
    have hR5h := hR5.nch
    repeat (first|apply CG.seq|apply CG.region|apply SG.nil|apply NG.next|apply CG.skip|apply CG.block|apply CG.ret|apply CG.exit|apply CG.scope|apply NG.ret_then|apply NG.ret_block|apply NG.ret_scope|apply NG.exit_then|refine NG.exit_block rfl ?_|refine NG.exit_other rfl ?_|apply NG.exit_scope|apply NG.normal_block|apply NG.normal_scope|refine SG.val rfl rfl rfl rfl (by first|((first|apply qmv|apply qas|apply qlc|apply qla|apply qfa|apply qnc|apply qic|apply qix|apply qpk|apply qls|apply qei|apply qni|apply qed|apply qnd|apply qad|apply qln|apply qle|apply qgt|apply qge|apply qlk|apply qlv|apply qxt|apply qsb|apply qnt|apply qep|apply qnp|apply qeb|apply qnb|apply qcv|apply qlm|apply qfr|apply qto|apply qmx)<;>(first|exact rfl|exact Ar.mk (by omega)|assumption|exact dct (by assumption)|exact dcf (by assumption)|exact dct (by omega)|exact dcf (by omega)|exact List.not_mem_nil|exact dc_length _|exact nc_length _|exact nm1 (by omega)|exact nm2 (by omega) (by omega)|exact dct rfl|exact dct (by decide)|exact dcf (by decide)|exact (Int.toNat_of_nonneg (by omega)).symm|exact dcu|exact lk1 (by assumption)|exact lk0 (by assumption)))|fail) ?_)
    refine CG.cond_f rfl (by exact rho_of rfl) rfl ?_
    repeat (first|apply CG.seq|apply CG.region|apply SG.nil|apply NG.next|apply CG.skip|apply CG.block|apply CG.ret|apply CG.exit|apply CG.scope|apply NG.ret_then|apply NG.ret_block|apply NG.ret_scope|apply NG.exit_then|refine NG.exit_block rfl ?_|refine NG.exit_other rfl ?_|apply NG.exit_scope|apply NG.normal_block|apply NG.normal_scope|refine SG.val rfl rfl rfl rfl (by first|((first|apply qmv|apply qas|apply qlc|apply qla|apply qfa|apply qnc|apply qic|apply qix|apply qpk|apply qls|apply qei|apply qni|apply qed|apply qnd|apply qad|apply qln|apply qle|apply qgt|apply qge|apply qlk|apply qlv|apply qxt|apply qsb|apply qnt|apply qep|apply qnp|apply qeb|apply qnb|apply qcv|apply qlm|apply qfr|apply qto|apply qmx)<;>(first|exact rfl|exact Ar.mk (by omega)|assumption|exact dct (by assumption)|exact dcf (by assumption)|exact dct (by omega)|exact dcf (by omega)|exact List.not_mem_nil|exact dc_length _|exact nc_length _|exact nm1 (by omega)|exact nm2 (by omega) (by omega)|exact dct rfl|exact dct (by decide)|exact dcf (by decide)|exact (Int.toNat_of_nonneg (by omega)).symm|exact dcu|exact lk1 (by assumption)|exact lk0 (by assumption)))|fail) ?_)
    refine ret1 (Or.inl rfl) Try.results16 (by first | exact ResV.tmp rfl | exact ResV.agg rfl rfl (by assumption) (by first | exact dc_length _ | exact nc_length _ | rfl) | exact ResV.cell rfl rfl (by assumption)) ?_
    exact ⟨by simp [Tr.height, hr], hk1.trans hk2⟩
end Go.Proofs.Ytpnenekgldggbaa
