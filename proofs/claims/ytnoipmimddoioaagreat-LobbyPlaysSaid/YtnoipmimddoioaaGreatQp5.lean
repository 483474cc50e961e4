import Derived.Test.YtnoipmimddoioaaGreatQp4
namespace Go.Proofs.YtnoipmimddoioaaGreat
open Go.Proofs
set_option linter.unusedVariables false
theorem putS_nat (n : Nat) : toB (addI 128 ((n : Int) % 128)) = UInt8.ofNat (128 + n % 128) := by
  have e : (128 : Int) + (n : Int) % 128 = ((128 + n % 128 : Nat) : Int) := by omega
  have e2 : addI 128 ((n : Int) % 128) = ((128 + n % 128 : Nat) : Int) := by
    unfold addI
    rw [e]
    exact wrap64_nat (by omega)
  rw [e2, toB_nat]
attribute [local irreducible] CG NG SG Vals Der Row Blk MapIs IterAt addI xorI orI andI shlI shrI mulI
set_option maxHeartbeats 8000000 in
theorem rof_spec {w : World} {a : Option Addr} {c : Nat} {l : List UInt8} (hS : Sl by1 1 w a l) (hl : l.length ≤ 100000000) : Ret Tryz.prog 66 #[.slice a l.length c] w (dv (ofI l)) := by
  refine enter1 Tryz.func66 rfl Tryz.ntmps66 rfl ?_
  repeat (first|apply cA|apply cB|apply cD|apply cE|apply cF|apply cG|apply cH|apply cJ|apply cU|refine cV rfl ?_|apply cY|refine cZ rfl rfl rfl rfl (by first|(apply q64b<;>(first|exact rfl|assumption|exact Ar.mk (by omega)|exact dct (by first|assumption|omega)|exact dcf (by first|assumption|omega)|exact List.not_mem_nil|apply dc_length|exact nm1 (by omega)|fail))|(apply qi64<;>(first|exact rfl|assumption|exact Ar.mk (by omega)|exact dct (by first|assumption|omega)|exact dcf (by first|assumption|omega)|exact List.not_mem_nil|apply dc_length|exact nm1 (by omega)|fail))|((first|apply quad|apply qqu|apply qru|apply qmv|apply qas|apply qla|apply qix|apply qls|apply qad|apply qln|apply qge)<;>(first|exact rfl|assumption|exact Ar.mk (by omega)|exact dct (by first|assumption|omega)|exact dcf (by first|assumption|omega)|exact List.not_mem_nil|apply dc_length|exact nm1 (by omega)|fail))|fail) ?_)
  refine SG.alloc rfl rfl rfl (fun b2 w1 hk1 hb2 hB2 => ?_)
  have hB2 : Blk w1 b2 (.cells (dc zd).toArray 31) := hB2
  repeat (first|apply cA|apply cB|apply cD|apply cE|apply cF|apply cG|apply cH|apply cJ|apply cU|refine cV rfl ?_|apply cY|refine cZ rfl rfl rfl rfl (by first|(apply q64b<;>(first|exact rfl|assumption|exact Ar.mk (by omega)|exact dct (by first|assumption|omega)|exact dcf (by first|assumption|omega)|exact List.not_mem_nil|apply dc_length|exact nm1 (by omega)|fail))|(apply qi64<;>(first|exact rfl|assumption|exact Ar.mk (by omega)|exact dct (by first|assumption|omega)|exact dcf (by first|assumption|omega)|exact List.not_mem_nil|apply dc_length|exact nm1 (by omega)|fail))|((first|apply quad|apply qqu|apply qru|apply qmv|apply qas|apply qla|apply qix|apply qls|apply qad|apply qln|apply qge)<;>(first|exact rfl|assumption|exact Ar.mk (by omega)|exact dct (by first|assumption|omega)|exact dcf (by first|assumption|omega)|exact List.not_mem_nil|apply dc_length|exact nm1 (by omega)|fail))|fail) ?_)
  refine SG.ret rfl rfl rfl (by repeat' (first | exact True.intro | exact rho_of rfl | refine And.intro ?_ ?_)) (rbegin_spec 1 w1) (fun w2 hk2 => ?_)
  repeat (first|apply cA|apply cB|apply cD|apply cE|apply cF|apply cG|apply cH|apply cJ|apply cU|refine cV rfl ?_|apply cY|refine cZ rfl rfl rfl rfl (by first|(apply q64b<;>(first|exact rfl|assumption|exact Ar.mk (by omega)|exact dct (by first|assumption|omega)|exact dcf (by first|assumption|omega)|exact List.not_mem_nil|apply dc_length|exact nm1 (by omega)|fail))|(apply qi64<;>(first|exact rfl|assumption|exact Ar.mk (by omega)|exact dct (by first|assumption|omega)|exact dcf (by first|assumption|omega)|exact List.not_mem_nil|apply dc_length|exact nm1 (by omega)|fail))|((first|apply quad|apply qqu|apply qru|apply qmv|apply qas|apply qla|apply qix|apply qls|apply qad|apply qln|apply qge)<;>(first|exact rfl|assumption|exact Ar.mk (by omega)|exact dct (by first|assumption|omega)|exact dcf (by first|assumption|omega)|exact List.not_mem_nil|apply dc_length|exact nm1 (by omega)|fail))|fail) ?_)
  refine SG.ret rfl rfl rfl (by repeat' (first | exact True.intro | exact rho_of rfl | refine And.intro ?_ ?_)) (rbytes_spec (s := beginI 1) (c := c) ((hS.kp0 hk1).kp0 hk2) hl) (fun w3 hk3 => ?_)
  refine SG.ret rfl rfl rfl (by repeat' (first | exact True.intro | exact rho_of rfl | refine And.intro ?_ ?_)) (rout_spec _ w3) (fun w4 hk4 => ?_)
  refine SG.setAll (old := dc zd) (l := dc (ofI l)) rfl rfl (by exact rho_of rfl) (by exact rho_of rfl) (((hB2.kp0 hk2).kp0 hk3).kp0 hk4) (dc_length _) (dc_length _) (dc_one _) (fun w5 hk5 hB5 => ?_)
  have hr4 : Row w5 b2 0 (dc (ofI l)) := Row.all hB5 rfl
  repeat (first|apply cA|apply cB|apply cD|apply cE|apply cF|apply cG|apply cH|apply cJ|apply cU|refine cV rfl ?_|apply cY|refine cZ rfl rfl rfl rfl (by first|(apply q64b<;>(first|exact rfl|assumption|exact Ar.mk (by omega)|exact dct (by first|assumption|omega)|exact dcf (by first|assumption|omega)|exact List.not_mem_nil|apply dc_length|exact nm1 (by omega)|fail))|(apply qi64<;>(first|exact rfl|assumption|exact Ar.mk (by omega)|exact dct (by first|assumption|omega)|exact dcf (by first|assumption|omega)|exact List.not_mem_nil|apply dc_length|exact nm1 (by omega)|fail))|((first|apply quad|apply qqu|apply qru|apply qmv|apply qas|apply qla|apply qix|apply qls|apply qad|apply qln|apply qge)<;>(first|exact rfl|assumption|exact Ar.mk (by omega)|exact dct (by first|assumption|omega)|exact dcf (by first|assumption|omega)|exact List.not_mem_nil|apply dc_length|exact nm1 (by omega)|fail))|fail) ?_)
  refine ret1 (Or.inl rfl) Tryz.results66 (by first | exact ResV.tmp rfl | exact ResV.agg rfl rfl (by assumption) (by first | exact dc_length _ | exact nc_length _ | exact rc_length _ _ _ | exact ec_length _ | exact dl_length _ _ _ _ | rfl) | exact ResV.cell rfl rfl (by assumption)) ?_
  exact ⟨rfl, (((hk1.trans hk2).trans hk3).trans hk4).trans_new hk5 (new1 (by omega))⟩
set_option maxHeartbeats 8000000 in
theorem rtwo_spec (x y : Dg) (w : World) : Ret Tryz.prog 50 #[dv x, dv y] w (dv (twoI x y)) := by
  refine enter2 Tryz.func50 rfl Tryz.ntmps50 rfl ?_
  repeat (first|apply cA|apply cB|apply cD|apply cE|apply cF|apply cG|apply cH|apply cJ|apply cU|refine cV rfl ?_|apply cY|refine cZ rfl rfl rfl rfl (by first|(apply q64b<;>(first|exact rfl|assumption|exact Ar.mk (by omega)|exact dct (by first|assumption|omega)|exact dcf (by first|assumption|omega)|exact List.not_mem_nil|apply dc_length|exact nm1 (by omega)|fail))|(apply qi64<;>(first|exact rfl|assumption|exact Ar.mk (by omega)|exact dct (by first|assumption|omega)|exact dcf (by first|assumption|omega)|exact List.not_mem_nil|apply dc_length|exact nm1 (by omega)|fail))|((first|apply quad|apply qqu|apply qru|apply qmv|apply qas|apply qla|apply qix|apply qls|apply qad|apply qln|apply qge)<;>(first|exact rfl|assumption|exact Ar.mk (by omega)|exact dct (by first|assumption|omega)|exact dcf (by first|assumption|omega)|exact List.not_mem_nil|apply dc_length|exact nm1 (by omega)|fail))|fail) ?_)
  refine SG.box rfl rfl rfl (by exact rho_of rfl) (fun bx wa hka hbx hBx => ?_)
  have hBx : Blk wa bx (.cells (dc x).toArray 31) := hBx
  refine SG.box rfl rfl rfl (by exact rho_of rfl) (fun by' wb hkb hby hBy => ?_)
  have hBy : Blk wb by' (.cells (dc y).toArray 31) := hBy
  refine SG.alloc rfl rfl rfl (fun b2 w1 hk1 hb2 hB2 => ?_)
  have hB2 : Blk w1 b2 (.cells (dc zd).toArray 31) := hB2
  have rx := (Row.all (l := dc x) hBx rfl).kp0 (hkb.trans hk1)
  have ry := (Row.all (l := dc y) hBy rfl).kp0 hk1
  have sa := hka.size
  have sb := hkb.size
  repeat (first|apply cA|apply cB|apply cD|apply cE|apply cF|apply cG|apply cH|apply cJ|apply cU|refine cV rfl ?_|apply cY|refine cZ rfl rfl rfl rfl (by first|(apply q64b<;>(first|exact rfl|assumption|exact Ar.mk (by omega)|exact dct (by first|assumption|omega)|exact dcf (by first|assumption|omega)|exact List.not_mem_nil|apply dc_length|exact nm1 (by omega)|fail))|(apply qi64<;>(first|exact rfl|assumption|exact Ar.mk (by omega)|exact dct (by first|assumption|omega)|exact dcf (by first|assumption|omega)|exact List.not_mem_nil|apply dc_length|exact nm1 (by omega)|fail))|((first|apply quad|apply qqu|apply qru|apply qmv|apply qas|apply qla|apply qix|apply qls|apply qad|apply qln|apply qge)<;>(first|exact rfl|assumption|exact Ar.mk (by omega)|exact dct (by first|assumption|omega)|exact dcf (by first|assumption|omega)|exact List.not_mem_nil|apply dc_length|exact nm1 (by omega)|fail))|fail) ?_)
  refine CG.tail mixed 5 [0, 1, 2, 3, 4] (by kernel_rfl) ?_
  refine Der.call rfl rfl rfl (vs := [.int .u64 3]) (by repeat' (first | exact True.intro | exact rho_of rfl | refine And.intro ?_ ?_)) (fun w _ _ => rbegin_spec 3 w) ?_
  repeat (refine dB rfl rfl rfl (by first|(apply q64b<;>(first|exact rfl|assumption|exact Ar.mk (by omega)|exact dct (by first|assumption|omega)|exact dcf (by first|assumption|omega)|exact List.not_mem_nil|apply dc_length|exact nm1 (by omega)|fail))|(apply qi64<;>(first|exact rfl|assumption|exact Ar.mk (by omega)|exact dct (by first|assumption|omega)|exact dcf (by first|assumption|omega)|exact List.not_mem_nil|apply dc_length|exact nm1 (by omega)|fail))|((first|apply quad|apply qqu|apply qru|apply qmv|apply qas|apply qla|apply qix|apply qls|apply qad|apply qln|apply qge)<;>(first|exact rfl|assumption|exact Ar.mk (by omega)|exact dct (by first|assumption|omega)|exact dcf (by first|assumption|omega)|exact List.not_mem_nil|apply dc_length|exact nm1 (by omega)|fail))|fail) ?_)
  refine Der.call rfl rfl rfl (vs := [dv x]) (by repeat' (first | exact True.intro | exact rho_of rfl | refine And.intro ?_ ?_)) (fun w _ _ => rnum_spec x w) ?_
  refine Der.call rfl rfl rfl (vs := [.agg (hsl (beginI 3)).toArray, .int .u64 (num x : Int)]) (by repeat' (first | exact True.intro | exact rho_of rfl | refine And.intro ?_ ?_)) (fun w _ _ => rin_spec (beginI 3) _ w) ?_
  repeat (refine dB rfl rfl rfl (by first|(apply q64b<;>(first|exact rfl|assumption|exact Ar.mk (by omega)|exact dct (by first|assumption|omega)|exact dcf (by first|assumption|omega)|exact List.not_mem_nil|apply dc_length|exact nm1 (by omega)|fail))|(apply qi64<;>(first|exact rfl|assumption|exact Ar.mk (by omega)|exact dct (by first|assumption|omega)|exact dcf (by first|assumption|omega)|exact List.not_mem_nil|apply dc_length|exact nm1 (by omega)|fail))|((first|apply quad|apply qqu|apply qru|apply qmv|apply qas|apply qla|apply qix|apply qls|apply qad|apply qln|apply qge)<;>(first|exact rfl|assumption|exact Ar.mk (by omega)|exact dct (by first|assumption|omega)|exact dcf (by first|assumption|omega)|exact List.not_mem_nil|apply dc_length|exact nm1 (by omega)|fail))|fail) ?_)
  refine Der.tl (fun w2 hk2 _ _ => ?_)
  refine SG.ret rfl rfl rfl (by repeat' (first | exact True.intro | exact rho_of rfl | refine And.intro ?_ ?_)) (rnum_spec y w2) (fun w3 hk3 => ?_)
  refine SG.ret rfl rfl rfl (by repeat' (first | exact True.intro | exact rho_of rfl | refine And.intro ?_ ?_)) (rin_spec _ (num y : Int) w3) (fun w4 hk4 => ?_)
  refine SG.ret rfl rfl rfl (by repeat' (first | exact True.intro | exact rho_of rfl | refine And.intro ?_ ?_)) (rout_spec _ w4) (fun w5 hk5 => ?_)
  refine SG.setAll (old := dc zd) (l := dc (twoI x y)) rfl rfl (by exact rho_of rfl) (by exact rho_of rfl) ((((hB2.kp0 hk2).kp0 hk3).kp0 hk4).kp0 hk5) (dc_length _) (dc_length _) (dc_one _) (fun wz hkz hBz => ?_)
  have hr4 : Row wz b2 0 (dc (twoI x y)) := Row.all hBz rfl
  repeat (first|apply cA|apply cB|apply cD|apply cE|apply cF|apply cG|apply cH|apply cJ|apply cU|refine cV rfl ?_|apply cY|refine cZ rfl rfl rfl rfl (by first|(apply q64b<;>(first|exact rfl|assumption|exact Ar.mk (by omega)|exact dct (by first|assumption|omega)|exact dcf (by first|assumption|omega)|exact List.not_mem_nil|apply dc_length|exact nm1 (by omega)|fail))|(apply qi64<;>(first|exact rfl|assumption|exact Ar.mk (by omega)|exact dct (by first|assumption|omega)|exact dcf (by first|assumption|omega)|exact List.not_mem_nil|apply dc_length|exact nm1 (by omega)|fail))|((first|apply quad|apply qqu|apply qru|apply qmv|apply qas|apply qla|apply qix|apply qls|apply qad|apply qln|apply qge)<;>(first|exact rfl|assumption|exact Ar.mk (by omega)|exact dct (by first|assumption|omega)|exact dcf (by first|assumption|omega)|exact List.not_mem_nil|apply dc_length|exact nm1 (by omega)|fail))|fail) ?_)
  refine ret1 (Or.inl rfl) Tryz.results50 (by first | exact ResV.tmp rfl | exact ResV.agg rfl rfl (by assumption) (by first | exact dc_length _ | exact nc_length _ | exact rc_length _ _ _ | exact ec_length _ | exact dl_length _ _ _ _ | rfl) | exact ResV.cell rfl rfl (by assumption)) ?_
  exact ⟨rfl, (((((hka.trans hkb).trans hk1).trans hk2).trans hk3).trans (hk4.trans hk5)).trans_new hkz (new1 (by omega))⟩
set_option maxHeartbeats 8000000 in
theorem rmany_spec {w : World} {a : Option Addr} {l : List Dg} (c : Nat) (hS : Sl dc 8 w a l) (hl : l.length ≤ 1000000000) :
    Ret Tryz.prog 47 #[.slice a l.length c] w (dv (manyI l)) := by
  refine enter1 Tryz.func47 rfl Tryz.ntmps47 rfl ?_
  repeat (first|apply cA|apply cB|apply cD|apply cE|apply cF|apply cG|apply cH|apply cJ|apply cU|refine cV rfl ?_|apply cY|refine cZ rfl rfl rfl rfl (by first|(apply q64b<;>(first|exact rfl|assumption|exact Ar.mk (by omega)|exact dct (by first|assumption|omega)|exact dcf (by first|assumption|omega)|exact List.not_mem_nil|apply dc_length|exact nm1 (by omega)|fail))|(apply qi64<;>(first|exact rfl|assumption|exact Ar.mk (by omega)|exact dct (by first|assumption|omega)|exact dcf (by first|assumption|omega)|exact List.not_mem_nil|apply dc_length|exact nm1 (by omega)|fail))|((first|apply quad|apply qqu|apply qru|apply qmv|apply qas|apply qla|apply qix|apply qls|apply qad|apply qln|apply qge)<;>(first|exact rfl|assumption|exact Ar.mk (by omega)|exact dct (by first|assumption|omega)|exact dcf (by first|assumption|omega)|exact List.not_mem_nil|apply dc_length|exact nm1 (by omega)|fail))|fail) ?_)
  refine SG.alloc rfl rfl rfl (fun b2 w1 hk1 hb2 hB2 => ?_)
  have hB2 : Blk w1 b2 (.cells (dc zd).toArray 31) := hB2
  have l2 := hB2.lt
  repeat (first|apply cA|apply cB|apply cD|apply cE|apply cF|apply cG|apply cH|apply cJ|apply cU|refine cV rfl ?_|apply cY|refine cZ rfl rfl rfl rfl (by first|(apply q64b<;>(first|exact rfl|assumption|exact Ar.mk (by omega)|exact dct (by first|assumption|omega)|exact dcf (by first|assumption|omega)|exact List.not_mem_nil|apply dc_length|exact nm1 (by omega)|fail))|(apply qi64<;>(first|exact rfl|assumption|exact Ar.mk (by omega)|exact dct (by first|assumption|omega)|exact dcf (by first|assumption|omega)|exact List.not_mem_nil|apply dc_length|exact nm1 (by omega)|fail))|((first|apply quad|apply qqu|apply qru|apply qmv|apply qas|apply qla|apply qix|apply qls|apply qad|apply qln|apply qge)<;>(first|exact rfl|assumption|exact Ar.mk (by omega)|exact dct (by first|assumption|omega)|exact dcf (by first|assumption|omega)|exact List.not_mem_nil|apply dc_length|exact nm1 (by omega)|fail))|fail) ?_)
  refine SG.ret rfl rfl rfl (by repeat' (first | exact True.intro | exact rho_of rfl | refine And.intro ?_ ?_)) (rbegin_spec 5 w1) (fun w2 hk2 => ?_)
  refine SG.alloc rfl rfl rfl (fun b3 w3 hk3 hb3 hB3 => ?_)
  have hB3 : Blk w3 b3 (.cells (hsl ⟨0, 0, 0, 0⟩).toArray 116) := hB3
  refine SG.setAll (old := hsl ⟨0, 0, 0, 0⟩) (l := hsl (beginI 5)) rfl rfl (by exact rho_of rfl) (by exact rho_of rfl) hB3 rfl rfl rfl (fun w4 hk4 hB4 => ?_)
  have s1 := hk1.size
  have s2 := hk2.size
  have s3 := hk3.size
  have k3 : Kp [] w w3 := (hk1.trans hk2).trans hk3
  have k4 : Kp [] w w4 := k3.trans_new hk4 (new1 (by omega))
  have l3 := hB3.lt
  have hB24 : Blk w4 b2 (.cells (dc zd).toArray 31) := ((hB2.kp0 hk2).kp0 hk3).kp hk4 (nm1 (by omega))
  repeat (first|apply cA|apply cB|apply cD|apply cE|apply cF|apply cG|apply cH|apply cJ|apply cU|refine cV rfl ?_|apply cY|refine cZ rfl rfl rfl rfl (by first|(apply q64b<;>(first|exact rfl|assumption|exact Ar.mk (by omega)|exact dct (by first|assumption|omega)|exact dcf (by first|assumption|omega)|exact List.not_mem_nil|apply dc_length|exact nm1 (by omega)|fail))|(apply qi64<;>(first|exact rfl|assumption|exact Ar.mk (by omega)|exact dct (by first|assumption|omega)|exact dcf (by first|assumption|omega)|exact List.not_mem_nil|apply dc_length|exact nm1 (by omega)|fail))|((first|apply quad|apply qqu|apply qru|apply qmv|apply qas|apply qla|apply qix|apply qls|apply qad|apply qln|apply qge)<;>(first|exact rfl|assumption|exact Ar.mk (by omega)|exact dct (by first|assumption|omega)|exact dcf (by first|assumption|omega)|exact List.not_mem_nil|apply dc_length|exact nm1 (by omega)|fail))|fail) ?_)
  refine CG.loop (X := Nat) (fun i => [(0, .slice a l.length c), (2, .pointer (some ⟨b2, 0, none⟩)), (3, .pointer (some ⟨b3, 0, none⟩)), (4, .int .i64 (i : Int))])
    (fun i w' => i ≤ l.length ∧ Kp [] w w' ∧ w4.heap.size ≤ w'.heap.size ∧ Blk w' b3 (.cells (hsl (manyS (beginI 5) (l.take i))).toArray 116) ∧ Blk w' b2 (.cells (dc zd).toArray 31)) (fun i => l.length - i) 0 ⟨by omega, k4, Nat.le_refl _, by simpa [manyS] using hB4, hB24⟩ (by (repeat' (first | exact True.intro | exact rfl | refine And.intro ?_ ?_))) ?_
  rintro i w5 ⟨hi, k5, s5, hB5, hB25⟩
  have hr5 := Row.all (l := hsl (manyS (beginI 5) (l.take i))) hB5 rfl
  by_cases hlt : i < l.length
  · have g1 : (i : Int) < (l.length : Int) := by omega
    obtain ⟨ba, off, rfl, hrow⟩ := (hS.kp0 k5).at hlt
    repeat (first|apply cA|apply cB|apply cD|apply cE|apply cF|apply cG|apply cH|apply cJ|apply cU|refine cV rfl ?_|apply cY|refine cZ rfl rfl rfl rfl (by first|(apply q64b<;>(first|exact rfl|assumption|exact Ar.mk (by omega)|exact dct (by first|assumption|omega)|exact dcf (by first|assumption|omega)|exact List.not_mem_nil|apply dc_length|exact nm1 (by omega)|fail))|(apply qi64<;>(first|exact rfl|assumption|exact Ar.mk (by omega)|exact dct (by first|assumption|omega)|exact dcf (by first|assumption|omega)|exact List.not_mem_nil|apply dc_length|exact nm1 (by omega)|fail))|((first|apply quad|apply qqu|apply qru|apply qmv|apply qas|apply qla|apply qix|apply qls|apply qad|apply qln|apply qge)<;>(first|exact rfl|assumption|exact Ar.mk (by omega)|exact dct (by first|assumption|omega)|exact dcf (by first|assumption|omega)|exact List.not_mem_nil|apply dc_length|exact nm1 (by omega)|fail))|fail) ?_)
    refine dD rfl (by exact rho_of rfl) rfl ?_
    repeat (first|apply cA|apply cB|apply cD|apply cE|apply cF|apply cG|apply cH|apply cJ|apply cU|refine cV rfl ?_|apply cY|refine cZ rfl rfl rfl rfl (by first|(apply q64b<;>(first|exact rfl|assumption|exact Ar.mk (by omega)|exact dct (by first|assumption|omega)|exact dcf (by first|assumption|omega)|exact List.not_mem_nil|apply dc_length|exact nm1 (by omega)|fail))|(apply qi64<;>(first|exact rfl|assumption|exact Ar.mk (by omega)|exact dct (by first|assumption|omega)|exact dcf (by first|assumption|omega)|exact List.not_mem_nil|apply dc_length|exact nm1 (by omega)|fail))|((first|apply quad|apply qqu|apply qru|apply qmv|apply qas|apply qla|apply qix|apply qls|apply qad|apply qln|apply qge)<;>(first|exact rfl|assumption|exact Ar.mk (by omega)|exact dct (by first|assumption|omega)|exact dcf (by first|assumption|omega)|exact List.not_mem_nil|apply dc_length|exact nm1 (by omega)|fail))|fail) ?_)
    refine CG.tail mixed 6 [0, 1, 2, 3, 4, 5] (by kernel_rfl) ?_
    repeat (refine dB rfl rfl rfl (by first|(apply q64b<;>(first|exact rfl|assumption|exact Ar.mk (by omega)|exact dct (by first|assumption|omega)|exact dcf (by first|assumption|omega)|exact List.not_mem_nil|apply dc_length|exact nm1 (by omega)|fail))|(apply qi64<;>(first|exact rfl|assumption|exact Ar.mk (by omega)|exact dct (by first|assumption|omega)|exact dcf (by first|assumption|omega)|exact List.not_mem_nil|apply dc_length|exact nm1 (by omega)|fail))|((first|apply quad|apply qqu|apply qru|apply qmv|apply qas|apply qla|apply qix|apply qls|apply qad|apply qln|apply qge)<;>(first|exact rfl|assumption|exact Ar.mk (by omega)|exact dct (by first|assumption|omega)|exact dcf (by first|assumption|omega)|exact List.not_mem_nil|apply dc_length|exact nm1 (by omega)|fail))|fail) ?_)
    refine Der.call rfl rfl rfl (vs := [dv l[i]]) (by repeat' (first | exact True.intro | exact rho_of rfl | refine And.intro ?_ ?_)) (fun w _ _ => rnum_spec l[i] w) ?_
    refine Der.tl (fun w6 hk6 _ _ => ?_)
    refine SG.ret rfl rfl rfl (by repeat' (first | exact True.intro | exact rho_of rfl | refine And.intro ?_ ?_)) (rin_spec _ (num l[i] : Int) w6) (fun w7 hk7 => ?_)
    refine SG.setAll (old := hsl (manyS (beginI 5) (l.take i))) (l := hsl (takeI (manyS (beginI 5) (l.take i)) (num l[i] : Int))) rfl rfl (by exact rho_of rfl) (by exact rho_of rfl) ((hB5.kp0 hk6).kp0 hk7) rfl rfl rfl (fun w8 hk8 hB8 => ?_)
    have s6 := hk6.size
    have s7 := hk7.size
    have s8 := hk8.size
    repeat (first|apply cA|apply cB|apply cD|apply cE|apply cF|apply cG|apply cH|apply cJ|apply cU|refine cV rfl ?_|apply cY|refine cZ rfl rfl rfl rfl (by first|(apply q64b<;>(first|exact rfl|assumption|exact Ar.mk (by omega)|exact dct (by first|assumption|omega)|exact dcf (by first|assumption|omega)|exact List.not_mem_nil|apply dc_length|exact nm1 (by omega)|fail))|(apply qi64<;>(first|exact rfl|assumption|exact Ar.mk (by omega)|exact dct (by first|assumption|omega)|exact dcf (by first|assumption|omega)|exact List.not_mem_nil|apply dc_length|exact nm1 (by omega)|fail))|((first|apply quad|apply qqu|apply qru|apply qmv|apply qas|apply qla|apply qix|apply qls|apply qad|apply qln|apply qge)<;>(first|exact rfl|assumption|exact Ar.mk (by omega)|exact dct (by first|assumption|omega)|exact dcf (by first|assumption|omega)|exact List.not_mem_nil|apply dc_length|exact nm1 (by omega)|fail))|fail) ?_)
    refine NG.round (i + 1) (by (repeat' (first | exact True.intro | exact rfl | refine And.intro ?_ ?_))) ⟨by omega, ((k5.trans hk6).trans hk7).trans_new hk8 (new1 (by omega)), by omega, ?_, ((hB25.kp0 hk6).kp0 hk7).kp hk8 (nm1 (by omega))⟩ (by omega)
    rw [List.take_succ_eq_append_getElem hlt, manyS_append]
    exact hB8
  · have g1 : ¬ (i : Int) < (l.length : Int) := by omega
    have e8 : i = l.length := by omega
    subst e8
    rw [List.take_of_length_le (Nat.le_refl _)] at hB5 hr5
    repeat (first|apply cA|apply cB|apply cD|apply cE|apply cF|apply cG|apply cH|apply cJ|apply cU|refine cV rfl ?_|apply cY|refine cZ rfl rfl rfl rfl (by first|(apply q64b<;>(first|exact rfl|assumption|exact Ar.mk (by omega)|exact dct (by first|assumption|omega)|exact dcf (by first|assumption|omega)|exact List.not_mem_nil|apply dc_length|exact nm1 (by omega)|fail))|(apply qi64<;>(first|exact rfl|assumption|exact Ar.mk (by omega)|exact dct (by first|assumption|omega)|exact dcf (by first|assumption|omega)|exact List.not_mem_nil|apply dc_length|exact nm1 (by omega)|fail))|((first|apply quad|apply qqu|apply qru|apply qmv|apply qas|apply qla|apply qix|apply qls|apply qad|apply qln|apply qge)<;>(first|exact rfl|assumption|exact Ar.mk (by omega)|exact dct (by first|assumption|omega)|exact dcf (by first|assumption|omega)|exact List.not_mem_nil|apply dc_length|exact nm1 (by omega)|fail))|fail) ?_)
    refine dE rfl (by exact rho_of rfl) rfl ?_
    repeat (first|apply cA|apply cB|apply cD|apply cE|apply cF|apply cG|apply cH|apply cJ|apply cU|refine cV rfl ?_|apply cY|refine cZ rfl rfl rfl rfl (by first|(apply q64b<;>(first|exact rfl|assumption|exact Ar.mk (by omega)|exact dct (by first|assumption|omega)|exact dcf (by first|assumption|omega)|exact List.not_mem_nil|apply dc_length|exact nm1 (by omega)|fail))|(apply qi64<;>(first|exact rfl|assumption|exact Ar.mk (by omega)|exact dct (by first|assumption|omega)|exact dcf (by first|assumption|omega)|exact List.not_mem_nil|apply dc_length|exact nm1 (by omega)|fail))|((first|apply quad|apply qqu|apply qru|apply qmv|apply qas|apply qla|apply qix|apply qls|apply qad|apply qln|apply qge)<;>(first|exact rfl|assumption|exact Ar.mk (by omega)|exact dct (by first|assumption|omega)|exact dcf (by first|assumption|omega)|exact List.not_mem_nil|apply dc_length|exact nm1 (by omega)|fail))|fail) ?_)
    refine SG.ret rfl rfl rfl (by repeat' (first | exact True.intro | exact rho_of rfl | refine And.intro ?_ ?_)) (rin_spec _ (l.length : Int) w5) (fun w6 hk6 => ?_)
    refine SG.ret rfl rfl rfl (by repeat' (first | exact True.intro | exact rho_of rfl | refine And.intro ?_ ?_)) (rout_spec _ w6) (fun w7 hk7 => ?_)
    refine SG.setAll (old := dc zd) (l := dc (manyI l)) rfl rfl (by exact rho_of rfl) (by exact rho_of rfl) ((hB25.kp0 hk6).kp0 hk7) (dc_length _) (dc_length _) (dc_one _) (fun w8 hk8 hB8 => ?_)
    have hr4 : Row w8 b2 0 (dc (manyI l)) := Row.all hB8 rfl
    repeat (first|apply cA|apply cB|apply cD|apply cE|apply cF|apply cG|apply cH|apply cJ|apply cU|refine cV rfl ?_|apply cY|refine cZ rfl rfl rfl rfl (by first|(apply q64b<;>(first|exact rfl|assumption|exact Ar.mk (by omega)|exact dct (by first|assumption|omega)|exact dcf (by first|assumption|omega)|exact List.not_mem_nil|apply dc_length|exact nm1 (by omega)|fail))|(apply qi64<;>(first|exact rfl|assumption|exact Ar.mk (by omega)|exact dct (by first|assumption|omega)|exact dcf (by first|assumption|omega)|exact List.not_mem_nil|apply dc_length|exact nm1 (by omega)|fail))|((first|apply quad|apply qqu|apply qru|apply qmv|apply qas|apply qla|apply qix|apply qls|apply qad|apply qln|apply qge)<;>(first|exact rfl|assumption|exact Ar.mk (by omega)|exact dct (by first|assumption|omega)|exact dcf (by first|assumption|omega)|exact List.not_mem_nil|apply dc_length|exact nm1 (by omega)|fail))|fail) ?_)
    refine ret1 (Or.inl rfl) Tryz.results47 (by first | exact ResV.tmp rfl | exact ResV.agg rfl rfl (by assumption) (by first | exact dc_length _ | exact nc_length _ | exact rc_length _ _ _ | exact ec_length _ | exact dl_length _ _ _ _ | rfl) | exact ResV.cell rfl rfl (by assumption)) ?_
    exact ⟨rfl, ((k5.trans hk6).trans hk7).trans_new hk8 (new1 (by omega))⟩
set_option maxHeartbeats 8000000 in
theorem rput_spec (n : Nat) (hn : n < 18446744073709551616) (w : World) : RetO Tryz.prog 5 by1 1 87 #[.int .u64 (n : Int)] w (putU n) := by
  refine enter1 Tryz.func87 rfl Tryz.ntmps87 rfl ?_
  repeat (first|apply cA|apply cB|apply cD|apply cE|apply cF|apply cG|apply cH|apply cJ|apply cU|refine cV rfl ?_|apply cY|refine cZ rfl rfl rfl rfl (by first|(apply q64b<;>(first|exact rfl|assumption|exact Ar.mk (by omega)|exact dct (by first|assumption|omega)|exact dcf (by first|assumption|omega)|exact List.not_mem_nil|apply dc_length|exact nm1 (by omega)|fail))|(apply qi64<;>(first|exact rfl|assumption|exact Ar.mk (by omega)|exact dct (by first|assumption|omega)|exact dcf (by first|assumption|omega)|exact List.not_mem_nil|apply dc_length|exact nm1 (by omega)|fail))|((first|apply quad|apply qqu|apply qru|apply qmv|apply qas|apply qla|apply qix|apply qls|apply qad|apply qln|apply qge)<;>(first|exact rfl|assumption|exact Ar.mk (by omega)|exact dct (by first|assumption|omega)|exact dcf (by first|assumption|omega)|exact List.not_mem_nil|apply dc_length|exact nm1 (by omega)|fail))|fail) ?_)
  refine CG.loop (X := Value × Nat × List UInt8 × Nat) (fun x => [(0, .int .u64 (x.2.2.2 : Int)), (3, x.1)])
    (fun x w' => w'.ownsRow w.heap.size 5 1 x.1 x.2.2.1.length (flt by1 x.2.2.1) ∧ x.2.1 ≤ 10 ∧ x.2.2.1.length = 10 - x.2.1 ∧ x.2.2.2 < 128 ^ (x.2.1 + 1) ∧ x.2.2.1 ++ putN x.2.1 x.2.2.2 = putU n ∧ Kp [] w w' ∧ Ar (0 ≤ (x.2.2.2 : Int) ∧ (x.2.2.2 : Int) < 18446744073709551616 ∧ (0 : Int) < 128)) (fun x => x.2.1) (.slice none 0 0, 10, [], n) ⟨own_nil, Nat.le_refl _, rfl, Nat.lt_of_lt_of_le hn (show 18446744073709551616 ≤ 128 ^ 11 by decide), rfl, Kp.refl _ _, ⟨by simp only; omega⟩⟩ (by (repeat' (first | exact True.intro | exact rfl | refine And.intro ?_ ?_))) ?_
  clear hn
  rintro ⟨v1, f, done, m⟩ w1 ⟨ho1, hf, hd, hm, hp, hk1, hm64⟩
  simp only at ho1 hf hd hm hp hm64
  refine CG.to [(0, .int .u64 (m : Int)), (3, v1)] (by (repeat' (first | exact True.intro | exact rfl | refine And.intro ?_ ?_))) ?_
  have hs1 := hk1.size
  by_cases hlt : m < 128
  · have g1 : ¬ (128 : Int) ≤ (m : Int) := by omega
    have hput : putN f m = [UInt8.ofNat m] := by
      cases f with
      | zero => rfl
      | succ f => simp [putN, hlt]
    rw [hput] at hp
    repeat (first|apply cA|apply cB|apply cD|apply cE|apply cF|apply cG|apply cH|apply cJ|apply cU|refine cV rfl ?_|apply cY|refine cZ rfl rfl rfl rfl (by first|(apply q64b<;>(first|exact rfl|assumption|exact Ar.mk (by omega)|exact dct (by first|assumption|omega)|exact dcf (by first|assumption|omega)|exact List.not_mem_nil|apply dc_length|exact nm1 (by omega)|fail))|(apply qi64<;>(first|exact rfl|assumption|exact Ar.mk (by omega)|exact dct (by first|assumption|omega)|exact dcf (by first|assumption|omega)|exact List.not_mem_nil|apply dc_length|exact nm1 (by omega)|fail))|((first|apply quad|apply qqu|apply qru|apply qmv|apply qas|apply qla|apply qix|apply qls|apply qad|apply qln|apply qge)<;>(first|exact rfl|assumption|exact Ar.mk (by omega)|exact dct (by first|assumption|omega)|exact dcf (by first|assumption|omega)|exact List.not_mem_nil|apply dc_length|exact nm1 (by omega)|fail))|fail) ?_)
    refine dE rfl (by exact rho_of rfl) rfl ?_
    repeat (first|apply cA|apply cB|apply cD|apply cE|apply cF|apply cG|apply cH|apply cJ|apply cU|refine cV rfl ?_|apply cY|refine cZ rfl rfl rfl rfl (by first|(apply q64b<;>(first|exact rfl|assumption|exact Ar.mk (by omega)|exact dct (by first|assumption|omega)|exact dcf (by first|assumption|omega)|exact List.not_mem_nil|apply dc_length|exact nm1 (by omega)|fail))|(apply qi64<;>(first|exact rfl|assumption|exact Ar.mk (by omega)|exact dct (by first|assumption|omega)|exact dcf (by first|assumption|omega)|exact List.not_mem_nil|apply dc_length|exact nm1 (by omega)|fail))|((first|apply quad|apply qqu|apply qru|apply qmv|apply qas|apply qla|apply qix|apply qls|apply qad|apply qln|apply qge)<;>(first|exact rfl|assumption|exact Ar.mk (by omega)|exact dct (by first|assumption|omega)|exact dcf (by first|assumption|omega)|exact List.not_mem_nil|apply dc_length|exact nm1 (by omega)|fail))|fail) ?_)
    rw [toB_nat]
    refine SG.buildSlice rfl rfl rfl rfl (bs1 (UInt8.ofNat m)) (fun b2 w2 hk2 hb2 hB2 => ?_)
    have hS2 : Sl by1 1 w2 (some ⟨b2, 0, none⟩) [UInt8.ofNat m] := Sl.of_blk (pre := []) (post := []) by1_len (l := [UInt8.ofNat m]) (T := 5) hB2
    refine SG.appO (enc := by1) (xs := done) (ys := [UInt8.ofNat m]) (base := w.heap.size) rfl rfl rfl (by exact rho_of rfl) (by exact rho_of rfl) rfl rfl rfl rfl by1_len by1_one (own_kp0 ho1 hk2) hS2 (by simp only [maxLen, List.length_cons, List.length_nil]; omega) (by show (done.length + 1) * 1 ≤ _; omega) (Nat.le_trans hs1 hk2.size) (fun v3 w3 hk3 ho3 hw3 => ?_)
    rw [hp] at ho3
    repeat (first|apply cA|apply cB|apply cD|apply cE|apply cF|apply cG|apply cH|apply cJ|apply cU|refine cV rfl ?_|apply cY|refine cZ rfl rfl rfl rfl (by first|(apply q64b<;>(first|exact rfl|assumption|exact Ar.mk (by omega)|exact dct (by first|assumption|omega)|exact dcf (by first|assumption|omega)|exact List.not_mem_nil|apply dc_length|exact nm1 (by omega)|fail))|(apply qi64<;>(first|exact rfl|assumption|exact Ar.mk (by omega)|exact dct (by first|assumption|omega)|exact dcf (by first|assumption|omega)|exact List.not_mem_nil|apply dc_length|exact nm1 (by omega)|fail))|((first|apply quad|apply qqu|apply qru|apply qmv|apply qas|apply qla|apply qix|apply qls|apply qad|apply qln|apply qge)<;>(first|exact rfl|assumption|exact Ar.mk (by omega)|exact dct (by first|assumption|omega)|exact dcf (by first|assumption|omega)|exact List.not_mem_nil|apply dc_length|exact nm1 (by omega)|fail))|fail) ?_)
    refine ret1 (Or.inl rfl) Tryz.results87 (by first | exact ResV.tmp rfl | exact ResV.agg rfl rfl (by assumption) (by first | exact dc_length _ | exact nc_length _ | exact rc_length _ _ _ | exact ec_length _ | exact dl_length _ _ _ _ | rfl) | exact ResV.cell rfl rfl (by assumption)) ?_
    exact ⟨_, rfl, ho3, (hk1.trans hk2).trans_new hk3 (own_new (own_kp0 ho1 hk2) (Nat.le_refl _))⟩
  · have g1 : (128 : Int) ≤ (m : Int) := by omega
    cases f with
    | zero => simp at hm; omega
    | succ f =>
      have hput : putN (f + 1) m = UInt8.ofNat (128 + m % 128) :: putN f (m / 128) := by simp [putN, hlt]
      rw [hput] at hp
      have e8 := putS_nat m
      have e9 : (m : Int) / 128 = ((m / 128 : Nat) : Int) := by omega
      repeat (first|apply cA|apply cB|apply cD|apply cE|apply cF|apply cG|apply cH|apply cJ|apply cU|refine cV rfl ?_|apply cY|refine cZ rfl rfl rfl rfl (by first|(apply q64b<;>(first|exact rfl|assumption|exact Ar.mk (by omega)|exact dct (by first|assumption|omega)|exact dcf (by first|assumption|omega)|exact List.not_mem_nil|apply dc_length|exact nm1 (by omega)|fail))|(apply qi64<;>(first|exact rfl|assumption|exact Ar.mk (by omega)|exact dct (by first|assumption|omega)|exact dcf (by first|assumption|omega)|exact List.not_mem_nil|apply dc_length|exact nm1 (by omega)|fail))|((first|apply quad|apply qqu|apply qru|apply qmv|apply qas|apply qla|apply qix|apply qls|apply qad|apply qln|apply qge)<;>(first|exact rfl|assumption|exact Ar.mk (by omega)|exact dct (by first|assumption|omega)|exact dcf (by first|assumption|omega)|exact List.not_mem_nil|apply dc_length|exact nm1 (by omega)|fail))|fail) ?_)
      refine dD rfl (by exact rho_of rfl) rfl ?_
      repeat (first|apply cA|apply cB|apply cD|apply cE|apply cF|apply cG|apply cH|apply cJ|apply cU|refine cV rfl ?_|apply cY|refine cZ rfl rfl rfl rfl (by first|(apply q64b<;>(first|exact rfl|assumption|exact Ar.mk (by omega)|exact dct (by first|assumption|omega)|exact dcf (by first|assumption|omega)|exact List.not_mem_nil|apply dc_length|exact nm1 (by omega)|fail))|(apply qi64<;>(first|exact rfl|assumption|exact Ar.mk (by omega)|exact dct (by first|assumption|omega)|exact dcf (by first|assumption|omega)|exact List.not_mem_nil|apply dc_length|exact nm1 (by omega)|fail))|((first|apply quad|apply qqu|apply qru|apply qmv|apply qas|apply qla|apply qix|apply qls|apply qad|apply qln|apply qge)<;>(first|exact rfl|assumption|exact Ar.mk (by omega)|exact dct (by first|assumption|omega)|exact dcf (by first|assumption|omega)|exact List.not_mem_nil|apply dc_length|exact nm1 (by omega)|fail))|fail) ?_)
      rw [e8]
      refine SG.buildSlice rfl rfl rfl rfl (bs1 (UInt8.ofNat (128 + m % 128))) (fun b2 w2 hk2 hb2 hB2 => ?_)
      have hS2 : Sl by1 1 w2 (some ⟨b2, 0, none⟩) [UInt8.ofNat (128 + m % 128)] := Sl.of_blk (pre := []) (post := []) by1_len (l := [UInt8.ofNat (128 + m % 128)]) (T := 5) hB2
      refine SG.appO (enc := by1) (xs := done) (ys := [UInt8.ofNat (128 + m % 128)]) (base := w.heap.size) rfl rfl rfl (by exact rho_of rfl) (by exact rho_of rfl) rfl rfl rfl rfl by1_len by1_one (own_kp0 ho1 hk2) hS2 (by simp only [maxLen, List.length_cons, List.length_nil]; omega) (by show (done.length + 1) * 1 ≤ _; omega) (Nat.le_trans hs1 hk2.size) (fun v3 w3 hk3 ho3 hw3 => ?_)
      repeat (first|apply cA|apply cB|apply cD|apply cE|apply cF|apply cG|apply cH|apply cJ|apply cU|refine cV rfl ?_|apply cY|refine cZ rfl rfl rfl rfl (by first|(apply q64b<;>(first|exact rfl|assumption|exact Ar.mk (by omega)|exact dct (by first|assumption|omega)|exact dcf (by first|assumption|omega)|exact List.not_mem_nil|apply dc_length|exact nm1 (by omega)|fail))|(apply qi64<;>(first|exact rfl|assumption|exact Ar.mk (by omega)|exact dct (by first|assumption|omega)|exact dcf (by first|assumption|omega)|exact List.not_mem_nil|apply dc_length|exact nm1 (by omega)|fail))|((first|apply quad|apply qqu|apply qru|apply qmv|apply qas|apply qla|apply qix|apply qls|apply qad|apply qln|apply qge)<;>(first|exact rfl|assumption|exact Ar.mk (by omega)|exact dct (by first|assumption|omega)|exact dcf (by first|assumption|omega)|exact List.not_mem_nil|apply dc_length|exact nm1 (by omega)|fail))|fail) ?_)
      rw [e9]
      have hm' := hm64.h
      refine NG.round (v3, f, done ++ [UInt8.ofNat (128 + m % 128)], m / 128) (by (repeat' (first | exact True.intro | exact rfl | refine And.intro ?_ ?_))) ⟨ho3, by simp only; omega, by simp; omega, ?_, by simp only [List.append_assoc, List.singleton_append]; exact hp, (hk1.trans hk2).trans_new hk3 (own_new (own_kp0 ho1 hk2) (Nat.le_refl _)), ⟨by simp only; omega⟩⟩ (by simp only; omega)
      simp only
      rw [Nat.pow_succ] at hm
      exact Nat.div_lt_of_lt_mul (by rw [Nat.mul_comm]; exact hm)
set_option maxHeartbeats 8000000 in
theorem rpb_spec {w : World} {a : Option Addr} {c : Nat} {l : List UInt8} (hS : Sl by1 1 w a l) (hl : l.length ≤ 100000000) : RetO Tryz.prog 5 by1 1 63 #[.slice a l.length c] w (putU l.length ++ l) := by
  refine enter1 Tryz.func63 rfl Tryz.ntmps63 rfl ?_
  have hp := putN_len 10 l.length
  have hsp := fun w => rput_spec l.length (by omega) w
  repeat (first|apply cA|apply cB|apply cD|apply cE|apply cF|apply cG|apply cH|apply cJ|apply cU|refine cV rfl ?_|apply cY|refine cZ rfl rfl rfl rfl (by first|(apply q64b<;>(first|exact rfl|assumption|exact Ar.mk (by omega)|exact dct (by first|assumption|omega)|exact dcf (by first|assumption|omega)|exact List.not_mem_nil|apply dc_length|exact nm1 (by omega)|fail))|(apply qi64<;>(first|exact rfl|assumption|exact Ar.mk (by omega)|exact dct (by first|assumption|omega)|exact dcf (by first|assumption|omega)|exact List.not_mem_nil|apply dc_length|exact nm1 (by omega)|fail))|((first|apply quad|apply qqu|apply qru|apply qmv|apply qas|apply qla|apply qix|apply qls|apply qad|apply qln|apply qge)<;>(first|exact rfl|assumption|exact Ar.mk (by omega)|exact dct (by first|assumption|omega)|exact dcf (by first|assumption|omega)|exact List.not_mem_nil|apply dc_length|exact nm1 (by omega)|fail))|fail) ?_)
  refine SG.call rfl rfl rfl (by repeat' (first | exact True.intro | exact rho_of rfl | refine And.intro ?_ ?_)) ((hsp w).mono (fun e w1 hh => ?_))
  obtain ⟨v1, he, ho1, hk1⟩ := hh
  refine ⟨_, he, ?_⟩
  repeat (first|apply cA|apply cB|apply cD|apply cE|apply cF|apply cG|apply cH|apply cJ|apply cU|refine cV rfl ?_|apply cY|refine cZ rfl rfl rfl rfl (by first|(apply q64b<;>(first|exact rfl|assumption|exact Ar.mk (by omega)|exact dct (by first|assumption|omega)|exact dcf (by first|assumption|omega)|exact List.not_mem_nil|apply dc_length|exact nm1 (by omega)|fail))|(apply qi64<;>(first|exact rfl|assumption|exact Ar.mk (by omega)|exact dct (by first|assumption|omega)|exact dcf (by first|assumption|omega)|exact List.not_mem_nil|apply dc_length|exact nm1 (by omega)|fail))|((first|apply quad|apply qqu|apply qru|apply qmv|apply qas|apply qla|apply qix|apply qls|apply qad|apply qln|apply qge)<;>(first|exact rfl|assumption|exact Ar.mk (by omega)|exact dct (by first|assumption|omega)|exact dcf (by first|assumption|omega)|exact List.not_mem_nil|apply dc_length|exact nm1 (by omega)|fail))|fail) ?_)
  refine SG.appO (enc := by1) (xs := putU l.length) (ys := l) (base := w.heap.size) rfl rfl rfl (by exact rho_of rfl) (by exact rho_of rfl) rfl rfl rfl rfl by1_len by1_one ho1 (hS.kp0 hk1) (by simp only [maxLen]; show (putN 10 l.length).length + _ ≤ _; omega) (by show ((putN 10 l.length).length + _) * 1 ≤ _; omega) hk1.size (fun v3 w3 hk3 ho3 hw3 => ?_)
  repeat (first|apply cA|apply cB|apply cD|apply cE|apply cF|apply cG|apply cH|apply cJ|apply cU|refine cV rfl ?_|apply cY|refine cZ rfl rfl rfl rfl (by first|(apply q64b<;>(first|exact rfl|assumption|exact Ar.mk (by omega)|exact dct (by first|assumption|omega)|exact dcf (by first|assumption|omega)|exact List.not_mem_nil|apply dc_length|exact nm1 (by omega)|fail))|(apply qi64<;>(first|exact rfl|assumption|exact Ar.mk (by omega)|exact dct (by first|assumption|omega)|exact dcf (by first|assumption|omega)|exact List.not_mem_nil|apply dc_length|exact nm1 (by omega)|fail))|((first|apply quad|apply qqu|apply qru|apply qmv|apply qas|apply qla|apply qix|apply qls|apply qad|apply qln|apply qge)<;>(first|exact rfl|assumption|exact Ar.mk (by omega)|exact dct (by first|assumption|omega)|exact dcf (by first|assumption|omega)|exact List.not_mem_nil|apply dc_length|exact nm1 (by omega)|fail))|fail) ?_)
  refine ret1 (Or.inl rfl) Tryz.results63 (by first | exact ResV.tmp rfl | exact ResV.agg rfl rfl (by assumption) (by first | exact dc_length _ | exact nc_length _ | exact rc_length _ _ _ | exact ec_length _ | exact dl_length _ _ _ _ | rfl) | exact ResV.cell rfl rfl (by assumption)) ?_
  exact ⟨_, rfl, ho3, hk1.trans_new hk3 (own_new ho1 (Nat.le_refl _))⟩
end Go.Proofs.YtnoipmimddoioaaGreat
namespace Go.Proofs.YtnoipmimddoioaaGreat
open Go.Proofs
set_option linter.unusedVariables false
theorem bs5 (w : World) : (Instr.buildSlice 111 5 #[(0, bv 111), (1, bv 102), (2, bv 102), (3, bv 101), (4, bv 114)]).run Tryz.prog w = .ok (.slice (some ⟨w.heap.size, 0, none⟩) 5 5) { w with heap := w.heap.push (.cells (flt by1 offT).toArray 5) } := by kernel_rfl
abbrev oB (base : Nat) (l : List UInt8) := oP base 5 1 by1 l
attribute [local irreducible] CG NG SG Vals Der Row Blk MapIs IterAt addI xorI orI andI shlI shrI mulI DerR
set_option maxHeartbeats 16000000 in
theorem rkey_spec (d : Dg) (w : World) : RetO Tryz.prog 5 by1 1 64 #[dv d] w (putU (num d)) := by
  refine enter1 Tryz.func64 rfl Tryz.ntmps64 rfl ?_
  have hp := fun w => rput_spec (num d) (num_lt d) w
  repeat (first|apply cA|apply cB|apply cD|apply cE|apply cH|refine cZ rfl rfl rfl rfl (by first|((first|apply qmv|apply qas|apply qlc|apply qla|apply qfa|apply qcv)<;>(first|exact rfl|assumption|exact List.not_mem_nil|apply dc_length|fail))|fail) ?_)
  refine SG.box rfl rfl rfl (by exact rho_of rfl) (fun b1 w1 hk1 hb1 hB1 => ?_)
  have hB1 : Blk w1 b1 (.cells (dc d).toArray 31) := hB1
  have hr := Row.all (l := dc d) hB1 rfl
  repeat (first|apply cA|apply cB|apply cD|apply cE|apply cH|refine cZ rfl rfl rfl rfl (by first|((first|apply qmv|apply qas|apply qlc|apply qla|apply qfa|apply qcv)<;>(first|exact rfl|assumption|exact List.not_mem_nil|apply dc_length|fail))|fail) ?_)
  refine SG.ret rfl rfl rfl (by repeat' (first | exact True.intro | exact rho_of rfl | refine And.intro ?_ ?_)) (rnum_spec d w1) (fun w2 hk2 => ?_)
  refine SG.call rfl rfl rfl (by repeat' (first | exact True.intro | exact rho_of rfl | refine And.intro ?_ ?_)) ((hp w2).mono (fun e w3 hh => ?_))
  obtain ⟨v3, he, ho3, hk3⟩ := hh
  refine ⟨_, he, ?_⟩
  have k2 := hk1.trans hk2
  repeat (first|apply cA|apply cB|apply cD|apply cE|apply cH|refine cZ rfl rfl rfl rfl (by first|((first|apply qmv|apply qas|apply qlc|apply qla|apply qfa|apply qcv)<;>(first|exact rfl|assumption|exact List.not_mem_nil|apply dc_length|fail))|fail) ?_)
  refine ret1 (Or.inl rfl) Tryz.results64 (by first | exact ResV.tmp rfl | exact ResV.agg rfl rfl (by assumption) (by first | exact dc_length _ | exact nc_length _ | exact rc_length _ _ _ | exact ec_length _ | exact dl_length _ _ _ _ | rfl) | exact ResV.cell rfl rfl (by assumption)) ?_
  exact ⟨_, rfl, own_mono ho3 k2.size, k2.trans hk3⟩
set_option maxHeartbeats 16000000 in
theorem rnumb_spec (z : Int) (w : World) : RetO Tryz.prog 5 by1 1 65 #[.int .i64 z] w (putU (un z)) := by
  refine enter1 Tryz.func65 rfl Tryz.ntmps65 rfl ?_
  have hp := fun w => rput_spec (un z) (un_lt z) w
  repeat (first|apply cA|apply cB|apply cD|apply cE|apply cH|refine cZ rfl rfl rfl rfl (by first|((first|apply qmv|apply qas|apply qlc|apply qla|apply qfa|apply qcv)<;>(first|exact rfl|assumption|exact List.not_mem_nil|apply dc_length|fail))|fail) ?_)
  rw [un_eq]
  refine SG.call rfl rfl rfl (by repeat' (first | exact True.intro | exact rho_of rfl | refine And.intro ?_ ?_)) ((hp w).mono (fun e w3 hh => ?_))
  obtain ⟨v3, he, ho3, hk3⟩ := hh
  refine ⟨_, he, ?_⟩
  repeat (first|apply cA|apply cB|apply cD|apply cE|apply cH|refine cZ rfl rfl rfl rfl (by first|((first|apply qmv|apply qas|apply qlc|apply qla|apply qfa|apply qcv)<;>(first|exact rfl|assumption|exact List.not_mem_nil|apply dc_length|fail))|fail) ?_)
  refine ret1 (Or.inl rfl) Tryz.results65 (by first | exact ResV.tmp rfl | exact ResV.agg rfl rfl (by assumption) (by first | exact dc_length _ | exact nc_length _ | exact rc_length _ _ _ | exact ec_length _ | exact dl_length _ _ _ _ | rfl) | exact ResV.cell rfl rfl (by assumption)) ?_
  exact ⟨_, rfl, ho3, hk3⟩
set_option maxHeartbeats 16000000 in
theorem rdigest_spec (o : Ofr) (w : World) : Ret Tryz.prog 46 #[ov o] w (dv (digO o)) := by
  refine enter1 Tryz.func46 rfl Tryz.ntmps46 rfl ?_
  repeat (first|apply cA|apply cB|apply cD|apply cE|apply cH|refine cZ rfl rfl rfl rfl (by first|((first|apply qmv|apply qas|apply qlc|apply qla|apply qfa|apply qcv)<;>(first|exact rfl|assumption|exact List.not_mem_nil|apply dc_length|fail))|fail) ?_)
  refine SG.box rfl rfl rfl (by exact rho_of rfl) (fun b1 w1 hk1 hb1 hB1 => ?_)
  have hB1 : Blk w1 b1 (.cells (ec o).toArray 33) := hB1
  refine SG.alloc rfl rfl rfl (fun b2 w2 hk2 hb2 hB2 => ?_)
  have hB2 : Blk w2 b2 (.cells (dc zd).toArray 31) := hB2
  have s1 := hk1.size
  have l1 := hB1.lt
  have l2 := hB2.lt
  have k2 := hk1.trans hk2
  obtain ⟨r0, r1, r2, r3, r4, r5, r6, -⟩ := ec_rows (hB1.kp0 hk2)
  have q1 := putU_len 5
  have q2 := putU_len (num o.who)
  have q3 := putU_len (num o.rules)
  have q4 : offT.length = 5 := rfl
  have q5 := putU_len (un o.seats)
  have q6 := putU_len (un o.least)
  have q7 := putU_len (un o.most)
  have q8 := putU_len (un o.window)
  have q9 := putU_len (un o.till)
  repeat (first|apply cA|apply cB|apply cD|apply cE|apply cH|refine cZ rfl rfl rfl rfl (by first|((first|apply qmv|apply qas|apply qlc|apply qla|apply qfa|apply qcv)<;>(first|exact rfl|assumption|exact List.not_mem_nil|apply dc_length|fail))|fail) ?_)
  refine CG.rows mixed 9 [3, 4, 7, 8, 0, 1, 2, 5, 6] [⟨0, 0, bP w2.heap.size 5 5 (flt by1 offT).toArray⟩, ⟨1, 0, bP w2.heap.size 5 5 (flt by1 offT).toArray⟩, ⟨2, 1, oB w2.heap.size (putU 5 ++ offT)⟩, ⟨5, 2, oB w2.heap.size (putU (num o.who))⟩, ⟨6, 1, oB w2.heap.size (putU 5 ++ offT ++ putU (num o.who))⟩] (by kernel_rfl) (by kernel_rfl) (by kernel_rfl) (OkL.all (by repeat' (first | exact OkL.nil | refine OkL.cons ?_ ?_ | exact oP_ok | exact bP_ok))) ?_
  repeat (refine DerR.val rfl rfl rfl rfl (by first|((first|apply qmv|apply qas|apply qlc|apply qla|apply qfa|apply qcv)<;>(first|exact rfl|assumption|exact List.not_mem_nil|apply dc_length|fail))|fail) ?_)
  refine DerR.build rfl rfl rfl rfl (by repeat' (first | exact OkL.nil | refine OkL.cons ?_ ?_ | exact oP_ok | exact bP_ok)) rfl (Nat.le_refl _) bs5 (fun v0 => ?_)
  refine DerR.mark rfl rfl (by kernel_rfl) rfl rfl rfl (by repeat' (first | exact OkL.nil | refine OkL.cons ?_ ?_ | exact oP_ok | exact bP_ok)) rfl rfl (.head _) (by kernel_rfl) (fun v1 => ?_)
  refine DerR.callO (putU 5 ++ offT) rfl rfl rfl rfl (by repeat' (first | exact OkL.nil | refine OkL.cons ?_ ?_ | exact oP_ok | exact bP_ok)) (vs := [v1]) (by repeat' (first | exact True.intro | exact rho_of rfl | refine And.intro ?_ ?_)) (Nat.le_refl _) (fun w hk hF => ?_) (fun v2 => ?_)
  · obtain ⟨a, c, rfl, hS⟩ := bP.sl (l := offT) by1_len rfl (hF.get (.head _) (by kernel_rfl) rfl)
    exact rpb_spec (c := c) hS (by omega)
  refine DerR.callO (putU (num o.who)) rfl rfl rfl rfl (by repeat' (first | exact OkL.nil | refine OkL.cons ?_ ?_ | exact oP_ok | exact bP_ok)) (vs := [dv o.who]) (by repeat' (first | exact True.intro | exact rho_of rfl | refine And.intro ?_ ?_)) (Nat.le_refl _) (fun w hk hF => rkey_spec o.who w) (fun v5 => ?_)
  refine DerR.append (src := 2) (putU 5 ++ offT) (putU (num o.who)) [(2, putU 5 ++ offT)] by1_len by1_one rfl rfl (by kernel_rfl) ⟨Nat.le_refl _, trivial⟩ rfl rfl rfl (by repeat' (first | exact OkL.nil | refine OkL.cons ?_ ?_ | exact oP_ok | exact bP_ok)) (by exact rho_of rfl) (by exact rho_of rfl) rfl rfl rfl (by simp only [maxLen, List.length_append]; omega) (by simp only [List.length_append]; show (_ + _) * 1 ≤ _; omega) (Nat.le_refl _) (.tail _ (.head _)) (by kernel_rfl) (fun w hk hF => oP.sl by1_len (hF.get (.head _) (by kernel_rfl) rfl)) (fun v6 => ?_)
  refine DerR.tl (fun w3 V hok hV => ?_)
  have ho6 : w3.ownsRow w2.heap.size 5 1 v6 (putU 5 ++ offT ++ putU (num o.who)).length (flt by1 (putU 5 ++ offT ++ putU (num o.who))) := hok.get hV (.head _) rfl
  have hk3 := hok.kp
  refine SG.call rfl rfl rfl (vs := [dv o.rules]) (by repeat' (first | exact True.intro | exact rho_of rfl | refine And.intro ?_ ?_)) ((rkey_spec o.rules w3).mono (fun e w4 hh => ?_))
  obtain ⟨v7, he, ho7, hk4⟩ := hh
  refine ⟨_, he, ?_⟩
  obtain ⟨a7, c7, rfl, _, hS7⟩ := Sl.own by1_len ho7 rfl
  have k4 := hk3.trans hk4
  refine SG.appO (enc := by1) (xs := putU 5 ++ offT ++ putU (num o.who)) (ys := putU (num o.rules)) (base := w2.heap.size) rfl rfl rfl (by exact rho_of rfl) (by exact rho_of rfl) rfl rfl rfl rfl by1_len by1_one (own_kp0 ho6 hk4) hS7 (by simp only [maxLen, List.length_append]; omega) (by simp only [List.length_append]; show (_ + _) * 1 ≤ _; omega) k4.size (fun v8 w5 hk5 ho8 _ => ?_)
  have k5 : Kp [] w2 w5 := k4.trans_new hk5 (own_new (own_kp0 ho6 hk4) (Nat.le_refl _))
  generalize hX : putU 5 ++ offT ++ putU (num o.who) ++ putU (num o.rules) = X at ho8
  have hXl : X.length ≤ 38 := by rw [← hX]; simp only [List.length_append]; omega
  clear hV hok V ho6 ho7 hS7 hk4 hk5
  have r2 := r2.kp0 k5
  have r3 := r3.kp0 k5
  have r4 := r4.kp0 k5
  have r5 := r5.kp0 k5
  have r6 := r6.kp0 k5
  have hb8 := own_nb ho8
  have nb1 := hb8 b1 (by omega)
  have nb2 := hb8 b2 (by omega)
  have s5 := k5.size
  repeat (first|apply cA|apply cB|apply cD|apply cE|apply cH|refine cZ rfl rfl rfl rfl (by first|((first|apply qmv|apply qas|apply qlc|apply qla|apply qfa|apply qcv)<;>(first|exact rfl|assumption|exact List.not_mem_nil|apply dc_length|fail))|fail) ?_)
  refine CG.rows1 (base := w2.heap.size) (enc := by1) (E := 5) (sz := 1) (v := v8) (l := X) mixed 11 [0, 1, 2, 5, 6, 9, 10, 3, 4, 7, 8] [⟨1000, 0, oB w2.heap.size X⟩, ⟨3, 1, oB w2.heap.size (putU (un o.seats))⟩, ⟨4, 0, oB w2.heap.size (X ++ putU (un o.seats))⟩, ⟨7, 2, oB w2.heap.size (putU (un o.least))⟩, ⟨8, 0, oB w2.heap.size (X ++ putU (un o.seats) ++ putU (un o.least))⟩] rfl ho8 (by kernel_rfl) (by kernel_rfl) (by repeat' (first | exact OkL.nil | refine OkL.cons ?_ ?_ | exact oP_ok | exact bP_ok)) ?_
  repeat (refine DerR.val rfl rfl rfl rfl (by first|((first|apply qmv|apply qas|apply qlc|apply qla|apply qfa|apply qcv)<;>(first|exact rfl|assumption|exact List.not_mem_nil|apply dc_length|fail))|fail) ?_)
  refine DerR.callO (putU (un o.seats)) rfl rfl rfl rfl (by repeat' (first | exact OkL.nil | refine OkL.cons ?_ ?_ | exact oP_ok | exact bP_ok)) (vs := [.int .i64 o.seats]) (by repeat' (first | exact True.intro | exact rho_of rfl | refine And.intro ?_ ?_)) s5 (fun w hk hF => rnumb_spec o.seats w) (fun v3 => ?_)
  refine DerR.append (src := 1000) X (putU (un o.seats)) [(1000, X)] by1_len by1_one rfl rfl (by kernel_rfl) ⟨Nat.le_refl _, trivial⟩ rfl rfl rfl (by repeat' (first | exact OkL.nil | refine OkL.cons ?_ ?_ | exact oP_ok | exact bP_ok)) (by exact rho_of rfl) (by exact rho_of rfl) rfl rfl rfl (by simp only [maxLen]; omega) (by show (_ + _) * 1 ≤ _; omega) s5 (.tail _ (.head _)) (by kernel_rfl) (fun w hk hF => oP.sl by1_len (hF.get (.head _) (by kernel_rfl) rfl)) (fun v4 => ?_)
  refine DerR.callO (putU (un o.least)) rfl rfl rfl rfl (by repeat' (first | exact OkL.nil | refine OkL.cons ?_ ?_ | exact oP_ok | exact bP_ok)) (vs := [.int .i64 o.least]) (by repeat' (first | exact True.intro | exact rho_of rfl | refine And.intro ?_ ?_)) s5 (fun w hk hF => rnumb_spec o.least w) (fun v7 => ?_)
  refine DerR.append (src := 4) (X ++ putU (un o.seats)) (putU (un o.least)) [(1000, X), (4, X ++ putU (un o.seats))] by1_len by1_one rfl rfl (by kernel_rfl) ⟨by simp only [List.length_append]; omega, Nat.le_refl _, trivial⟩ rfl rfl rfl (by repeat' (first | exact OkL.nil | refine OkL.cons ?_ ?_ | exact oP_ok | exact bP_ok)) (by exact rho_of rfl) (by exact rho_of rfl) rfl rfl rfl (by simp only [maxLen, List.length_append]; omega) (by simp only [List.length_append]; show (_ + _) * 1 ≤ _; omega) s5 (.tail _ (.head _)) (by kernel_rfl) (fun w hk hF => oP.sl by1_len (hF.get (.head _) (by kernel_rfl) rfl)) (fun v9 => ?_)
  refine DerR.tl (fun w6 V hok hV => ?_)
  have ho9 : w6.ownsRow w2.heap.size 5 1 v9 (X ++ putU (un o.seats) ++ putU (un o.least)).length (flt by1 (X ++ putU (un o.seats) ++ putU (un o.least))) := hok.get hV (.head _) rfl
  have hk6 := hok.kp
  have k6 : Kp [] w2 w6 := k5.trans_new hk6 (own_new ho8 (Nat.le_refl _))
  have r5 := r5.kp hk6 nb1
  have r6 := r6.kp hk6 nb1
  refine SG.call rfl rfl rfl (vs := [.int .i64 o.most]) (by repeat' (first | exact True.intro | exact rho_of rfl | refine And.intro ?_ ?_)) ((rnumb_spec o.most w6).mono (fun e w7 hh => ?_))
  obtain ⟨v10, he, ho10, hk7⟩ := hh
  refine ⟨_, he, ?_⟩
  obtain ⟨a10, c10, rfl, _, hS10⟩ := Sl.own by1_len ho10 rfl
  have k7 := k6.trans hk7
  refine SG.appO (enc := by1) (xs := X ++ putU (un o.seats) ++ putU (un o.least)) (ys := putU (un o.most)) (base := w2.heap.size) rfl rfl rfl (by exact rho_of rfl) (by exact rho_of rfl) rfl rfl rfl rfl by1_len by1_one (own_kp0 ho9 hk7) hS10 (by simp only [maxLen, List.length_append]; omega) (by simp only [List.length_append]; show (_ + _) * 1 ≤ _; omega) k7.size (fun v11 w8 hk8 ho11 _ => ?_)
  have k8 : Kp [] w2 w8 := k7.trans_new hk8 (own_new (own_kp0 ho9 hk7) (Nat.le_refl _))
  have nb9 := own_nb ho9 b1 (by omega)
  have r5 := (r5.kp0 hk7).kp hk8 nb9
  have r6 := (r6.kp0 hk7).kp hk8 nb9
  generalize hY : X ++ putU (un o.seats) ++ putU (un o.least) ++ putU (un o.most) = Y at ho11
  have hYl : Y.length ≤ 71 := by rw [← hY]; simp only [List.length_append]; omega
  clear hV hok V ho10 hS10 hk8 hk7 ho9 hk6 ho8
  have nb1 := own_nb ho11 b1 (by omega)
  have nb2 := own_nb ho11 b2 (by omega)
  have s8 := k8.size
  repeat (first|apply cA|apply cB|apply cD|apply cE|apply cH|refine cZ rfl rfl rfl rfl (by first|((first|apply qmv|apply qas|apply qlc|apply qla|apply qfa|apply qcv)<;>(first|exact rfl|assumption|exact List.not_mem_nil|apply dc_length|fail))|fail) ?_)
  refine CG.rows1 (base := w2.heap.size) (enc := by1) (E := 5) (sz := 1) (v := v11) (l := Y) mixed 7 [0, 1, 2, 5, 6, 3, 4] [⟨1000, 0, oB w2.heap.size Y⟩, ⟨3, 1, oB w2.heap.size (putU (un o.window))⟩, ⟨4, 0, oB w2.heap.size (Y ++ putU (un o.window))⟩] rfl ho11 (by kernel_rfl) (by kernel_rfl) (by repeat' (first | exact OkL.nil | refine OkL.cons ?_ ?_ | exact oP_ok | exact bP_ok)) ?_
  repeat (refine DerR.val rfl rfl rfl rfl (by first|((first|apply qmv|apply qas|apply qlc|apply qla|apply qfa|apply qcv)<;>(first|exact rfl|assumption|exact List.not_mem_nil|apply dc_length|fail))|fail) ?_)
  refine DerR.callO (putU (un o.window)) rfl rfl rfl rfl (by repeat' (first | exact OkL.nil | refine OkL.cons ?_ ?_ | exact oP_ok | exact bP_ok)) (vs := [.int .i64 o.window]) (by repeat' (first | exact True.intro | exact rho_of rfl | refine And.intro ?_ ?_)) s8 (fun w hk hF => rnumb_spec o.window w) (fun v3 => ?_)
  refine DerR.append (src := 1000) Y (putU (un o.window)) [(1000, Y)] by1_len by1_one rfl rfl (by kernel_rfl) ⟨Nat.le_refl _, trivial⟩ rfl rfl rfl (by repeat' (first | exact OkL.nil | refine OkL.cons ?_ ?_ | exact oP_ok | exact bP_ok)) (by exact rho_of rfl) (by exact rho_of rfl) rfl rfl rfl (by simp only [maxLen]; omega) (by show (_ + _) * 1 ≤ _; omega) s8 (.tail _ (.head _)) (by kernel_rfl) (fun w hk hF => oP.sl by1_len (hF.get (.head _) (by kernel_rfl) rfl)) (fun v4 => ?_)
  refine DerR.tl (fun w9 V hok hV => ?_)
  have ho12 : w9.ownsRow w2.heap.size 5 1 v4 (Y ++ putU (un o.window)).length (flt by1 (Y ++ putU (un o.window))) := hok.get hV (.head _) rfl
  have hk9 := hok.kp
  have k9 : Kp [] w2 w9 := k8.trans_new hk9 (own_new ho11 (Nat.le_refl _))
  refine SG.call rfl rfl rfl (vs := [.int .i64 o.till]) (by repeat' (first | exact True.intro | exact rho_of rfl | refine And.intro ?_ ?_)) ((rnumb_spec o.till w9).mono (fun e w10 hh => ?_))
  obtain ⟨v13, he, ho13, hk10⟩ := hh
  refine ⟨_, he, ?_⟩
  obtain ⟨a13, c13, rfl, _, hS13⟩ := Sl.own by1_len ho13 rfl
  have k10 := k9.trans hk10
  refine SG.appO (enc := by1) (xs := Y ++ putU (un o.window)) (ys := putU (un o.till)) (base := w2.heap.size) rfl rfl rfl (by exact rho_of rfl) (by exact rho_of rfl) rfl rfl rfl rfl by1_len by1_one (own_kp0 ho12 hk10) hS13 (by simp only [maxLen, List.length_append]; omega) (by simp only [List.length_append]; show (_ + _) * 1 ≤ _; omega) k10.size (fun v14 w11 hk11 ho14 _ => ?_)
  have k11 : Kp [] w2 w11 := k10.trans_new hk11 (own_new (own_kp0 ho12 hk10) (Nat.le_refl _))
  have e14 : Y ++ putU (un o.window) ++ putU (un o.till) = digB o := by
    rw [← hY, ← hX]
    simp [digB, putZ, List.append_assoc]
  rw [e14] at ho14
  obtain ⟨a14, c14, rfl, _, hS14⟩ := Sl.own by1_len ho14 rfl
  have hdl : (digB o).length ≤ 100000000 := by
    rw [← e14]
    simp only [List.length_append]
    omega
  refine SG.ret rfl rfl rfl (by repeat' (first | exact True.intro | exact rho_of rfl | refine And.intro ?_ ?_)) (rof_spec (l := digB o) (c := c14) hS14 hdl) (fun w12 hk12 => ?_)
  have k12 := k11.trans hk12
  refine SG.setAll (old := dc zd) (l := dc (digO o)) rfl rfl (by exact rho_of rfl) (by exact rho_of rfl) (hB2.kp0 k12) (dc_length _) (dc_length _) (dc_one _) (fun w13 hk13 hB13 => ?_)
  have hrr : Row w13 b2 0 (dc (digO o)) := Row.all hB13 rfl
  repeat (first|apply cA|apply cB|apply cD|apply cE|apply cH|refine cZ rfl rfl rfl rfl (by first|((first|apply qmv|apply qas|apply qlc|apply qla|apply qfa|apply qcv)<;>(first|exact rfl|assumption|exact List.not_mem_nil|apply dc_length|fail))|fail) ?_)
  refine ret1 (Or.inl rfl) Tryz.results46 (by first | exact ResV.tmp rfl | exact ResV.agg rfl rfl (by assumption) (by first | exact dc_length _ | exact nc_length _ | exact rc_length _ _ _ | exact ec_length _ | exact dl_length _ _ _ _ | rfl) | exact ResV.cell rfl rfl (by assumption)) ?_
  exact ⟨rfl, (k2.trans k12).trans_new hk13 (new1 (by omega))⟩
end Go.Proofs.YtnoipmimddoioaaGreat
namespace Go.Proofs.YtnoipmimddoioaaGreat
open Go.Proofs
set_option linter.unusedVariables false
attribute [local irreducible] CG NG SG Vals Der Row Blk MapIs IterAt addI xorI orI andI shlI shrI mulI DerR
end Go.Proofs.YtnoipmimddoioaaGreat
namespace Go.Proofs.YtnoipmimddoioaaGreat
open Go.Proofs Go.Shelf Go.Sort
set_option linter.unusedVariables false
theorem bdn' (w : World) (a0 a1 a2 a3 a4 a5 a6 a7 : UInt8) (x y : Int) : (Instr.build 48 #[(0, .agg #[bv a0, bv a1, bv a2, bv a3, bv a4, bv a5, bv a6, bv a7]), (2, .int .i64 x), (3, .int .i64 y)]).run Tryz.prog w = .ok (.agg #[bv a0, bv a1, bv a2, bv a3, bv a4, bv a5, bv a6, bv a7, .slice none 0 0, .int .i64 x, .int .i64 y]) w := by kernel_rfl
theorem bdn (r : Dg) (x y : Int) (w : World) : (Instr.build 48 #[(0, dv r), (2, .int .i64 x), (3, .int .i64 y)]).run Tryz.prog w = .ok (dealV r (.slice none 0 0) x y) w := by
  obtain ⟨l, hl⟩ := r
  match l, hl with
  | [a0, a1, a2, a3, a4, a5, a6, a7], _ => exact bdn' w a0 a1 a2 a3 a4 a5 a6 a7 x y
theorem bse8' (w : World) (a0 a1 a2 a3 a4 a5 a6 a7 : UInt8) : (Instr.buildSlice 46 1 #[(0, .agg #[bv a0, bv a1, bv a2, bv a3, bv a4, bv a5, bv a6, bv a7])]).run Tryz.prog w = .ok (.slice (some ⟨w.heap.size, 0, none⟩) 1 1) { w with heap := w.heap.push (.cells #[bv a0, bv a1, bv a2, bv a3, bv a4, bv a5, bv a6, bv a7] 31) } := by kernel_rfl
theorem bse8 (x : Dg) (w : World) : (Instr.buildSlice 46 1 #[(0, dv x)]).run Tryz.prog w = .ok (.slice (some ⟨w.heap.size, 0, none⟩) 1 1) { w with heap := w.heap.push (.cells (dc x).toArray 31) } := by
  obtain ⟨l, hl⟩ := x
  match l, hl with
  | [a0, a1, a2, a3, a4, a5, a6, a7], _ => exact bse8' w a0 a1 a2 a3 a4 a5 a6 a7
attribute [local irreducible] CG NG SG Vals Der Row Blk MapIs IterAt addI xorI orI andI shlI shrI mulI twoI cmpD cmpW kW digO manyI mixD sortK maxs dealOf nameD DerX
set_option maxHeartbeats 16000000 in
theorem deal_spec {w : World} (d : Del) {a : Option Addr} {c : Nat} (hS : Sl dc 8 w a d.who) (hl : d.who.length ≤ 20) : Calls Tryz.prog 14 #[dealV d.rules (.slice a d.who.length c) d.stake d.window] w (fun e w' => ∃ v, e = .returned v ∧ DealAt w w' 31 v d ∧ Kp [] w w') := by
  refine enter1 Tryz.func14 rfl Tryz.ntmps14 rfl ?_
  repeat (first|apply cA|apply cB|apply cD|apply cE|apply cF|apply cG|apply cH|apply cJ|apply cU|refine cV rfl ?_|apply cY|refine cZ rfl rfl rfl rfl (by first|((first|apply qmv|apply qas|apply qlc|apply qla|apply qfa|apply qix|apply qpk|apply qls|apply qad|apply qln)<;>(first|exact rfl|assumption|exact Ar.mk (by omega)|exact dct (by first|assumption|omega)|exact dcf (by first|assumption|omega)|exact List.not_mem_nil|apply dc_length|apply dl_length|fail))|fail) ?_)
  refine SG.box rfl rfl rfl (by exact rho_of rfl) (fun b1 w1 hk1 hb1 hB1 => ?_)
  have hB1 : Blk w1 b1 (.cells (dl d.rules (.slice a d.who.length c) d.stake d.window).toArray 53) := hB1
  refine SG.alloc rfl rfl rfl (fun b2 w2 hk2 hb2 hB2 => ?_)
  have hB2 : Blk w2 b2 (.cells (dl zd (.slice none 0 0) 0 0).toArray 48) := hB2
  have s1 := hk1.size
  have l1 := hB1.lt
  have l2 := hB2.lt
  have k2 := hk1.trans hk2
  have hB1 := hB1.kp0 hk2
  obtain ⟨r0, r1, r2, r3, -⟩ := dl_rows hB1
  repeat (first|apply cA|apply cB|apply cD|apply cE|apply cF|apply cG|apply cH|apply cJ|apply cU|refine cV rfl ?_|apply cY|refine cZ rfl rfl rfl rfl (by first|((first|apply qmv|apply qas|apply qlc|apply qla|apply qfa|apply qix|apply qpk|apply qls|apply qad|apply qln)<;>(first|exact rfl|assumption|exact Ar.mk (by omega)|exact dct (by first|assumption|omega)|exact dcf (by first|assumption|omega)|exact List.not_mem_nil|apply dc_length|apply dl_length|fail))|fail) ?_)
  refine cZ rfl rfl rfl rfl (vals_build rfl (bdn d.rules d.stake d.window)) ?_
  refine SG.alloc rfl rfl rfl (fun b3 w3 hk3 hb3 hB3 => ?_)
  refine SG.setAll (l := dl d.rules (.slice none 0 0) d.stake d.window) rfl rfl (by exact rho_of rfl) (by exact rho_of rfl) hB3 (dl_length _ _ _ _) rfl (dl_one _ _ _ _ _ _) (fun w4 hk4 hB4 => ?_)
  have hB4 : Blk w4 b3 (.cells (dl d.rules (.slice none 0 0) d.stake d.window).toArray 48) := hB4
  have k4 : Kp [] w2 w4 := hk3.trans_new hk4 (new1 (by omega))
  have s2 := hk2.size
  have s4 := k4.size
  have l3 := hB4.lt
  repeat (first|apply cA|apply cB|apply cD|apply cE|apply cF|apply cG|apply cH|apply cJ|apply cU|refine cV rfl ?_|apply cY|refine cZ rfl rfl rfl rfl (by first|((first|apply qmv|apply qas|apply qlc|apply qla|apply qfa|apply qix|apply qpk|apply qls|apply qad|apply qln)<;>(first|exact rfl|assumption|exact Ar.mk (by omega)|exact dct (by first|assumption|omega)|exact dcf (by first|assumption|omega)|exact List.not_mem_nil|apply dc_length|apply dl_length|fail))|fail) ?_)
  refine CG.loop (X := Value × Nat) (fun x => [(1, .pointer (some ⟨b1, 0, none⟩)), (2, .pointer (some ⟨b2, 0, none⟩)), (3, .pointer (some ⟨b3, 0, none⟩)), (4, .int .i64 (x.2 : Int))])
    (fun x w' => x.2 ≤ d.who.length ∧ Kp [] w2 w' ∧ w4.heap.size ≤ w'.heap.size ∧ Blk w' b3 (.cells (dl d.rules x.1 d.stake d.window).toArray 48) ∧ w'.ownsRow w2.heap.size 31 8 x.1 (d.who.take x.2).length (flt dc (d.who.take x.2))) (fun x => d.who.length - x.2) (.slice none 0 0, 0) ⟨by simp only; omega, k4, Nat.le_refl _, hB4, own_nil⟩ (by (repeat' (first | exact True.intro | exact rfl | refine And.intro ?_ ?_))) ?_
  rintro ⟨v, i⟩ w5 ⟨hi, k5, s5, hB5, ho⟩
  simp only at hi hB5 ho
  refine CG.to [(1, .pointer (some ⟨b1, 0, none⟩)), (2, .pointer (some ⟨b2, 0, none⟩)), (3, .pointer (some ⟨b3, 0, none⟩)), (4, .int .i64 (i : Int))] (by (repeat' (first | exact True.intro | exact rfl | refine And.intro ?_ ?_))) ?_
  have hlen : (d.who.take i).length = i := by rw [List.length_take]; omega
  obtain ⟨av, cv, rfl, hcv, hSv⟩ := Sl.own dc_length ho rfl
  obtain ⟨r0, r1, r2, r3, -⟩ := dl_rows (hB1.kp0 k5)
  obtain ⟨p0, p1, p2, p3, p4⟩ := dl_rows hB5
  by_cases hlt : i < d.who.length
  · have g1 : (i : Int) < (d.who.length : Int) := by omega
    have g2 : (i : Int) < 20 := by omega
    obtain ⟨bz, oz, rfl, hrz⟩ := (hS.kp0 (k2.trans k5)).at hlt
    repeat (first | first|apply cA|apply cB|apply cD|apply cE|apply cF|apply cG|apply cH|apply cJ|apply cU|refine cV rfl ?_|apply cY|refine cZ rfl rfl rfl rfl (by first|((first|apply qmv|apply qas|apply qlc|apply qla|apply qfa|apply qix|apply qpk|apply qls|apply qad|apply qln)<;>(first|exact rfl|assumption|exact Ar.mk (by omega)|exact dct (by first|assumption|omega)|exact dcf (by first|assumption|omega)|exact List.not_mem_nil|apply dc_length|apply dl_length|fail))|fail) ?_ | refine dA rfl rfl ?_)
    refine dD rfl (by exact rho_of rfl) rfl ?_
    repeat (first|apply cA|apply cB|apply cD|apply cE|apply cF|apply cG|apply cH|apply cJ|apply cU|refine cV rfl ?_|apply cY|refine cZ rfl rfl rfl rfl (by first|((first|apply qmv|apply qas|apply qlc|apply qla|apply qfa|apply qix|apply qpk|apply qls|apply qad|apply qln)<;>(first|exact rfl|assumption|exact Ar.mk (by omega)|exact dct (by first|assumption|omega)|exact dcf (by first|assumption|omega)|exact List.not_mem_nil|apply dc_length|apply dl_length|fail))|fail) ?_)
    refine CG.free mixed 8 [0, 1, 2, 3, 4, 5, 6, 7] [(7, gS w5.heap.size dc 8 [d.who[i]])] (by kernel_rfl) (by intro p hp y; simp at hp; rcases hp with rfl; exact gS_stab y) ?_
    repeat (refine DerX.val rfl rfl rfl rfl (by first|((first|apply qmv|apply qas|apply qlc|apply qla|apply qfa|apply qix|apply qpk|apply qls|apply qad|apply qln)<;>(first|exact rfl|assumption|exact Ar.mk (by omega)|exact dct (by first|assumption|omega)|exact dcf (by first|assumption|omega)|exact List.not_mem_nil|apply dc_length|apply dl_length|fail))|fail) ?_)
    refine DerX.buildSlice [d.who[i]] dc_length rfl rfl rfl rfl rfl rfl (Nat.le_refl _) (fun w => by rw [flt_one]; exact bse8 d.who[i] w) (fun a9 c9 => ?_)
    refine DerX.tl (fun w6 hk6 hF => ?_)
    have hS9 : SlF w5.heap.size dc 8 w6 a9 c9 [d.who[i]] := hF _ (.head _)
    have ho6 := own_kp0 ho hk6
    refine SG.appO (enc := dc) (xs := d.who.take i) (ys := [d.who[i]]) (base := w2.heap.size) rfl rfl rfl (by exact rho_of rfl) (by exact rho_of rfl) rfl rfl rfl rfl dc_length dc_one ho6 hS9.sl (by rw [hlen]; simp only [maxLen, List.length_cons, List.length_nil]; omega) (by rw [hlen]; show (i + 1) * 8 ≤ _; omega) (k5.trans hk6).size (fun v7 w7 hk7 ho7 _ => ?_)
    rw [← List.take_succ_eq_append_getElem hlt] at ho7
    have hBb := blk_own ho6 (by decide) (hB5.kp0 hk6) hk7
    have k7 : Kp [] w2 w7 := (k5.trans hk6).trans_new hk7 (own_new ho6 (Nat.le_refl _))
    obtain ⟨a7, c7, rfl, _, _⟩ := Sl.own dc_length ho7 rfl
    repeat (first|apply cA|apply cB|apply cD|apply cE|apply cF|apply cG|apply cH|apply cJ|apply cU|refine cV rfl ?_|apply cY|refine cZ rfl rfl rfl rfl (by first|((first|apply qmv|apply qas|apply qlc|apply qla|apply qfa|apply qix|apply qpk|apply qls|apply qad|apply qln)<;>(first|exact rfl|assumption|exact Ar.mk (by omega)|exact dct (by first|assumption|omega)|exact dcf (by first|assumption|omega)|exact List.not_mem_nil|apply dc_length|apply dl_length|fail))|fail) ?_)
    refine SG.store rfl rfl (by exact rho_of rfl) (by exact rho_of rfl) hBb rfl (by show 8 + 1 ≤ _; simp [dl_length]) rfl (fun w8 hk8 hBc => ?_)
    have ho8 := own_kp ho7 hk8 (own_neb ho7 (by decide) hBb)
    have hBc : Blk w8 b3 (.cells (spl (dl d.rules (.slice av (d.who.take i).length cv) d.stake d.window) 8 [.slice a7 (d.who.take (i + 1)).length c7]).toArray 48) := hBc
    rw [dl_set1] at hBc
    have z1 := hk6.size
    have z2 := hk7.size
    have z3 := hk8.size
    have k8 : Kp [] w2 w8 := k7.trans_new hk8 (new1 (by omega))
    repeat (first|apply cA|apply cB|apply cD|apply cE|apply cF|apply cG|apply cH|apply cJ|apply cU|refine cV rfl ?_|apply cY|refine cZ rfl rfl rfl rfl (by first|((first|apply qmv|apply qas|apply qlc|apply qla|apply qfa|apply qix|apply qpk|apply qls|apply qad|apply qln)<;>(first|exact rfl|assumption|exact Ar.mk (by omega)|exact dct (by first|assumption|omega)|exact dcf (by first|assumption|omega)|exact List.not_mem_nil|apply dc_length|apply dl_length|fail))|fail) ?_)
    refine NG.round (.slice a7 (d.who.take (i + 1)).length c7, i + 1) (by (repeat' (first | exact True.intro | exact rfl | refine And.intro ?_ ?_))) ⟨by simp only; omega, k8, by omega, hBc, ho8⟩ (by simp only; omega)
  · have g1 : ¬ (i : Int) < (d.who.length : Int) := by omega
    rw [List.take_of_length_le (by omega)] at ho hB5 hSv p4 ⊢
    repeat (first | first|apply cA|apply cB|apply cD|apply cE|apply cF|apply cG|apply cH|apply cJ|apply cU|refine cV rfl ?_|apply cY|refine cZ rfl rfl rfl rfl (by first|((first|apply qmv|apply qas|apply qlc|apply qla|apply qfa|apply qix|apply qpk|apply qls|apply qad|apply qln)<;>(first|exact rfl|assumption|exact Ar.mk (by omega)|exact dct (by first|assumption|omega)|exact dcf (by first|assumption|omega)|exact List.not_mem_nil|apply dc_length|apply dl_length|fail))|fail) ?_ | refine dA rfl rfl ?_)
    refine dE rfl (by exact rho_of rfl) rfl ?_
    repeat (first|apply cA|apply cB|apply cD|apply cE|apply cF|apply cG|apply cH|apply cJ|apply cU|refine cV rfl ?_|apply cY|refine cZ rfl rfl rfl rfl (by first|((first|apply qmv|apply qas|apply qlc|apply qla|apply qfa|apply qix|apply qpk|apply qls|apply qad|apply qln)<;>(first|exact rfl|assumption|exact Ar.mk (by omega)|exact dct (by first|assumption|omega)|exact dcf (by first|assumption|omega)|exact List.not_mem_nil|apply dc_length|apply dl_length|fail))|fail) ?_)
    refine SG.setAll (l := dl d.rules (.slice av d.who.length cv) d.stake d.window) rfl rfl (by exact rho_of rfl) (by exact rho_of rfl) (hB2.kp0 k5) (dl_length _ _ _ _) rfl (dl_one _ _ _ _ _ _) (fun w6 hk6 hB6 => ?_)
    have hr : Row w6 b2 0 (dl d.rules (.slice av d.who.length cv) d.stake d.window) := Row.all hB6 rfl
    repeat (first|apply cA|apply cB|apply cD|apply cE|apply cF|apply cG|apply cH|apply cJ|apply cU|refine cV rfl ?_|apply cY|refine cZ rfl rfl rfl rfl (by first|((first|apply qmv|apply qas|apply qlc|apply qla|apply qfa|apply qix|apply qpk|apply qls|apply qad|apply qln)<;>(first|exact rfl|assumption|exact Ar.mk (by omega)|exact dct (by first|assumption|omega)|exact dcf (by first|assumption|omega)|exact List.not_mem_nil|apply dc_length|apply dl_length|fail))|fail) ?_)
    refine ret1 (Or.inl rfl) Tryz.results14 (ResV.agg rfl rfl hr (dl_length _ _ _ _)) ?_
    exact ⟨_, rfl, ⟨_, rfl, own_mono (own_kp ho hk6 (own_neb ho (by decide) (hB2.kp0 k5))) k2.size⟩, (k2.trans k5).trans_new hk6 (new1 (by omega))⟩
end Go.Proofs.YtnoipmimddoioaaGreat
namespace Go.Proofs.YtnoipmimddoioaaGreat
open Go.Proofs Go.Shelf Go.Sort
set_option linter.unusedVariables false
theorem insK_at {α : Type} (key : α → Nat) (x : α) : ∀ (l : List α) (j : Nat), j ≤ l.length → (∀ i (h : i < l.length), i < j → key l[i] ≤ key x) → (∀ h : j < l.length, ¬ key l[j] ≤ key x) → insK key x l = l.take j ++ [x] ++ l.drop j
  | [], j, hj, _, _ => by
    have : j = 0 := by simpa using hj
    subst this
    rfl
  | y :: r, 0, _, _, h2 => by
    have h := h2 (by simp)
    simp only [List.getElem_cons_zero] at h
    unfold insK
    rw [if_neg h]
    rfl
  | y :: r, j + 1, hj, h1, h2 => by
    have h := h1 0 (by simp) (by omega)
    simp only [List.getElem_cons_zero] at h
    unfold insK
    rw [if_pos h, insK_at key x r j (by simpa using hj) (fun i hi hij => by
      have := h1 (i + 1) (by simp; omega) (by omega)
      simpa using this) (fun hjr => by
      have := h2 (by simp; omega)
      simpa using this)]
    rfl
theorem sortK_snoc {α : Type} (key : α → Nat) (l : List α) (i : Nat) (h : i < l.length) : sortK key (l.take (i + 1)) = insK key l[i] (sortK key (l.take i)) := by
  unfold sortK
  rw [List.take_succ_eq_append_getElem h, List.foldl_append]
  rfl
/-- A row's end. -/
theorem own_form {w : World} {base n sz : Nat} {T : TypeId} {a : Option Addr} {m c : Nat} {xs : List Value} (ho : w.ownsRow base T sz (.slice a m c) n xs) : a = none ∨ ∃ b off, a = some ⟨b, off, none⟩ := by
  rcases ho.2 with ⟨h, _⟩ | ⟨g, cap, cur, h, _⟩
  · cases h
    exact Or.inl rfl
  · cases h
    exact Or.inr ⟨_, _, rfl⟩
theorem sl_drop {α : Type} {enc : α → List Value} {sz : Nat} {w : World} {b off c j : Nat} {l : List α} (hS : Sl enc sz w (some ⟨b, off, none⟩) l) (hc : l.length ≤ c) : Sl enc sz w (some ⟨b, if c = j then off else off + j * sz, none⟩) (l.drop j) := fun i x hx => by
  rw [List.getElem?_drop] at hx
  have hlt := (List.getElem?_eq_some_iff.1 hx).1
  obtain ⟨b', off', h, hr⟩ := hS _ x hx
  cases h
  rw [if_neg (by omega)]
  refine ⟨_, _, rfl, ?_⟩
  rw [Nat.add_mul, ← Nat.add_assoc] at hr
  exact hr
theorem vals_drop {α : Type} {enc : α → List Value} {P : Program} {sz : Nat} {E : TypeId} [f : Sz P E sz] {w : World} {a : Option Addr} {c j : Nat} {l : List α} (hS : Sl enc sz w a l) (hc : l.length ≤ c) (hf : a = none ∨ ∃ b off, a = some ⟨b, off, none⟩) (hj : j ≤ l.length) :
    ∃ a', Sl enc sz w a' (l.drop j) ∧ ∀ {T : TypeId} [u : Ut P T (.slice E)] {S : List Nat} {w0 : World} {F : World → Prop} {L : Env} {d : Option Nat} {ty : TypeId} {pos : String} {af : Array Edge} {g : Option (Nat × Bool)} {x lo : Operand} {k : IntKind}, ro L x = some (.slice a l.length c) → ro L lo = some (.int k (j : Int)) →
      Vals P S w0 F L ⟨d, .slice T x (some lo) none none, ty, pos, af, g⟩ (.slice a' (l.drop j).length (c - j)) := by
  rcases hf with rfl | ⟨b, off, rfl⟩
  · refine ⟨none, fun i x hx => ?_, fun hx hlo => ?_⟩
    · rw [List.getElem?_drop] at hx
      obtain ⟨b, off, h, _⟩ := hS _ x hx
      cases h
    · rw [List.length_drop]
      exact vals_fromN hx hlo hj
  · refine ⟨some ⟨b, if c = j then off else off + j * sz, none⟩, sl_drop hS hc, fun hx hlo => ?_⟩
    · rw [List.length_drop]
      exact qfr hx hlo rfl ⟨hj⟩
theorem sortK_nil {α : Type} (key : α → Nat) : sortK key ([] : List α) = [] := rfl
theorem bse0 (w : World) : (Instr.buildSlice 46 0 #[]).run Tryz.prog w = .ok (.slice (some ⟨w.heap.size, 0, none⟩) 0 0) { w with heap := w.heap.push (.cells #[] 31) } := by kernel_rfl
abbrev oD (base : Nat) (l : List Dg) := oP base 31 8 dc l
attribute [local irreducible] CG NG SG Vals Der Row Blk MapIs IterAt addI xorI orI andI shlI shrI mulI twoI cmpD cmpW kW digO manyI mixD sortK maxs dealOf nameD DerX DerR insK
set_option maxHeartbeats 16000000 in
theorem sorted_spec {w : World} {l : List Dg} {a : Option Addr} {c : Nat} (hS : Sl dc 8 w a l) (hl : l.length ≤ 100000) : RetO Tryz.prog 31 dc 8 48 #[.slice a l.length c] w (sortK num l) := by
  refine enter1 Tryz.func48 rfl Tryz.ntmps48 rfl ?_
  have e0 : sortK num ([] : List Dg) = [] := sortK_nil num
  repeat (first|apply cA|apply cB|apply cD|apply cE|apply cF|apply cG|apply cH|apply cJ|apply cU|refine cV rfl ?_|apply cY|refine cZ rfl rfl rfl rfl (by first|((first|apply qmv|apply qas|apply qla|apply qix|apply qpk|apply qls|apply qad|apply qln|apply qle|apply qfr|apply qto)<;>(first|exact rfl|assumption|exact Ar.mk (by omega)|exact dct (by first|assumption|omega)|exact dcf (by first|assumption|omega)|exact List.not_mem_nil|apply dc_length|fail))|fail) ?_)
  refine CG.loop (X := Value × Nat) (fun x => [(0, .slice a l.length c), (3, x.1), (4, .int .i64 (x.2 : Int))]) (fun x w' => x.2 ≤ l.length ∧ Kp [] w w' ∧ w'.ownsRow w.heap.size 31 8 x.1 (sortK num (l.take x.2)).length (flt dc (sortK num (l.take x.2)))) (fun x => l.length - x.2) (.slice none 0 0, 0) ⟨by simp only; omega, Kp.refl _ _, by simp only [List.take_zero, e0]; exact own_nil⟩ (by (repeat' (first | exact True.intro | exact rfl | refine And.intro ?_ ?_))) ?_
  rintro ⟨v, i⟩ w1 ⟨hi, hk1, ho⟩
  simp only at hi ho
  refine CG.to [(0, .slice a l.length c), (3, v), (4, .int .i64 (i : Int))] (by (repeat' (first | exact True.intro | exact rfl | refine And.intro ?_ ?_))) ?_
  clear e0
  by_cases hlt : i < l.length
  · have g1 : (i : Int) < (l.length : Int) := by omega
    have hsn := sortK_snoc num l i hlt
    have hO : (sortK num (l.take i)).length = i := by rw [(sortK_perm num _).length_eq, List.length_take]; omega
    generalize sortK num (l.take i) = O at ho hsn hO
    obtain ⟨bz, oz, rfl, hrz⟩ := (hS.kp0 hk1).at hlt
    obtain ⟨av, cv, rfl, hcv, hSv⟩ := Sl.own dc_length ho rfl
    generalize hx : l[i] = x at hrz hsn
    repeat (first|apply cA|apply cB|apply cD|apply cE|apply cF|apply cG|apply cH|apply cJ|apply cU|refine cV rfl ?_|apply cY|refine cZ rfl rfl rfl rfl (by first|((first|apply qmv|apply qas|apply qla|apply qix|apply qpk|apply qls|apply qad|apply qln|apply qle|apply qfr|apply qto)<;>(first|exact rfl|assumption|exact Ar.mk (by omega)|exact dct (by first|assumption|omega)|exact dcf (by first|assumption|omega)|exact List.not_mem_nil|apply dc_length|fail))|fail) ?_)
    refine dD rfl (by exact rho_of rfl) rfl ?_
    repeat (first|apply cA|apply cB|apply cD|apply cE|apply cF|apply cG|apply cH|apply cJ|apply cU|refine cV rfl ?_|apply cY|refine cZ rfl rfl rfl rfl (by first|((first|apply qmv|apply qas|apply qla|apply qix|apply qpk|apply qls|apply qad|apply qln|apply qle|apply qfr|apply qto)<;>(first|exact rfl|assumption|exact Ar.mk (by omega)|exact dct (by first|assumption|omega)|exact dcf (by first|assumption|omega)|exact List.not_mem_nil|apply dc_length|fail))|fail) ?_)
    refine CG.loop (X := Nat) (fun j => [(0, .slice (some ⟨bz, oz, none⟩) l.length c), (3, .slice av O.length cv), (4, .int .i64 (i : Int)), (5, .int .i64 (j : Int))]) (fun j w' => j ≤ O.length ∧ Kp [] w1 w' ∧ ∀ k (h : k < O.length), k < j → num O[k] ≤ num x) (fun j => O.length - j) 0 ⟨by omega, Kp.refl _ _, fun _ _ h => absurd h (Nat.not_lt_zero _)⟩ (by (repeat' (first | exact True.intro | exact rfl | refine And.intro ?_ ?_))) ?_
    rintro j w2 ⟨hj, hk2, hle⟩
    have hrz2 := hrz.kp0 hk2
    have hcase : (∃ h : j < O.length, num O[j] ≤ num x) ∨ (∃ h : j < O.length, ¬ num O[j] ≤ num x) ∨ ¬ j < O.length := by
      by_cases h : j < O.length
      · by_cases h2 : num O[j] ≤ num x
        · exact Or.inl ⟨h, h2⟩
        · exact Or.inr (Or.inl ⟨h, h2⟩)
      · exact Or.inr (Or.inr h)
    have fin : (∀ h : j < O.length, ¬ num O[j] ≤ num x) → insK num x O = O.take j ++ [x] ++ O.drop j := fun h => insK_at num x O j hj hle h
    rcases hcase with ⟨h, h2⟩ | hcase
    · have g2 : (j : Int) < (O.length : Int) := by omega
      have g3 : (num O[j] : Int) ≤ (num x : Int) := by omega
      obtain ⟨bo, oo, rfl, hro⟩ := (hSv.kp0 hk2).at h
      repeat (first|apply cA|apply cB|apply cD|apply cE|apply cF|apply cG|apply cH|apply cJ|apply cU|refine cV rfl ?_|apply cY|refine cZ rfl rfl rfl rfl (by first|((first|apply qmv|apply qas|apply qla|apply qix|apply qpk|apply qls|apply qad|apply qln|apply qle|apply qfr|apply qto)<;>(first|exact rfl|assumption|exact Ar.mk (by omega)|exact dct (by first|assumption|omega)|exact dcf (by first|assumption|omega)|exact List.not_mem_nil|apply dc_length|fail))|fail) ?_)
      refine CG.draw0 mixed [0, 1, 2, 3, 4, 5, 6, 7, 8, 9, 10, 11, 12, 13, 14, 15, 16] [] (by kernel_rfl) ?_
      repeat (first | refine dB rfl rfl rfl (by first|((first|apply qmv|apply qas|apply qla|apply qix|apply qpk|apply qls|apply qad|apply qln|apply qle|apply qfr|apply qto)<;>(first|exact rfl|assumption|exact Ar.mk (by omega)|exact dct (by first|assumption|omega)|exact dcf (by first|assumption|omega)|exact List.not_mem_nil|apply dc_length|fail))|fail) ?_ | refine Der.skip rfl rfl ?_)
      refine Der.call (vs := [dv O[j]]) rfl rfl rfl (by repeat' (first | exact True.intro | exact rho_of rfl | refine And.intro ?_ ?_)) (fun w _ _ => rnum_spec O[j] w) ?_
      repeat (first | refine dB rfl rfl rfl (by first|((first|apply qmv|apply qas|apply qla|apply qix|apply qpk|apply qls|apply qad|apply qln|apply qle|apply qfr|apply qto)<;>(first|exact rfl|assumption|exact Ar.mk (by omega)|exact dct (by first|assumption|omega)|exact dcf (by first|assumption|omega)|exact List.not_mem_nil|apply dc_length|fail))|fail) ?_ | refine Der.skip rfl rfl ?_)
      refine Der.call (vs := [dv x]) rfl rfl rfl (by repeat' (first | exact True.intro | exact rho_of rfl | refine And.intro ?_ ?_)) (fun w _ _ => rnum_spec x w) ?_
      repeat (first | refine dB rfl rfl rfl (by first|((first|apply qmv|apply qas|apply qla|apply qix|apply qpk|apply qls|apply qad|apply qln|apply qle|apply qfr|apply qto)<;>(first|exact rfl|assumption|exact Ar.mk (by omega)|exact dct (by first|assumption|omega)|exact dcf (by first|assumption|omega)|exact List.not_mem_nil|apply dc_length|fail))|fail) ?_ | refine Der.skip rfl rfl ?_)
      refine Der.fin (fun w3 hk3 _ _ => ?_)
      repeat (first|apply cA|apply cB|apply cD|apply cE|apply cF|apply cG|apply cH|apply cJ|apply cU|refine cV rfl ?_|apply cY|refine cZ rfl rfl rfl rfl (by first|((first|apply qmv|apply qas|apply qla|apply qix|apply qpk|apply qls|apply qad|apply qln|apply qle|apply qfr|apply qto)<;>(first|exact rfl|assumption|exact Ar.mk (by omega)|exact dct (by first|assumption|omega)|exact dcf (by first|assumption|omega)|exact List.not_mem_nil|apply dc_length|fail))|fail) ?_)
      refine dD rfl (by exact rho_of rfl) rfl ?_
      repeat (first|apply cA|apply cB|apply cD|apply cE|apply cF|apply cG|apply cH|apply cJ|apply cU|refine cV rfl ?_|apply cY|refine cZ rfl rfl rfl rfl (by first|((first|apply qmv|apply qas|apply qla|apply qix|apply qpk|apply qls|apply qad|apply qln|apply qle|apply qfr|apply qto)<;>(first|exact rfl|assumption|exact Ar.mk (by omega)|exact dct (by first|assumption|omega)|exact dcf (by first|assumption|omega)|exact List.not_mem_nil|apply dc_length|fail))|fail) ?_)
      refine NG.round (j + 1) (by (repeat' (first | exact True.intro | exact rfl | refine And.intro ?_ ?_))) ⟨by omega, hk2.trans hk3, fun k hk hkj => ?_⟩ (by omega)
      by_cases e : k = j
      · subst e; exact h2
      · exact hle k hk (by omega)
    · have hins : insK num x O = O.take j ++ [x] ++ O.drop j := fin (fun h => by
        rcases hcase with ⟨_, h2⟩ | h2
        · exact h2
        · exact absurd h h2)
      have hjl : (O.take j).length = j := by rw [List.length_take]; omega
      have hdl : (O.drop j).length = O.length - j := List.length_drop
      have hfo := own_form ho
      rcases hcase with ⟨h, h2⟩ | h
      · have g2 : (j : Int) < (O.length : Int) := by omega
        have g3 : ¬ (num O[j] : Int) ≤ (num x : Int) := by omega
        obtain ⟨bo, oo, rfl, hro⟩ := (hSv.kp0 hk2).at h
        repeat (first|apply cA|apply cB|apply cD|apply cE|apply cF|apply cG|apply cH|apply cJ|apply cU|refine cV rfl ?_|apply cY|refine cZ rfl rfl rfl rfl (by first|((first|apply qmv|apply qas|apply qla|apply qix|apply qpk|apply qls|apply qad|apply qln|apply qle|apply qfr|apply qto)<;>(first|exact rfl|assumption|exact Ar.mk (by omega)|exact dct (by first|assumption|omega)|exact dcf (by first|assumption|omega)|exact List.not_mem_nil|apply dc_length|fail))|fail) ?_)
        refine CG.draw0 mixed [0, 1, 2, 3, 4, 5, 6, 7, 8, 9, 10, 11, 12, 13, 14, 15, 16] [] (by kernel_rfl) ?_
        repeat (first | refine dB rfl rfl rfl (by first|((first|apply qmv|apply qas|apply qla|apply qix|apply qpk|apply qls|apply qad|apply qln|apply qle|apply qfr|apply qto)<;>(first|exact rfl|assumption|exact Ar.mk (by omega)|exact dct (by first|assumption|omega)|exact dcf (by first|assumption|omega)|exact List.not_mem_nil|apply dc_length|fail))|fail) ?_ | refine Der.skip rfl rfl ?_)
        refine Der.call (vs := [dv O[j]]) rfl rfl rfl (by repeat' (first | exact True.intro | exact rho_of rfl | refine And.intro ?_ ?_)) (fun w _ _ => rnum_spec O[j] w) ?_
        repeat (first | refine dB rfl rfl rfl (by first|((first|apply qmv|apply qas|apply qla|apply qix|apply qpk|apply qls|apply qad|apply qln|apply qle|apply qfr|apply qto)<;>(first|exact rfl|assumption|exact Ar.mk (by omega)|exact dct (by first|assumption|omega)|exact dcf (by first|assumption|omega)|exact List.not_mem_nil|apply dc_length|fail))|fail) ?_ | refine Der.skip rfl rfl ?_)
        refine Der.call (vs := [dv x]) rfl rfl rfl (by repeat' (first | exact True.intro | exact rho_of rfl | refine And.intro ?_ ?_)) (fun w _ _ => rnum_spec x w) ?_
        repeat (first | refine dB rfl rfl rfl (by first|((first|apply qmv|apply qas|apply qla|apply qix|apply qpk|apply qls|apply qad|apply qln|apply qle|apply qfr|apply qto)<;>(first|exact rfl|assumption|exact Ar.mk (by omega)|exact dct (by first|assumption|omega)|exact dcf (by first|assumption|omega)|exact List.not_mem_nil|apply dc_length|fail))|fail) ?_ | refine Der.skip rfl rfl ?_)
        refine Der.fin (fun w3 hk3 _ _ => ?_)
        repeat (first|apply cA|apply cB|apply cD|apply cE|apply cF|apply cG|apply cH|apply cJ|apply cU|refine cV rfl ?_|apply cY|refine cZ rfl rfl rfl rfl (by first|((first|apply qmv|apply qas|apply qla|apply qix|apply qpk|apply qls|apply qad|apply qln|apply qle|apply qfr|apply qto)<;>(first|exact rfl|assumption|exact Ar.mk (by omega)|exact dct (by first|assumption|omega)|exact dcf (by first|assumption|omega)|exact List.not_mem_nil|apply dc_length|fail))|fail) ?_)
        refine dE rfl (by exact rho_of rfl) rfl ?_
        repeat (first|apply cA|apply cB|apply cD|apply cE|apply cF|apply cG|apply cH|apply cJ|apply cU|refine cV rfl ?_|apply cY|refine cZ rfl rfl rfl rfl (by first|((first|apply qmv|apply qas|apply qla|apply qix|apply qpk|apply qls|apply qad|apply qln|apply qle|apply qfr|apply qto)<;>(first|exact rfl|assumption|exact Ar.mk (by omega)|exact dct (by first|assumption|omega)|exact dcf (by first|assumption|omega)|exact List.not_mem_nil|apply dc_length|fail))|fail) ?_)
        have hk3 := hk2.trans hk3
        have hrz3 := hrz.kp0 hk3
        have hSv3 := hSv.kp0 hk3
        have ho3 := own_kp0 ho hk3
        refine CG.rows mixed 10 [1, 2, 3, 5, 6, 7, 8, 0, 4, 9] [⟨0, 0, oD w3.heap.size []⟩, ⟨4, 0, oD w3.heap.size ([] ++ O.take j)⟩, ⟨9, 1, oD w3.heap.size [x]⟩] (by kernel_rfl) (by kernel_rfl) (by kernel_rfl) (OkL.all (by repeat' (first | exact OkL.nil | refine OkL.cons ?_ ?_ | exact oP_ok | exact bP_ok))) ?_
        repeat (refine DerR.val rfl rfl rfl rfl (by first|((first|apply qmv|apply qas|apply qla|apply qix|apply qpk|apply qls|apply qad|apply qln|apply qle|apply qfr|apply qto)<;>(first|exact rfl|assumption|exact Ar.mk (by omega)|exact dct (by first|assumption|omega)|exact dcf (by first|assumption|omega)|exact List.not_mem_nil|apply dc_length|fail))|fail) ?_)
        refine DerR.buildO [] dc_length rfl rfl rfl rfl rfl (by repeat' (first | exact OkL.nil | refine OkL.cons ?_ ?_ | exact oP_ok | exact bP_ok)) rfl (Nat.le_refl _) (by simp) bse0 (fun v0 => ?_)
        refine DerR.append (src := 0) [] (O.take j) [(0, [])] dc_length dc_one rfl rfl (by kernel_rfl) ⟨Nat.le_refl _, trivial⟩ rfl rfl rfl (by repeat' (first | exact OkL.nil | refine OkL.cons ?_ ?_ | exact oP_ok | exact bP_ok)) (by exact rho_of rfl) (by exact rho_of rfl) rfl rfl rfl (by simp only [maxLen, List.length_nil]; omega) (by rw [hjl]; show (0 + j) * 8 ≤ _; omega) (Nat.le_refl _) (.head _) (by kernel_rfl) (fun w hk hF => ⟨_, _, by rw [hjl], (hSv3.kp0 hk).take j⟩) (fun v4 => ?_)
        refine DerR.buildO [x] dc_length rfl rfl rfl rfl rfl (by repeat' (first | exact OkL.nil | refine OkL.cons ?_ ?_ | exact oP_ok | exact bP_ok)) rfl (Nat.le_refl _) (by simp [maxLen]) (fun w => by rw [flt_one]; exact bse8 x w) (fun v9 => ?_)
        refine DerR.tl (fun w4 V hok hV => ?_)
        have ho4 : w4.ownsRow w3.heap.size 31 8 v4 (O.take j).length (flt dc (O.take j)) := hok.get hV (.tail _ (.head _)) rfl
        have ho9 : w4.ownsRow w3.heap.size 31 8 v9 ([x] : List Dg).length (flt dc [x]) := hok.get hV (.head _) rfl
        have hk4 := hok.kp
        obtain ⟨a9, c9, rfl, _, hS9⟩ := Sl.own dc_length ho9 rfl
        refine SG.appO (enc := dc) (xs := O.take j) (ys := [x]) (base := w3.heap.size) rfl rfl rfl (by exact rho_of rfl) (by exact rho_of rfl) rfl rfl rfl rfl dc_length dc_one ho4 hS9 (by rw [hjl]; simp only [maxLen, List.length_cons, List.length_nil]; omega) (by rw [hjl]; show (j + 1) * 8 ≤ _; omega) hk4.size (fun v10 w5 hk5 ho10 _ => ?_)
        have k5 : Kp [] w3 w5 := hk4.trans_new hk5 (own_new ho4 (Nat.le_refl _))
        have hSd := sl_drop (j := j) (hSv3.kp0 k5) hcv
        repeat (first|apply cA|apply cB|apply cD|apply cE|apply cF|apply cG|apply cH|apply cJ|apply cU|refine cV rfl ?_|apply cY|refine cZ rfl rfl rfl rfl (by first|((first|apply qmv|apply qas|apply qla|apply qix|apply qpk|apply qls|apply qad|apply qln|apply qle|apply qfr|apply qto)<;>(first|exact rfl|assumption|exact Ar.mk (by omega)|exact dct (by first|assumption|omega)|exact dcf (by first|assumption|omega)|exact List.not_mem_nil|apply dc_length|fail))|fail) ?_)
        refine SG.appO (enc := dc) (xs := O.take j ++ [x]) (ys := O.drop j) (base := w3.heap.size) rfl rfl rfl (by exact rho_of rfl) (by exact rho_of rfl) hdl.symm rfl rfl rfl dc_length dc_one ho10 hSd (by rw [hdl, List.length_append, hjl]; simp only [maxLen, List.length_cons, List.length_nil]; omega) (by rw [hdl, List.length_append, hjl]; show (j + 1 + _) * 8 ≤ _; omega) k5.size (fun v12 w6 hk6 ho12 _ => ?_)
        have k6 : Kp [] w3 w6 := k5.trans_new hk6 (own_new ho10 (Nat.le_refl _))
        rw [← hins, ← hsn] at ho12
        have k13 := hk1.trans hk3
        repeat (first|apply cA|apply cB|apply cD|apply cE|apply cF|apply cG|apply cH|apply cJ|apply cU|refine cV rfl ?_|apply cY|refine cZ rfl rfl rfl rfl (by first|((first|apply qmv|apply qas|apply qla|apply qix|apply qpk|apply qls|apply qad|apply qln|apply qle|apply qfr|apply qto)<;>(first|exact rfl|assumption|exact Ar.mk (by omega)|exact dct (by first|assumption|omega)|exact dcf (by first|assumption|omega)|exact List.not_mem_nil|apply dc_length|fail))|fail) ?_)
        refine NG.round (v12, i + 1) (by (repeat' (first | exact True.intro | exact rfl | refine And.intro ?_ ?_))) ⟨by simp only; omega, k13.trans k6, own_mono ho12 k13.size⟩ (by simp only; omega)
      · have g2 : ¬ (j : Int) < (O.length : Int) := by omega
        repeat (first|apply cA|apply cB|apply cD|apply cE|apply cF|apply cG|apply cH|apply cJ|apply cU|refine cV rfl ?_|apply cY|refine cZ rfl rfl rfl rfl (by first|((first|apply qmv|apply qas|apply qla|apply qix|apply qpk|apply qls|apply qad|apply qln|apply qle|apply qfr|apply qto)<;>(first|exact rfl|assumption|exact Ar.mk (by omega)|exact dct (by first|assumption|omega)|exact dcf (by first|assumption|omega)|exact List.not_mem_nil|apply dc_length|fail))|fail) ?_)
        refine CG.draw0 mixed [0, 1, 2, 3, 4, 5, 6, 7, 8, 9, 10, 11, 12, 13, 14, 15, 16] [] (by kernel_rfl) ?_
        repeat (first | refine dB rfl rfl rfl (by first|((first|apply qmv|apply qas|apply qla|apply qix|apply qpk|apply qls|apply qad|apply qln|apply qle|apply qfr|apply qto)<;>(first|exact rfl|assumption|exact Ar.mk (by omega)|exact dct (by first|assumption|omega)|exact dcf (by first|assumption|omega)|exact List.not_mem_nil|apply dc_length|fail))|fail) ?_ | refine Der.skip rfl rfl ?_)
        refine Der.fin (fun w3 hk3 _ _ => ?_)
        repeat (first|apply cA|apply cB|apply cD|apply cE|apply cF|apply cG|apply cH|apply cJ|apply cU|refine cV rfl ?_|apply cY|refine cZ rfl rfl rfl rfl (by first|((first|apply qmv|apply qas|apply qla|apply qix|apply qpk|apply qls|apply qad|apply qln|apply qle|apply qfr|apply qto)<;>(first|exact rfl|assumption|exact Ar.mk (by omega)|exact dct (by first|assumption|omega)|exact dcf (by first|assumption|omega)|exact List.not_mem_nil|apply dc_length|fail))|fail) ?_)
        refine dE rfl (by exact rho_of rfl) rfl ?_
        repeat (first|apply cA|apply cB|apply cD|apply cE|apply cF|apply cG|apply cH|apply cJ|apply cU|refine cV rfl ?_|apply cY|refine cZ rfl rfl rfl rfl (by first|((first|apply qmv|apply qas|apply qla|apply qix|apply qpk|apply qls|apply qad|apply qln|apply qle|apply qfr|apply qto)<;>(first|exact rfl|assumption|exact Ar.mk (by omega)|exact dct (by first|assumption|omega)|exact dcf (by first|assumption|omega)|exact List.not_mem_nil|apply dc_length|fail))|fail) ?_)
        have hk3 := hk2.trans hk3
        have hrz3 := hrz.kp0 hk3
        have hSv3 := hSv.kp0 hk3
        have ho3 := own_kp0 ho hk3
        refine CG.rows mixed 10 [1, 2, 3, 5, 6, 7, 8, 0, 4, 9] [⟨0, 0, oD w3.heap.size []⟩, ⟨4, 0, oD w3.heap.size ([] ++ O.take j)⟩, ⟨9, 1, oD w3.heap.size [x]⟩] (by kernel_rfl) (by kernel_rfl) (by kernel_rfl) (OkL.all (by repeat' (first | exact OkL.nil | refine OkL.cons ?_ ?_ | exact oP_ok | exact bP_ok))) ?_
        repeat (refine DerR.val rfl rfl rfl rfl (by first|((first|apply qmv|apply qas|apply qla|apply qix|apply qpk|apply qls|apply qad|apply qln|apply qle|apply qfr|apply qto)<;>(first|exact rfl|assumption|exact Ar.mk (by omega)|exact dct (by first|assumption|omega)|exact dcf (by first|assumption|omega)|exact List.not_mem_nil|apply dc_length|fail))|fail) ?_)
        refine DerR.buildO [] dc_length rfl rfl rfl rfl rfl (by repeat' (first | exact OkL.nil | refine OkL.cons ?_ ?_ | exact oP_ok | exact bP_ok)) rfl (Nat.le_refl _) (by simp) bse0 (fun v0 => ?_)
        refine DerR.append (src := 0) [] (O.take j) [(0, [])] dc_length dc_one rfl rfl (by kernel_rfl) ⟨Nat.le_refl _, trivial⟩ rfl rfl rfl (by repeat' (first | exact OkL.nil | refine OkL.cons ?_ ?_ | exact oP_ok | exact bP_ok)) (by exact rho_of rfl) (by exact rho_of rfl) rfl rfl rfl (by simp only [maxLen, List.length_nil]; omega) (by rw [hjl]; show (0 + j) * 8 ≤ _; omega) (Nat.le_refl _) (.head _) (by kernel_rfl) (fun w hk hF => ⟨_, _, by rw [hjl], (hSv3.kp0 hk).take j⟩) (fun v4 => ?_)
        refine DerR.buildO [x] dc_length rfl rfl rfl rfl rfl (by repeat' (first | exact OkL.nil | refine OkL.cons ?_ ?_ | exact oP_ok | exact bP_ok)) rfl (Nat.le_refl _) (by simp [maxLen]) (fun w => by rw [flt_one]; exact bse8 x w) (fun v9 => ?_)
        refine DerR.tl (fun w4 V hok hV => ?_)
        have ho4 : w4.ownsRow w3.heap.size 31 8 v4 (O.take j).length (flt dc (O.take j)) := hok.get hV (.tail _ (.head _)) rfl
        have ho9 : w4.ownsRow w3.heap.size 31 8 v9 ([x] : List Dg).length (flt dc [x]) := hok.get hV (.head _) rfl
        have hk4 := hok.kp
        obtain ⟨a9, c9, rfl, _, hS9⟩ := Sl.own dc_length ho9 rfl
        refine SG.appO (enc := dc) (xs := O.take j) (ys := [x]) (base := w3.heap.size) rfl rfl rfl (by exact rho_of rfl) (by exact rho_of rfl) rfl rfl rfl rfl dc_length dc_one ho4 hS9 (by rw [hjl]; simp only [maxLen, List.length_cons, List.length_nil]; omega) (by rw [hjl]; show (j + 1) * 8 ≤ _; omega) hk4.size (fun v10 w5 hk5 ho10 _ => ?_)
        have k5 : Kp [] w3 w5 := hk4.trans_new hk5 (own_new ho4 (Nat.le_refl _))
        obtain ⟨ad, hSd, hvd⟩ := vals_drop (P := Tryz.prog) (E := 31) (hSv3.kp0 k5) hcv hfo hj
        repeat (first|apply cA|apply cB|apply cD|apply cE|apply cF|apply cG|apply cH|apply cJ|apply cU|refine cV rfl ?_|apply cY|refine cZ rfl rfl rfl rfl (by first|((first|apply qmv|apply qas|apply qla|apply qix|apply qpk|apply qls|apply qad|apply qln|apply qle|apply qfr|apply qto)<;>(first|exact rfl|assumption|exact Ar.mk (by omega)|exact dct (by first|assumption|omega)|exact dcf (by first|assumption|omega)|exact List.not_mem_nil|apply dc_length|fail))|fail) ?_)
        refine cZ rfl rfl rfl rfl (hvd rfl rfl) ?_
        refine SG.appO (enc := dc) (xs := O.take j ++ [x]) (ys := O.drop j) (base := w3.heap.size) rfl rfl rfl (by exact rho_of rfl) (by exact rho_of rfl) rfl rfl rfl rfl dc_length dc_one ho10 hSd (by rw [hdl, List.length_append, hjl]; simp only [maxLen, List.length_cons, List.length_nil]; omega) (by rw [hdl, List.length_append, hjl]; show (j + 1 + _) * 8 ≤ _; omega) k5.size (fun v12 w6 hk6 ho12 _ => ?_)
        have k6 : Kp [] w3 w6 := k5.trans_new hk6 (own_new ho10 (Nat.le_refl _))
        rw [← hins, ← hsn] at ho12
        have k13 := hk1.trans hk3
        repeat (first|apply cA|apply cB|apply cD|apply cE|apply cF|apply cG|apply cH|apply cJ|apply cU|refine cV rfl ?_|apply cY|refine cZ rfl rfl rfl rfl (by first|((first|apply qmv|apply qas|apply qla|apply qix|apply qpk|apply qls|apply qad|apply qln|apply qle|apply qfr|apply qto)<;>(first|exact rfl|assumption|exact Ar.mk (by omega)|exact dct (by first|assumption|omega)|exact dcf (by first|assumption|omega)|exact List.not_mem_nil|apply dc_length|fail))|fail) ?_)
        refine NG.round (v12, i + 1) (by (repeat' (first | exact True.intro | exact rfl | refine And.intro ?_ ?_))) ⟨by simp only; omega, k13.trans k6, own_mono ho12 k13.size⟩ (by simp only; omega)
  · have g1 : ¬ (i : Int) < (l.length : Int) := by omega
    rw [List.take_of_length_le (by omega)] at ho
    repeat (first|apply cA|apply cB|apply cD|apply cE|apply cF|apply cG|apply cH|apply cJ|apply cU|refine cV rfl ?_|apply cY|refine cZ rfl rfl rfl rfl (by first|((first|apply qmv|apply qas|apply qla|apply qix|apply qpk|apply qls|apply qad|apply qln|apply qle|apply qfr|apply qto)<;>(first|exact rfl|assumption|exact Ar.mk (by omega)|exact dct (by first|assumption|omega)|exact dcf (by first|assumption|omega)|exact List.not_mem_nil|apply dc_length|fail))|fail) ?_)
    refine dE rfl (by exact rho_of rfl) rfl ?_
    repeat (first|apply cA|apply cB|apply cD|apply cE|apply cF|apply cG|apply cH|apply cJ|apply cU|refine cV rfl ?_|apply cY|refine cZ rfl rfl rfl rfl (by first|((first|apply qmv|apply qas|apply qla|apply qix|apply qpk|apply qls|apply qad|apply qln|apply qle|apply qfr|apply qto)<;>(first|exact rfl|assumption|exact Ar.mk (by omega)|exact dct (by first|assumption|omega)|exact dcf (by first|assumption|omega)|exact List.not_mem_nil|apply dc_length|fail))|fail) ?_)
    refine ret1 (Or.inl rfl) Tryz.results48 (by first | exact ResV.tmp rfl | exact ResV.agg rfl rfl (by assumption) (by first | exact dc_length _ | exact nc_length _ | exact rc_length _ _ _ | exact ec_length _ | exact dl_length _ _ _ _ | rfl) | exact ResV.cell rfl rfl (by assumption)) ?_
    exact ⟨_, rfl, ho, hk1⟩
end Go.Proofs.YtnoipmimddoioaaGreat
namespace Go.Proofs.YtnoipmimddoioaaGreat
set_option linter.unusedVariables false
section
variable {P : Program} {n : Nat} {ops : List Oper} {Q : Exit → Act → World → Prop} {w0 : World}
theorem CG.rows2 {α : Type} {L0 : Env} {enc : α → List Value} {E : TypeId} {id base base' sz c c' : Nat} {v v' : Value} {l l' : List α} (hm : P.follows .mixedOrders = true) (k : Nat) (ord : List Nat) (G : List RE) (hi : G.filter (fun e => Nat.ble 1000 e.i) = [⟨1000, c, oP base E sz enc l⟩, ⟨1001, c', oP base' E sz enc l'⟩]) (hap : Apart v v') (ho : w0.ownsRow base E sz v l.length (flt enc l)) (ho' : w0.ownsRow base' E sz v' l'.length (flt enc l')) (hc : chkX n ops ord (giR G) k = true) (hlen : Nat.ble ops.length 1000 = true) (hG : OkL G)
    (h : DerR P (ownB v ++ ownB v') w0 ops G (KR n (ownB v ++ ownB v') w0 P ops Q k G) ord L0 [(1001, v'), (1000, v)]) : CG P n (.region id ops.toArray true) Q L0 w0 := by
  have hin : ∀ e ∈ G, Nat.ble 1000 e.i = true → e = ⟨1000, c, oP base E sz enc l⟩ ∨ e = ⟨1001, c', oP base' E sz enc l'⟩ := fun e he h1 => by
    have : e ∈ G.filter (fun e => Nat.ble 1000 e.i) := List.mem_filter.2 ⟨he, h1⟩
    rw [hi] at this
    simpa using this
  refine CG.rowsI hm k ord G [(1001, v'), (1000, v)] (ownB v ++ ownB v') (fun j => if j = 1000 then v else v') hc hlen hG.all (fun w' hk => ⟨hk.any, fun e he h1 => ?_, fun e he e' he' h1 h2 hcc => ?_, fun e he h1 b hb => ?_⟩) (fun p hp => ?_) h
  · rcases hin e he h1 with rfl | rfl
    · exact own_kp0 ho hk
    · exact own_kp0 ho' hk
  · rcases hin e he h1 with rfl | rfl
    · rcases hin e' he' h2 with rfl | rfl
      · exact absurd rfl hcc
      · exact hap
    · rcases hin e' he' h2 with rfl | rfl
      · exact hap.symm
      · exact absurd rfl hcc
  · left
    rcases hin e he h1 with rfl | rfl
    · have hb : v.ownBlock = some b := hb
      refine List.mem_append_left _ ?_
      unfold ownB
      rw [hb]
      simp
    · have hb : v'.ownBlock = some b := hb
      refine List.mem_append_right _ ?_
      unfold ownB
      rw [hb]
      simp
  · simp only [List.mem_cons, List.not_mem_nil, or_false] at hp
    rcases hp with rfl | rfl
    · exact ⟨rfl, by simp only; omega⟩
    · exact ⟨rfl, by simp only; omega⟩
end
end Go.Proofs.YtnoipmimddoioaaGreat
namespace Go.Proofs.YtnoipmimddoioaaGreat
open Go.Proofs Go.Shelf Go.Sort
set_option linter.unusedVariables false
structure Sel (m : Dg) (all out W : List Dg) : Prop where
  perm : (out ++ W).Perm all
  ord : out.Pairwise (fun a b => kW m a ≤ kW m b)
  nums : W.Pairwise (fun a b => num a ≤ num b)
  le : ∀ x ∈ out, ∀ y ∈ W, kW m x ≤ kW m y
theorem Sel.init (m : Dg) (all : List Dg) : Sel m all [] (sortK num all) := ⟨sortK_perm num all, List.Pairwise.nil, sortK_sorted num all, fun x hx => by cases hx⟩
theorem Sel.done {m : Dg} {all out : List Dg} (h : Sel m all out []) : out = sortK (kW m) all := by
  have hp := h.perm
  rw [List.append_nil] at hp
  exact sorted_uniq (fun x y e => kW_inj e) hp (sortK_perm _ all) h.ord (sortK_sorted _ all)
theorem kW_le {m x y : Dg} (h : num (twoI m x) < num (twoI m y) ∨ (num (twoI m x) ≤ num (twoI m y) ∧ num x ≤ num y)) : kW m x ≤ kW m y := by
  have hx := num_lt x
  have hy := num_lt y
  unfold kW
  rcases h with h | ⟨h1, h2⟩ <;> omega
theorem Sel.step {m : Dg} {all out W : List Dg} (h : Sel m all out W) {b : Nat} (hb : b < W.length) (hmin : ∀ i (hi : i < W.length), num (twoI m W[b]) ≤ num (twoI m W[i])) (hfst : ∀ i (hi : i < W.length), i < b → num (twoI m W[b]) < num (twoI m W[i])) :
    Sel m all (out ++ [W[b]]) (W.take b ++ W.drop (b + 1)) := by
  have hle : ∀ y ∈ W.take b ++ W.drop (b + 1), kW m W[b] ≤ kW m y := fun y hy => by
    rcases List.mem_append.1 hy with hy | hy
    · obtain ⟨i, hi, rfl⟩ := List.getElem_of_mem hy
      rw [List.length_take] at hi
      rw [List.getElem_take]
      exact kW_le (Or.inl (hfst i (by omega) (by omega)))
    · obtain ⟨i, hi, rfl⟩ := List.getElem_of_mem hy
      rw [List.length_drop] at hi
      rw [List.getElem_drop]
      exact kW_le (Or.inr ⟨hmin _ (by omega), List.pairwise_iff_getElem.1 h.nums b (b + 1 + i) hb (by omega) (by omega)⟩)
  have hsub : (W.take b ++ W.drop (b + 1)).Sublist W := by
    have e : W = W.take b ++ W.drop b := (List.take_append_drop b W).symm
    conv => rhs; rw [e]
    exact (List.Sublist.refl _).append (List.drop_sublist_drop_left W (Nat.le_succ b))
  have e2 : W.drop b = W[b] :: W.drop (b + 1) := List.drop_eq_getElem_cons hb
  refine ⟨?_, ?_, h.nums.sublist hsub, ?_⟩
  · refine List.Perm.trans ?_ h.perm
    rw [List.append_assoc]
    refine List.Perm.append_left _ ?_
    have e3 : W.Perm (W.take b ++ W[b] :: W.drop (b + 1)) := by rw [← e2, List.take_append_drop]
    show (W[b] :: (W.take b ++ W.drop (b + 1))).Perm W
    exact (List.perm_middle (l₁ := W.take b)).symm.trans e3.symm
  · rw [List.pairwise_append]
    refine ⟨h.ord, List.pairwise_singleton _ _, fun x hx y hy => ?_⟩
    rw [List.mem_singleton] at hy
    subst hy
    exact h.le x hx _ (List.getElem_mem hb)
  · intro x hx y hy
    rcases List.mem_append.1 hx with hx | hx
    · exact h.le x hx y (hsub.subset hy)
    · rw [List.mem_singleton] at hx
      subst hx
      exact hle y hy
theorem apart_new {w w' : World} {base n sz n' sz' : Nat} {T T' : TypeId} {v v' : Value} {xs xs' : List Value} (h1 : w.ownsRow base T sz v n xs) (h2 : w'.ownsRow w.heap.size T' sz' v' n' xs') : Apart v v' := fun b hb hb' =>
  own_nb h2 b (own_lt h1 b hb) (by unfold ownB; rw [hb']; simp)
theorem apart_notin {v v' : Value} (h : Apart v v') : ∀ b, v'.ownBlock = some b → b ∉ ownB v := fun b hb hm => h b (ownB_mem hm) hb
end Go.Proofs.YtnoipmimddoioaaGreat
namespace Go.Proofs.YtnoipmimddoioaaGreat
open Go.Proofs Go.Shelf Go.Sort
set_option linter.unusedVariables false
theorem bez (w : World) : (Instr.build 48 #[]).run Tryz.prog w = .ok (dealV zd (.slice none 0 0) 0 0) w := by kernel_rfl
theorem ber' (w : World) (a0 a1 a2 a3 a4 a5 a6 a7 : UInt8) : (Instr.build 48 #[(0, .agg #[bv a0, bv a1, bv a2, bv a3, bv a4, bv a5, bv a6, bv a7])]).run Tryz.prog w = .ok (.agg #[bv a0, bv a1, bv a2, bv a3, bv a4, bv a5, bv a6, bv a7, .slice none 0 0, .int .i64 0, .int .i64 0]) w := by kernel_rfl
theorem ber (r : Dg) (w : World) : (Instr.build 48 #[(0, dv r)]).run Tryz.prog w = .ok (dealV r (.slice none 0 0) 0 0) w := by
  obtain ⟨l, hl⟩ := r
  match l, hl with
  | [a0, a1, a2, a3, a4, a5, a6, a7], _ => exact ber' w a0 a1 a2 a3 a4 a5 a6 a7
theorem mixD_eq (l : List Ofr) : manyI (sortK num (l.map digO)) = mixD l := rfl
attribute [local irreducible] CG NG SG Vals Der Row Blk MapIs IterAt addI xorI orI andI shlI shrI mulI twoI cmpD cmpW kW digO manyI mixD sortK maxs nameD DerX DerR insK
set_option maxHeartbeats 32000000 in
theorem rof53_spec {w : World} {l : List Ofr} {a : Option Addr} {c : Nat} (hS : Sl ec 21 w a l) (hl : l.length ≤ 10000) : Calls Tryz.prog 29 #[.slice a l.length c] w (fun e w' => ∃ v, e = .returned (.tuple #[v, .int .i64 (dealOf l).2]) ∧ DealAt w w' 31 v (dealOf l).1 ∧ Kp [] w w') := by
  refine enter1 Tryz.func29 rfl Tryz.ntmps29 rfl ?_
  have hz0 : ∀ W, DealAt w W 31 (dealV zd (.slice none 0 0) 0 0) zDel := fun W => ⟨_, rfl, own_nil⟩
  repeat (first|apply cA|apply cB|apply cD|apply cE|apply cF|apply cG|apply cH|apply cJ|apply cM|apply cN|apply cU|refine cV rfl ?_|apply cY|refine cZ rfl rfl rfl rfl (by first|((first|apply qmv|apply qas|apply qlc|apply qla|apply qfa|apply qic|apply qix|apply qpk|apply qls|apply qei|apply qni|apply qad|apply qln|apply qgt|apply qnt|apply qfr|apply qto)<;>(first|exact rfl|assumption|exact Ar.mk (by omega)|exact dct (by first|assumption|omega)|exact dcf (by first|assumption|omega)|exact List.not_mem_nil|apply dc_length|apply ec_length|apply dl_length|exact nm1 (by omega)|fail))|fail) ?_)
  refine SG.alloc rfl rfl rfl (fun b2 w1 hk1 hb2 hB2 => ?_)
  have hB2 : Blk w1 b2 (.cells (dl zd (.slice none 0 0) 0 0).toArray 48) := hB2
  have l2 := hB2.lt
  have s1 := hk1.size
  cases l with
  | nil =>
    have g0 : (([] : List Ofr).length : Int) = 0 := rfl
    repeat (first | first|apply cA|apply cB|apply cD|apply cE|apply cF|apply cG|apply cH|apply cJ|apply cM|apply cN|apply cU|refine cV rfl ?_|apply cY|refine cZ rfl rfl rfl rfl (by first|((first|apply qmv|apply qas|apply qlc|apply qla|apply qfa|apply qic|apply qix|apply qpk|apply qls|apply qei|apply qni|apply qad|apply qln|apply qgt|apply qnt|apply qfr|apply qto)<;>(first|exact rfl|assumption|exact Ar.mk (by omega)|exact dct (by first|assumption|omega)|exact dcf (by first|assumption|omega)|exact List.not_mem_nil|apply dc_length|apply ec_length|apply dl_length|exact nm1 (by omega)|fail))|fail) ?_ | refine dA rfl rfl ?_)
    refine dD rfl (by exact rho_of rfl) rfl ?_
    repeat (first|apply cA|apply cB|apply cD|apply cE|apply cF|apply cG|apply cH|apply cJ|apply cM|apply cN|apply cU|refine cV rfl ?_|apply cY|refine cZ rfl rfl rfl rfl (by first|((first|apply qmv|apply qas|apply qlc|apply qla|apply qfa|apply qic|apply qix|apply qpk|apply qls|apply qei|apply qni|apply qad|apply qln|apply qgt|apply qnt|apply qfr|apply qto)<;>(first|exact rfl|assumption|exact Ar.mk (by omega)|exact dct (by first|assumption|omega)|exact dcf (by first|assumption|omega)|exact List.not_mem_nil|apply dc_length|apply ec_length|apply dl_length|exact nm1 (by omega)|fail))|fail) ?_)
    refine cZ rfl rfl rfl rfl (vals_build rfl bez) ?_
    refine SG.setAll (old := dl zd (.slice none 0 0) 0 0) (l := dl zd (.slice none 0 0) 0 0) rfl rfl (by exact rho_of rfl) (by exact rho_of rfl) hB2 (dl_length _ _ _ _) (dl_length _ _ _ _) (dl_one _ _ _ _ _ _) (fun w2 hk2 hB3 => ?_)
    have hr : Row w2 b2 0 (dl zd (.slice none 0 0) 0 0) := Row.all hB3 rfl
    repeat (first|apply cA|apply cB|apply cD|apply cE|apply cF|apply cG|apply cH|apply cJ|apply cM|apply cN|apply cU|refine cV rfl ?_|apply cY|refine cZ rfl rfl rfl rfl (by first|((first|apply qmv|apply qas|apply qlc|apply qla|apply qfa|apply qic|apply qix|apply qpk|apply qls|apply qei|apply qni|apply qad|apply qln|apply qgt|apply qnt|apply qfr|apply qto)<;>(first|exact rfl|assumption|exact Ar.mk (by omega)|exact dct (by first|assumption|omega)|exact dcf (by first|assumption|omega)|exact List.not_mem_nil|apply dc_length|apply ec_length|apply dl_length|exact nm1 (by omega)|fail))|fail) ?_)
    refine ret2 (Or.inl rfl) Tryz.results29 (ResV.agg rfl rfl hr (dl_length _ _ _ _)) (by first | exact ResV.tmp rfl | exact ResV.agg rfl rfl (by assumption) (by first | exact dc_length _ | exact nc_length _ | exact rc_length _ _ _ | exact ec_length _ | exact dl_length _ _ _ _ | rfl) | exact ResV.cell rfl rfl (by assumption)) ?_
    exact ⟨_, rfl, hz0 w2, hk1.trans_new hk2 (new1 (by omega))⟩
  | cons o r =>
    generalize hL : o :: r = l at hS hl ⊢
    have hpos : 0 < l.length := by rw [← hL]; simp
    have ho : l[0] = o := by subst hL; rfl
    obtain ⟨ba, oa, rfl, hr0⟩ := (hS.kp0 hk1).at hpos
    rw [ho] at hr0
    obtain ⟨-, rru, rs, -⟩ := ec_rowsO hr0
    have e0 : dealOf l = if (l.length : Int) = o.seats then (if l.all (fun x => decide x.Ok) then (if decide (l.Pairwise fitP) then (goodDel o.rules l, 0) else (zDel, 11)) else (zDel, 2)) else (zDel, 3) := by
      rw [← hL]
      rfl
    have g0 : ¬ (l.length : Int) = 0 := by omega
    by_cases hse : (l.length : Int) = o.seats
    rotate_left
    · rw [if_neg hse] at e0
      repeat (first | first|apply cA|apply cB|apply cD|apply cE|apply cF|apply cG|apply cH|apply cJ|apply cM|apply cN|apply cU|refine cV rfl ?_|apply cY|refine cZ rfl rfl rfl rfl (by first|((first|apply qmv|apply qas|apply qlc|apply qla|apply qfa|apply qic|apply qix|apply qpk|apply qls|apply qei|apply qni|apply qad|apply qln|apply qgt|apply qnt|apply qfr|apply qto)<;>(first|exact rfl|assumption|exact Ar.mk (by omega)|exact dct (by first|assumption|omega)|exact dcf (by first|assumption|omega)|exact List.not_mem_nil|apply dc_length|apply ec_length|apply dl_length|exact nm1 (by omega)|fail))|fail) ?_ | refine dA rfl rfl ?_)
      refine dD rfl (by exact rho_of rfl) rfl ?_
      repeat (first|apply cA|apply cB|apply cD|apply cE|apply cF|apply cG|apply cH|apply cJ|apply cM|apply cN|apply cU|refine cV rfl ?_|apply cY|refine cZ rfl rfl rfl rfl (by first|((first|apply qmv|apply qas|apply qlc|apply qla|apply qfa|apply qic|apply qix|apply qpk|apply qls|apply qei|apply qni|apply qad|apply qln|apply qgt|apply qnt|apply qfr|apply qto)<;>(first|exact rfl|assumption|exact Ar.mk (by omega)|exact dct (by first|assumption|omega)|exact dcf (by first|assumption|omega)|exact List.not_mem_nil|apply dc_length|apply ec_length|apply dl_length|exact nm1 (by omega)|fail))|fail) ?_)
      refine cZ rfl rfl rfl rfl (vals_build rfl bez) ?_
      refine SG.setAll (old := dl zd (.slice none 0 0) 0 0) (l := dl zd (.slice none 0 0) 0 0) rfl rfl (by exact rho_of rfl) (by exact rho_of rfl) hB2 (dl_length _ _ _ _) (dl_length _ _ _ _) (dl_one _ _ _ _ _ _) (fun wz hkz hBz => ?_)
      have hrz : Row wz b2 0 (dl zd (.slice none 0 0) 0 0) := Row.all hBz rfl
      repeat (first|apply cA|apply cB|apply cD|apply cE|apply cF|apply cG|apply cH|apply cJ|apply cM|apply cN|apply cU|refine cV rfl ?_|apply cY|refine cZ rfl rfl rfl rfl (by first|((first|apply qmv|apply qas|apply qlc|apply qla|apply qfa|apply qic|apply qix|apply qpk|apply qls|apply qei|apply qni|apply qad|apply qln|apply qgt|apply qnt|apply qfr|apply qto)<;>(first|exact rfl|assumption|exact Ar.mk (by omega)|exact dct (by first|assumption|omega)|exact dcf (by first|assumption|omega)|exact List.not_mem_nil|apply dc_length|apply ec_length|apply dl_length|exact nm1 (by omega)|fail))|fail) ?_)
      refine ret2 (Or.inl rfl) Tryz.results29 (ResV.agg rfl rfl hrz (dl_length _ _ _ _)) (by first | exact ResV.tmp rfl | exact ResV.agg rfl rfl (by assumption) (by first | exact dc_length _ | exact nc_length _ | exact rc_length _ _ _ | exact ec_length _ | exact dl_length _ _ _ _ | rfl) | exact ResV.cell rfl rfl (by assumption)) ?_
      rw [e0]
      exact ⟨_, rfl, hz0 wz, hk1.trans_new hkz (new1 (by omega))⟩
    rw [if_pos hse] at e0
    repeat (first | first|apply cA|apply cB|apply cD|apply cE|apply cF|apply cG|apply cH|apply cJ|apply cM|apply cN|apply cU|refine cV rfl ?_|apply cY|refine cZ rfl rfl rfl rfl (by first|((first|apply qmv|apply qas|apply qlc|apply qla|apply qfa|apply qic|apply qix|apply qpk|apply qls|apply qei|apply qni|apply qad|apply qln|apply qgt|apply qnt|apply qfr|apply qto)<;>(first|exact rfl|assumption|exact Ar.mk (by omega)|exact dct (by first|assumption|omega)|exact dcf (by first|assumption|omega)|exact List.not_mem_nil|apply dc_length|apply ec_length|apply dl_length|exact nm1 (by omega)|fail))|fail) ?_ | refine dA rfl rfl ?_)
    refine dE rfl (by exact rho_of rfl) rfl ?_
    repeat (first|apply cA|apply cB|apply cD|apply cE|apply cF|apply cG|apply cH|apply cJ|apply cM|apply cN|apply cU|refine cV rfl ?_|apply cY|refine cZ rfl rfl rfl rfl (by first|((first|apply qmv|apply qas|apply qlc|apply qla|apply qfa|apply qic|apply qix|apply qpk|apply qls|apply qei|apply qni|apply qad|apply qln|apply qgt|apply qnt|apply qfr|apply qto)<;>(first|exact rfl|assumption|exact Ar.mk (by omega)|exact dct (by first|assumption|omega)|exact dcf (by first|assumption|omega)|exact List.not_mem_nil|apply dc_length|apply ec_length|apply dl_length|exact nm1 (by omega)|fail))|fail) ?_)
    refine CG.loop (X := Nat) (fun i => [(0, .slice (some ⟨ba, oa, none⟩) l.length c), (2, .pointer (some ⟨b2, 0, none⟩)), (4, .int .i64 (i : Int))]) (fun i w' => i ≤ l.length ∧ Kp [] w1 w' ∧ ∀ j (h : j < l.length), j < i → l[j].Ok) (fun i => l.length - i) 0 ⟨by omega, Kp.refl _ _, fun j _ h => absurd h (Nat.not_lt_zero j)⟩ (by (repeat' (first | exact True.intro | exact rfl | refine And.intro ?_ ?_))) ?_
    rintro i w2 ⟨hi, hk2, hall⟩
    have hB2 := hB2.kp0 hk2
    by_cases hlt : i < l.length
    · have g1 : (i : Int) < (l.length : Int) := by omega
      have hri := (hS.kp0 (hk1.trans hk2)).row (List.getElem?_eq_getElem hlt)
      repeat (first|apply cA|apply cB|apply cD|apply cE|apply cF|apply cG|apply cH|apply cJ|apply cM|apply cN|apply cU|refine cV rfl ?_|apply cY|refine cZ rfl rfl rfl rfl (by first|((first|apply qmv|apply qas|apply qlc|apply qla|apply qfa|apply qic|apply qix|apply qpk|apply qls|apply qei|apply qni|apply qad|apply qln|apply qgt|apply qnt|apply qfr|apply qto)<;>(first|exact rfl|assumption|exact Ar.mk (by omega)|exact dct (by first|assumption|omega)|exact dcf (by first|assumption|omega)|exact List.not_mem_nil|apply dc_length|apply ec_length|apply dl_length|exact nm1 (by omega)|fail))|fail) ?_)
      refine dD rfl (by exact rho_of rfl) rfl ?_
      repeat (first|apply cA|apply cB|apply cD|apply cE|apply cF|apply cG|apply cH|apply cJ|apply cM|apply cN|apply cU|refine cV rfl ?_|apply cY|refine cZ rfl rfl rfl rfl (by first|((first|apply qmv|apply qas|apply qlc|apply qla|apply qfa|apply qic|apply qix|apply qpk|apply qls|apply qei|apply qni|apply qad|apply qln|apply qgt|apply qnt|apply qfr|apply qto)<;>(first|exact rfl|assumption|exact Ar.mk (by omega)|exact dct (by first|assumption|omega)|exact dcf (by first|assumption|omega)|exact List.not_mem_nil|apply dc_length|apply ec_length|apply dl_length|exact nm1 (by omega)|fail))|fail) ?_)
      refine SG.ret rfl rfl rfl (vs := [ov l[i]]) (by repeat' (first | exact True.intro | exact rho_of rfl | refine And.intro ?_ ?_)) (right_spec l[i] w2) (fun w5 hk5 => ?_)
      by_cases hok : l[i].Ok
      · rw [decide_eq_true hok]
        repeat (first|apply cA|apply cB|apply cD|apply cE|apply cF|apply cG|apply cH|apply cJ|apply cM|apply cN|apply cU|refine cV rfl ?_|apply cY|refine cZ rfl rfl rfl rfl (by first|((first|apply qmv|apply qas|apply qlc|apply qla|apply qfa|apply qic|apply qix|apply qpk|apply qls|apply qei|apply qni|apply qad|apply qln|apply qgt|apply qnt|apply qfr|apply qto)<;>(first|exact rfl|assumption|exact Ar.mk (by omega)|exact dct (by first|assumption|omega)|exact dcf (by first|assumption|omega)|exact List.not_mem_nil|apply dc_length|apply ec_length|apply dl_length|exact nm1 (by omega)|fail))|fail) ?_)
        refine dE rfl (by exact rho_of rfl) rfl ?_
        repeat (first|apply cA|apply cB|apply cD|apply cE|apply cF|apply cG|apply cH|apply cJ|apply cM|apply cN|apply cU|refine cV rfl ?_|apply cY|refine cZ rfl rfl rfl rfl (by first|((first|apply qmv|apply qas|apply qlc|apply qla|apply qfa|apply qic|apply qix|apply qpk|apply qls|apply qei|apply qni|apply qad|apply qln|apply qgt|apply qnt|apply qfr|apply qto)<;>(first|exact rfl|assumption|exact Ar.mk (by omega)|exact dct (by first|assumption|omega)|exact dcf (by first|assumption|omega)|exact List.not_mem_nil|apply dc_length|apply ec_length|apply dl_length|exact nm1 (by omega)|fail))|fail) ?_)
        refine NG.round (i + 1) (by (repeat' (first | exact True.intro | exact rfl | refine And.intro ?_ ?_))) ⟨by omega, hk2.trans hk5, fun j h hj => ?_⟩ (by omega)
        by_cases e : j = i
        · subst e; exact hok
        · exact hall j h (by omega)
      · have hno : ¬ (l.all (fun x => decide x.Ok) = true) := fun h => by
          have := List.all_eq_true.1 h l[i] (List.getElem_mem hlt)
          exact hok (of_decide_eq_true this)
        rw [if_neg hno] at e0
        rw [decide_eq_false hok]
        repeat (first|apply cA|apply cB|apply cD|apply cE|apply cF|apply cG|apply cH|apply cJ|apply cM|apply cN|apply cU|refine cV rfl ?_|apply cY|refine cZ rfl rfl rfl rfl (by first|((first|apply qmv|apply qas|apply qlc|apply qla|apply qfa|apply qic|apply qix|apply qpk|apply qls|apply qei|apply qni|apply qad|apply qln|apply qgt|apply qnt|apply qfr|apply qto)<;>(first|exact rfl|assumption|exact Ar.mk (by omega)|exact dct (by first|assumption|omega)|exact dcf (by first|assumption|omega)|exact List.not_mem_nil|apply dc_length|apply ec_length|apply dl_length|exact nm1 (by omega)|fail))|fail) ?_)
        refine dD rfl (by exact rho_of rfl) rfl ?_
        repeat (first|apply cA|apply cB|apply cD|apply cE|apply cF|apply cG|apply cH|apply cJ|apply cM|apply cN|apply cU|refine cV rfl ?_|apply cY|refine cZ rfl rfl rfl rfl (by first|((first|apply qmv|apply qas|apply qlc|apply qla|apply qfa|apply qic|apply qix|apply qpk|apply qls|apply qei|apply qni|apply qad|apply qln|apply qgt|apply qnt|apply qfr|apply qto)<;>(first|exact rfl|assumption|exact Ar.mk (by omega)|exact dct (by first|assumption|omega)|exact dcf (by first|assumption|omega)|exact List.not_mem_nil|apply dc_length|apply ec_length|apply dl_length|exact nm1 (by omega)|fail))|fail) ?_)
        refine cZ rfl rfl rfl rfl (vals_build rfl bez) ?_
        refine SG.setAll (old := dl zd (.slice none 0 0) 0 0) (l := dl zd (.slice none 0 0) 0 0) rfl rfl (by exact rho_of rfl) (by exact rho_of rfl) (hB2.kp0 hk5) (dl_length _ _ _ _) (dl_length _ _ _ _) (dl_one _ _ _ _ _ _) (fun wz hkz hBz => ?_)
        have hrz : Row wz b2 0 (dl zd (.slice none 0 0) 0 0) := Row.all hBz rfl
        repeat (first|apply cA|apply cB|apply cD|apply cE|apply cF|apply cG|apply cH|apply cJ|apply cM|apply cN|apply cU|refine cV rfl ?_|apply cY|refine cZ rfl rfl rfl rfl (by first|((first|apply qmv|apply qas|apply qlc|apply qla|apply qfa|apply qic|apply qix|apply qpk|apply qls|apply qei|apply qni|apply qad|apply qln|apply qgt|apply qnt|apply qfr|apply qto)<;>(first|exact rfl|assumption|exact Ar.mk (by omega)|exact dct (by first|assumption|omega)|exact dcf (by first|assumption|omega)|exact List.not_mem_nil|apply dc_length|apply ec_length|apply dl_length|exact nm1 (by omega)|fail))|fail) ?_)
        refine ret2 (Or.inl rfl) Tryz.results29 (ResV.agg rfl rfl hrz (dl_length _ _ _ _)) (by first | exact ResV.tmp rfl | exact ResV.agg rfl rfl (by assumption) (by first | exact dc_length _ | exact nc_length _ | exact rc_length _ _ _ | exact ec_length _ | exact dl_length _ _ _ _ | rfl) | exact ResV.cell rfl rfl (by assumption)) ?_
        rw [e0]
        exact ⟨_, rfl, hz0 wz, (hk1.trans (hk2.trans hk5)).trans_new hkz (new1 (by omega))⟩
    have g1 : ¬ (i : Int) < (l.length : Int) := by omega
    have hok : l.all (fun x => decide x.Ok) = true := List.all_eq_true.2 (fun x hx => by
      obtain ⟨j, hj, rfl⟩ := List.getElem_of_mem hx
      exact decide_eq_true (hall j hj (by omega)))
    rw [if_pos hok] at e0
    clear hall
    have k2 := hk1.trans hk2
    have rru := rru.kp0 hk2
    repeat (first|apply cA|apply cB|apply cD|apply cE|apply cF|apply cG|apply cH|apply cJ|apply cM|apply cN|apply cU|refine cV rfl ?_|apply cY|refine cZ rfl rfl rfl rfl (by first|((first|apply qmv|apply qas|apply qlc|apply qla|apply qfa|apply qic|apply qix|apply qpk|apply qls|apply qei|apply qni|apply qad|apply qln|apply qgt|apply qnt|apply qfr|apply qto)<;>(first|exact rfl|assumption|exact Ar.mk (by omega)|exact dct (by first|assumption|omega)|exact dcf (by first|assumption|omega)|exact List.not_mem_nil|apply dc_length|apply ec_length|apply dl_length|exact nm1 (by omega)|fail))|fail) ?_)
    refine dE rfl (by exact rho_of rfl) rfl ?_
    repeat (first|apply cA|apply cB|apply cD|apply cE|apply cF|apply cG|apply cH|apply cJ|apply cM|apply cN|apply cU|refine cV rfl ?_|apply cY|refine cZ rfl rfl rfl rfl (by first|((first|apply qmv|apply qas|apply qlc|apply qla|apply qfa|apply qic|apply qix|apply qpk|apply qls|apply qei|apply qni|apply qad|apply qln|apply qgt|apply qnt|apply qfr|apply qto)<;>(first|exact rfl|assumption|exact Ar.mk (by omega)|exact dct (by first|assumption|omega)|exact dcf (by first|assumption|omega)|exact List.not_mem_nil|apply dc_length|apply ec_length|apply dl_length|exact nm1 (by omega)|fail))|fail) ?_)
    refine cZ rfl rfl rfl rfl (vals_build rfl (ber _)) ?_
    refine SG.alloc rfl rfl rfl (fun b7 w4 hk4 hb7 hB7 => ?_)
    refine SG.setAll (l := dl o.rules (.slice none 0 0) 0 0) rfl rfl (by exact rho_of rfl) (by exact rho_of rfl) hB7 (dl_length _ _ _ _) rfl (dl_one _ _ _ _ _ _) (fun w5 hk5 hB8 => ?_)
    have hB8 : Blk w5 b7 (.cells (dl o.rules (.slice none 0 0) 0 0).toArray 48) := hB8
    have k5 : Kp [] w2 w5 := hk4.trans_new hk5 (new1 (by omega))
    have l7 := hB8.lt
    have s2 := hk2.size
    have s5 := k5.size
    clear hi g1 hlt
    repeat (first|apply cA|apply cB|apply cD|apply cE|apply cF|apply cG|apply cH|apply cJ|apply cM|apply cN|apply cU|refine cV rfl ?_|apply cY|refine cZ rfl rfl rfl rfl (by first|((first|apply qmv|apply qas|apply qlc|apply qla|apply qfa|apply qic|apply qix|apply qpk|apply qls|apply qei|apply qni|apply qad|apply qln|apply qgt|apply qnt|apply qfr|apply qto)<;>(first|exact rfl|assumption|exact Ar.mk (by omega)|exact dct (by first|assumption|omega)|exact dcf (by first|assumption|omega)|exact List.not_mem_nil|apply dc_length|apply ec_length|apply dl_length|exact nm1 (by omega)|fail))|fail) ?_)
    refine CG.loop (X := (Value × Value) × Nat) (fun x => [(0, .slice (some ⟨ba, oa, none⟩) l.length c), (2, .pointer (some ⟨b2, 0, none⟩)), (5, x.1.1), (6, x.1.2), (7, .pointer (some ⟨b7, 0, none⟩)), (8, .int .i64 (x.2 : Int))])
      (fun x w' => x.2 ≤ l.length ∧ Kp [] w2 w' ∧ w5.heap.size ≤ w'.heap.size ∧ Blk w' b7 (.cells (dl o.rules (.slice none 0 0) (maxs (·.least) (l.take x.2)) (maxs (·.window) (l.take x.2))).toArray 48) ∧ w'.ownsRow w2.heap.size 31 8 x.1.1 ((l.take x.2).map digO).length (flt dc ((l.take x.2).map digO)) ∧ w'.ownsRow w2.heap.size 31 8 x.1.2 ((l.take x.2).map (·.who)).length (flt dc ((l.take x.2).map (·.who))) ∧ Apart x.1.1 x.1.2 ∧ (l.take x.2).Pairwise fitP)
      (fun x => l.length - x.2) ((.slice none 0 0, .slice none 0 0), 0) ⟨by simp only; omega, k5, Nat.le_refl _, by simp only [List.take_zero, maxs_nil]; exact hB8, own_nil, own_nil, fun b h => (by cases h), List.Pairwise.nil⟩ (by (repeat' (first | exact True.intro | exact rfl | refine And.intro ?_ ?_))) ?_
    rintro ⟨⟨v, v'⟩, i⟩ w6 ⟨hi, hk6, s6, hB, hok1, hok2, hap, hpw⟩
    simp only at hi hB hok1 hok2 hap hpw
    refine CG.to [(0, .slice (some ⟨ba, oa, none⟩) l.length c), (2, .pointer (some ⟨b2, 0, none⟩)), (5, v), (6, v'), (7, .pointer (some ⟨b7, 0, none⟩)), (8, .int .i64 (i : Int))] (by (repeat' (first | exact True.intro | exact rfl | refine And.intro ?_ ?_))) ?_
    have hlen : (l.take i).length = i := by rw [List.length_take]; omega
    have hB2 := hB2.kp0 hk6
    have k6 := k2.trans hk6
    by_cases hlt : i < l.length
    · have g1 : (i : Int) < (l.length : Int) := by omega
      have hri := (hS.kp0 k6).row (List.getElem?_eq_getElem hlt)
      repeat (first|apply cA|apply cB|apply cD|apply cE|apply cF|apply cG|apply cH|apply cJ|apply cM|apply cN|apply cU|refine cV rfl ?_|apply cY|refine cZ rfl rfl rfl rfl (by first|((first|apply qmv|apply qas|apply qlc|apply qla|apply qfa|apply qic|apply qix|apply qpk|apply qls|apply qei|apply qni|apply qad|apply qln|apply qgt|apply qnt|apply qfr|apply qto)<;>(first|exact rfl|assumption|exact Ar.mk (by omega)|exact dct (by first|assumption|omega)|exact dcf (by first|assumption|omega)|exact List.not_mem_nil|apply dc_length|apply ec_length|apply dl_length|exact nm1 (by omega)|fail))|fail) ?_)
      refine dD rfl (by exact rho_of rfl) rfl ?_
      repeat (first|apply cA|apply cB|apply cD|apply cE|apply cF|apply cG|apply cH|apply cJ|apply cM|apply cN|apply cU|refine cV rfl ?_|apply cY|refine cZ rfl rfl rfl rfl (by first|((first|apply qmv|apply qas|apply qlc|apply qla|apply qfa|apply qic|apply qix|apply qpk|apply qls|apply qei|apply qni|apply qad|apply qln|apply qgt|apply qnt|apply qfr|apply qto)<;>(first|exact rfl|assumption|exact Ar.mk (by omega)|exact dct (by first|assumption|omega)|exact dcf (by first|assumption|omega)|exact List.not_mem_nil|apply dc_length|apply ec_length|apply dl_length|exact nm1 (by omega)|fail))|fail) ?_)
      refine CG.loop (X := Nat) (fun j => [(0, .slice (some ⟨ba, oa, none⟩) l.length c), (2, .pointer (some ⟨b2, 0, none⟩)), (5, v), (6, v'), (7, .pointer (some ⟨b7, 0, none⟩)), (8, .int .i64 (i : Int)), (9, .int .i64 (j : Int))]) (fun j w' => j ≤ i ∧ Kp [] w6 w' ∧ ∀ k (h : k < l.length), k < j → fitP l[k] l[i]) (fun j => i - j) 0 ⟨by omega, Kp.refl _ _, fun k _ h => absurd h (Nat.not_lt_zero k)⟩ (by (repeat' (first | exact True.intro | exact rfl | refine And.intro ?_ ?_))) ?_
      rintro j w7 ⟨hj, hk7, hfit⟩
      have k7 := k6.trans hk7
      by_cases hjl : j < i
      · have g2 : (j : Int) < (i : Int) := by omega
        have hjlt : j < l.length := by omega
        have hrj := (hS.kp0 k7).row (List.getElem?_eq_getElem hjlt)
        have hri := hri.kp0 hk7
        repeat (first|apply cA|apply cB|apply cD|apply cE|apply cF|apply cG|apply cH|apply cJ|apply cM|apply cN|apply cU|refine cV rfl ?_|apply cY|refine cZ rfl rfl rfl rfl (by first|((first|apply qmv|apply qas|apply qlc|apply qla|apply qfa|apply qic|apply qix|apply qpk|apply qls|apply qei|apply qni|apply qad|apply qln|apply qgt|apply qnt|apply qfr|apply qto)<;>(first|exact rfl|assumption|exact Ar.mk (by omega)|exact dct (by first|assumption|omega)|exact dcf (by first|assumption|omega)|exact List.not_mem_nil|apply dc_length|apply ec_length|apply dl_length|exact nm1 (by omega)|fail))|fail) ?_)
        refine dD rfl (by exact rho_of rfl) rfl ?_
        repeat (first|apply cA|apply cB|apply cD|apply cE|apply cF|apply cG|apply cH|apply cJ|apply cM|apply cN|apply cU|refine cV rfl ?_|apply cY|refine cZ rfl rfl rfl rfl (by first|((first|apply qmv|apply qas|apply qlc|apply qla|apply qfa|apply qic|apply qix|apply qpk|apply qls|apply qei|apply qni|apply qad|apply qln|apply qgt|apply qnt|apply qfr|apply qto)<;>(first|exact rfl|assumption|exact Ar.mk (by omega)|exact dct (by first|assumption|omega)|exact dcf (by first|assumption|omega)|exact List.not_mem_nil|apply dc_length|apply ec_length|apply dl_length|exact nm1 (by omega)|fail))|fail) ?_)
        refine CG.draw0 mixed [0, 1, 2, 3, 4, 5, 6, 7, 8, 9] [] (by kernel_rfl) ?_
        repeat (refine dB rfl rfl rfl (by first|((first|apply qmv|apply qas|apply qlc|apply qla|apply qfa|apply qic|apply qix|apply qpk|apply qls|apply qei|apply qni|apply qad|apply qln|apply qgt|apply qnt|apply qfr|apply qto)<;>(first|exact rfl|assumption|exact Ar.mk (by omega)|exact dct (by first|assumption|omega)|exact dcf (by first|assumption|omega)|exact List.not_mem_nil|apply dc_length|apply ec_length|apply dl_length|exact nm1 (by omega)|fail))|fail) ?_)
        refine Der.call rfl rfl rfl (vs := [ov l[j], ov l[i]]) (by repeat' (first | exact True.intro | exact rho_of rfl | refine And.intro ?_ ?_)) (fun W hk _ => rfit_spec l[j] l[i] W) ?_
        by_cases hf : fitP l[j] l[i]
        · rw [decide_eq_true hf]
          repeat (refine dB rfl rfl rfl (by first|((first|apply qmv|apply qas|apply qlc|apply qla|apply qfa|apply qic|apply qix|apply qpk|apply qls|apply qei|apply qni|apply qad|apply qln|apply qgt|apply qnt|apply qfr|apply qto)<;>(first|exact rfl|assumption|exact Ar.mk (by omega)|exact dct (by first|assumption|omega)|exact dcf (by first|assumption|omega)|exact List.not_mem_nil|apply dc_length|apply ec_length|apply dl_length|exact nm1 (by omega)|fail))|fail) ?_)
          refine Der.fin (fun w8 hk8 _ _ => ?_)
          repeat (first|apply cA|apply cB|apply cD|apply cE|apply cF|apply cG|apply cH|apply cJ|apply cM|apply cN|apply cU|refine cV rfl ?_|apply cY|refine cZ rfl rfl rfl rfl (by first|((first|apply qmv|apply qas|apply qlc|apply qla|apply qfa|apply qic|apply qix|apply qpk|apply qls|apply qei|apply qni|apply qad|apply qln|apply qgt|apply qnt|apply qfr|apply qto)<;>(first|exact rfl|assumption|exact Ar.mk (by omega)|exact dct (by first|assumption|omega)|exact dcf (by first|assumption|omega)|exact List.not_mem_nil|apply dc_length|apply ec_length|apply dl_length|exact nm1 (by omega)|fail))|fail) ?_)
          refine dE rfl (by exact rho_of rfl) rfl ?_
          repeat (first|apply cA|apply cB|apply cD|apply cE|apply cF|apply cG|apply cH|apply cJ|apply cM|apply cN|apply cU|refine cV rfl ?_|apply cY|refine cZ rfl rfl rfl rfl (by first|((first|apply qmv|apply qas|apply qlc|apply qla|apply qfa|apply qic|apply qix|apply qpk|apply qls|apply qei|apply qni|apply qad|apply qln|apply qgt|apply qnt|apply qfr|apply qto)<;>(first|exact rfl|assumption|exact Ar.mk (by omega)|exact dct (by first|assumption|omega)|exact dcf (by first|assumption|omega)|exact List.not_mem_nil|apply dc_length|apply ec_length|apply dl_length|exact nm1 (by omega)|fail))|fail) ?_)
          refine NG.round (j + 1) (by (repeat' (first | exact True.intro | exact rfl | refine And.intro ?_ ?_))) ⟨by omega, hk7.trans hk8, fun k h hkj => ?_⟩ (by omega)
          by_cases e : k = j
          · subst e; exact hf
          · exact hfit k h (by omega)
        · rw [decide_eq_false hf]
          have hno : ¬ (decide (l.Pairwise fitP) = true) := fun h => hf (List.pairwise_iff_getElem.1 (of_decide_eq_true h) j i hjlt hlt hjl)
          rw [if_neg hno] at e0
          repeat (refine dB rfl rfl rfl (by first|((first|apply qmv|apply qas|apply qlc|apply qla|apply qfa|apply qic|apply qix|apply qpk|apply qls|apply qei|apply qni|apply qad|apply qln|apply qgt|apply qnt|apply qfr|apply qto)<;>(first|exact rfl|assumption|exact Ar.mk (by omega)|exact dct (by first|assumption|omega)|exact dcf (by first|assumption|omega)|exact List.not_mem_nil|apply dc_length|apply ec_length|apply dl_length|exact nm1 (by omega)|fail))|fail) ?_)
          refine Der.fin (fun w8 hk8 _ _ => ?_)
          repeat (first|apply cA|apply cB|apply cD|apply cE|apply cF|apply cG|apply cH|apply cJ|apply cM|apply cN|apply cU|refine cV rfl ?_|apply cY|refine cZ rfl rfl rfl rfl (by first|((first|apply qmv|apply qas|apply qlc|apply qla|apply qfa|apply qic|apply qix|apply qpk|apply qls|apply qei|apply qni|apply qad|apply qln|apply qgt|apply qnt|apply qfr|apply qto)<;>(first|exact rfl|assumption|exact Ar.mk (by omega)|exact dct (by first|assumption|omega)|exact dcf (by first|assumption|omega)|exact List.not_mem_nil|apply dc_length|apply ec_length|apply dl_length|exact nm1 (by omega)|fail))|fail) ?_)
          refine dD rfl (by exact rho_of rfl) rfl ?_
          repeat (first|apply cA|apply cB|apply cD|apply cE|apply cF|apply cG|apply cH|apply cJ|apply cM|apply cN|apply cU|refine cV rfl ?_|apply cY|refine cZ rfl rfl rfl rfl (by first|((first|apply qmv|apply qas|apply qlc|apply qla|apply qfa|apply qic|apply qix|apply qpk|apply qls|apply qei|apply qni|apply qad|apply qln|apply qgt|apply qnt|apply qfr|apply qto)<;>(first|exact rfl|assumption|exact Ar.mk (by omega)|exact dct (by first|assumption|omega)|exact dcf (by first|assumption|omega)|exact List.not_mem_nil|apply dc_length|apply ec_length|apply dl_length|exact nm1 (by omega)|fail))|fail) ?_)
          refine cZ rfl rfl rfl rfl (vals_build rfl bez) ?_
          refine SG.setAll (old := dl zd (.slice none 0 0) 0 0) (l := dl zd (.slice none 0 0) 0 0) rfl rfl (by exact rho_of rfl) (by exact rho_of rfl) ((hB2.kp0 hk7).kp0 hk8) (dl_length _ _ _ _) (dl_length _ _ _ _) (dl_one _ _ _ _ _ _) (fun wz hkz hBz => ?_)
          have hrz : Row wz b2 0 (dl zd (.slice none 0 0) 0 0) := Row.all hBz rfl
          repeat (first|apply cA|apply cB|apply cD|apply cE|apply cF|apply cG|apply cH|apply cJ|apply cM|apply cN|apply cU|refine cV rfl ?_|apply cY|refine cZ rfl rfl rfl rfl (by first|((first|apply qmv|apply qas|apply qlc|apply qla|apply qfa|apply qic|apply qix|apply qpk|apply qls|apply qei|apply qni|apply qad|apply qln|apply qgt|apply qnt|apply qfr|apply qto)<;>(first|exact rfl|assumption|exact Ar.mk (by omega)|exact dct (by first|assumption|omega)|exact dcf (by first|assumption|omega)|exact List.not_mem_nil|apply dc_length|apply ec_length|apply dl_length|exact nm1 (by omega)|fail))|fail) ?_)
          refine ret2 (Or.inl rfl) Tryz.results29 (ResV.agg rfl rfl hrz (dl_length _ _ _ _)) (by first | exact ResV.tmp rfl | exact ResV.agg rfl rfl (by assumption) (by first | exact dc_length _ | exact nc_length _ | exact rc_length _ _ _ | exact ec_length _ | exact dl_length _ _ _ _ | rfl) | exact ResV.cell rfl rfl (by assumption)) ?_
          rw [e0]
          exact ⟨_, rfl, hz0 wz, (k7.trans hk8).trans_new hkz (new1 (by omega))⟩
      · have g2 : ¬ (j : Int) < (i : Int) := by omega
        have hpw1 : (l.take (i + 1)).Pairwise fitP := by
          rw [List.take_succ_eq_append_getElem hlt, List.pairwise_append]
          refine ⟨hpw, List.pairwise_singleton _ _, fun x hx y hy => ?_⟩
          rw [List.mem_singleton] at hy
          subst hy
          obtain ⟨k, hk, rfl⟩ := List.getElem_of_mem hx
          rw [List.getElem_take]
          exact hfit k (by rw [hlen] at hk; omega) (by rw [hlen] at hk; omega)
        have hri := hri.kp0 hk7
        have hok1 := own_kp0 hok1 hk7
        have hok2 := own_kp0 hok2 hk7
        have hB := hB.kp0 hk7
        have s7 := hk7.size
        have hl1 : ((l.take i).map digO).length = i := by rw [List.length_map]; exact hlen
        have hl2 : ((l.take i).map (·.who)).length = i := by rw [List.length_map]; exact hlen
        have hk67 := hk6.trans hk7
        have lba : ba < w2.heap.size := by have := hr0.lt; omega
        have nb : ba ∉ ownB v ++ ownB v' := fun hm => (List.mem_append.1 hm).elim (own_nb hok1 ba lba) (own_nb hok2 ba lba)
        repeat (first|apply cA|apply cB|apply cD|apply cE|apply cF|apply cG|apply cH|apply cJ|apply cM|apply cN|apply cU|refine cV rfl ?_|apply cY|refine cZ rfl rfl rfl rfl (by first|((first|apply qmv|apply qas|apply qlc|apply qla|apply qfa|apply qic|apply qix|apply qpk|apply qls|apply qei|apply qni|apply qad|apply qln|apply qgt|apply qnt|apply qfr|apply qto)<;>(first|exact rfl|assumption|exact Ar.mk (by omega)|exact dct (by first|assumption|omega)|exact dcf (by first|assumption|omega)|exact List.not_mem_nil|apply dc_length|apply ec_length|apply dl_length|exact nm1 (by omega)|fail))|fail) ?_)
        refine dE rfl (by exact rho_of rfl) rfl ?_
        repeat (first|apply cA|apply cB|apply cD|apply cE|apply cF|apply cG|apply cH|apply cJ|apply cM|apply cN|apply cU|refine cV rfl ?_|apply cY|refine cZ rfl rfl rfl rfl (by first|((first|apply qmv|apply qas|apply qlc|apply qla|apply qfa|apply qic|apply qix|apply qpk|apply qls|apply qei|apply qni|apply qad|apply qln|apply qgt|apply qnt|apply qfr|apply qto)<;>(first|exact rfl|assumption|exact Ar.mk (by omega)|exact dct (by first|assumption|omega)|exact dcf (by first|assumption|omega)|exact List.not_mem_nil|apply dc_length|apply ec_length|apply dl_length|exact nm1 (by omega)|fail))|fail) ?_)
        refine CG.rows2 (base := w2.heap.size) (base' := w2.heap.size) (enc := dc) (E := 31) (sz := 8) (v := v) (v' := v') (l := (l.take i).map digO) (l' := (l.take i).map (·.who)) mixed 15 [0, 1, 2, 3, 4, 5, 8, 9, 10, 11, 12, 13, 6, 7, 14] [⟨1000, 0, oD w2.heap.size ((l.take i).map digO)⟩, ⟨1001, 1, oD w2.heap.size ((l.take i).map (·.who))⟩, ⟨6, 2, oD w7.heap.size [digO l[i]]⟩, ⟨7, 0, oD w2.heap.size ((l.take i).map digO ++ [digO l[i]])⟩, ⟨14, 3, oD w7.heap.size [l[i].who]⟩] rfl hap hok1 hok2 (by kernel_rfl) (by kernel_rfl) (by repeat' (first | exact OkL.nil | refine OkL.cons ?_ ?_ | exact oP_ok | exact bP_ok)) ?_
        repeat (refine DerR.val rfl rfl rfl rfl (by first|((first|apply qmv|apply qas|apply qlc|apply qla|apply qfa|apply qic|apply qix|apply qpk|apply qls|apply qei|apply qni|apply qad|apply qln|apply qgt|apply qnt|apply qfr|apply qto)<;>(first|exact rfl|assumption|exact Ar.mk (by omega)|exact dct (by first|assumption|omega)|exact dcf (by first|assumption|omega)|exact List.not_mem_nil|apply dc_length|apply ec_length|apply dl_length|exact nm1 (by omega)|fail))|fail) ?_)
        refine DerR.call rfl rfl rfl rfl (vs := [ov l[i]]) (by repeat' (first | exact True.intro | exact rho_of rfl | refine And.intro ?_ ?_)) (fun W hk _ => rdigest_spec l[i] W) ?_
        obtain ⟨rwho, -⟩ := ec_rowsO hri
        clear hri
        repeat (refine DerR.val rfl rfl rfl rfl (by first|((first|apply qmv|apply qas|apply qlc|apply qla|apply qfa|apply qic|apply qix|apply qpk|apply qls|apply qei|apply qni|apply qad|apply qln|apply qgt|apply qnt|apply qfr|apply qto)<;>(first|exact rfl|assumption|exact Ar.mk (by omega)|exact dct (by first|assumption|omega)|exact dcf (by first|assumption|omega)|exact List.not_mem_nil|apply dc_length|apply ec_length|apply dl_length|exact nm1 (by omega)|fail))|fail) ?_)
        refine DerR.buildO [digO l[i]] dc_length rfl rfl rfl rfl rfl (by repeat' (first | exact OkL.nil | refine OkL.cons ?_ ?_ | exact oP_ok | exact bP_ok)) rfl (Nat.le_refl _) (by simp [maxLen]) (fun w => by rw [flt_one]; exact bse8 _ w) (fun v6 => ?_)
        refine DerR.append (src := 1000) ((l.take i).map digO) [digO l[i]] [(1000, (l.take i).map digO)] dc_length dc_one rfl rfl (by kernel_rfl) ⟨Nat.le_refl _, trivial⟩ rfl rfl rfl (by repeat' (first | exact OkL.nil | refine OkL.cons ?_ ?_ | exact oP_ok | exact bP_ok)) (by exact rho_of rfl) (by exact rho_of rfl) rfl rfl rfl (by rw [hl1]; simp only [maxLen, List.length_cons, List.length_nil]; omega) (by rw [hl1]; show (i + 1) * 8 ≤ _; omega) hk67.size (.tail _ (.tail _ (.head _))) (by kernel_rfl) (fun w hk hF => oP.sl dc_length (hF.get (.head _) (by kernel_rfl) rfl)) (fun v7 => ?_)
        refine DerR.buildO [l[i].who] dc_length rfl rfl rfl rfl rfl (by repeat' (first | exact OkL.nil | refine OkL.cons ?_ ?_ | exact oP_ok | exact bP_ok)) rfl (Nat.le_refl _) (by simp [maxLen]) (fun w => by rw [flt_one]; exact bse8 _ w) (fun v14 => ?_)
        refine DerR.tl (fun w8 V hok hV => ?_)
        have ho7 : w8.ownsRow w2.heap.size 31 8 v7 ((l.take i).map digO ++ [digO l[i]]).length (flt dc ((l.take i).map digO ++ [digO l[i]])) := hok.get hV (.tail _ (.head _)) rfl
        have hov : w8.ownsRow w2.heap.size 31 8 v' ((l.take i).map (·.who)).length (flt dc ((l.take i).map (·.who))) := hok.get hV (.tail _ (.tail _ (.tail _ (.head _)))) rfl
        have ho14 : w8.ownsRow w7.heap.size 31 8 v14 ([l[i].who] : List Dg).length (flt dc [l[i].who]) := hok.get hV (.head _) rfl
        have hap7 : Apart v7 v' := hok.apart hV (.tail _ (.head _)) (.tail _ (.tail _ (.tail _ (.head _)))) rfl rfl (by show (0 : Nat) ≠ 1; decide)
        have hk8 := hok.kp
        obtain ⟨a14, c14, rfl, _, hS14⟩ := Sl.own dc_length ho14 rfl
        have nb7 : b7 ∉ ownB v ++ ownB v' := fun hm => (List.mem_append.1 hm).elim (fun h => own_neb hok1 (by decide) hB b7 (ownB_mem h) (by simp)) (fun h => own_neb hok2 (by decide) hB b7 (ownB_mem h) (by simp))
        have hB8 := hB.kp hk8 nb7
        have k8 : Kp [] w2 w8 := hk67.trans_new hk8 (fun z hz => (List.mem_append.1 hz).elim (own_new hok1 (Nat.le_refl _) z) (own_new hok2 (Nat.le_refl _) z))
        refine SG.appO (enc := dc) (xs := (l.take i).map (·.who)) (ys := [l[i].who]) (base := w2.heap.size) rfl rfl rfl (by exact rho_of rfl) (by exact rho_of rfl) rfl rfl rfl rfl dc_length dc_one hov hS14 (by rw [hl2]; simp only [maxLen, List.length_cons, List.length_nil]; omega) (by rw [hl2]; show (i + 1) * 8 ≤ _; omega) k8.size (fun v15 w9 hk9 ho15 hg15 => ?_)
        have ho7 := own_kp ho7 hk9 (fun b hb hm => hap7 b hb (ownB_mem hm))
        have hap15 : Apart v7 v15 := (Apart.grow hap7.symm hg15 (hok.get hV (.tail _ (.head _)) rfl : w8.ownsRow w2.heap.size 31 8 v7 ((l.take i).map digO ++ [digO l[i]]).length (flt dc ((l.take i).map digO ++ [digO l[i]])))).symm
        have hB9 := blk_own hov (by decide) hB8 hk9
        have k9 : Kp [] w2 w9 := k8.trans_new hk9 (own_new hov (Nat.le_refl _))
        have e1 : (l.take i).map digO ++ [digO l[i]] = (l.take (i + 1)).map digO := by rw [List.take_succ_eq_append_getElem hlt, List.map_append]; rfl
        have e2 : (l.take i).map (·.who) ++ [l[i].who] = (l.take (i + 1)).map (·.who) := by rw [List.take_succ_eq_append_getElem hlt, List.map_append]; rfl
        rw [e1] at ho7
        rw [e2] at ho15
        have em1 := maxs_snoc (·.least) l i hlt
        have em2 := maxs_snoc (·.window) l i hlt
        have hri9 := (hS.kp0 (k2.trans k9)).row (List.getElem?_eq_getElem hlt)
        obtain ⟨-, -, -, q3, -, q5, -⟩ := ec_rowsO hri9
        clear hri9 rwho hok hV V hS14 ho14 hap7 hg15 hB8 hov
        obtain ⟨-, -, d2, d3, -⟩ := dl_rows hB9
        have s9 := k9.size
        have z8 := hk8.size
        have z9 := hk9.size
        generalize hst : maxs (·.least) (l.take i) = st at em1 hB9 d2
        generalize hwi : maxs (·.window) (l.take i) = wi at em2 hB9 d3
        repeat (first|apply cA|apply cB|apply cD|apply cE|apply cF|apply cG|apply cH|apply cJ|apply cM|apply cN|apply cU|refine cV rfl ?_|apply cY|refine cZ rfl rfl rfl rfl (by first|((first|apply qmv|apply qas|apply qlc|apply qla|apply qfa|apply qic|apply qix|apply qpk|apply qls|apply qei|apply qni|apply qad|apply qln|apply qgt|apply qnt|apply qfr|apply qto)<;>(first|exact rfl|assumption|exact Ar.mk (by omega)|exact dct (by first|assumption|omega)|exact dcf (by first|assumption|omega)|exact List.not_mem_nil|apply dc_length|apply ec_length|apply dl_length|exact nm1 (by omega)|fail))|fail) ?_)
        refine CG.draw0 mixed [0, 1, 2, 3, 4, 5, 6, 7] [] (by kernel_rfl) ?_
        by_cases hm1 : st < l[i].least
        all_goals
          repeat (refine dB rfl rfl rfl (by first|((first|apply qmv|apply qas|apply qlc|apply qla|apply qfa|apply qic|apply qix|apply qpk|apply qls|apply qei|apply qni|apply qad|apply qln|apply qgt|apply qnt|apply qfr|apply qto)<;>(first|exact rfl|assumption|exact Ar.mk (by omega)|exact dct (by first|assumption|omega)|exact dcf (by first|assumption|omega)|exact List.not_mem_nil|apply dc_length|apply ec_length|apply dl_length|exact nm1 (by omega)|fail))|fail) ?_)
          refine Der.fin (fun w10 hk10 _ _ => ?_)
          have hB10 := hB9.kp0 hk10
          have q3 := q3.kp0 hk10
          have q5 := q5.kp0 hk10
          repeat (first|apply cA|apply cB|apply cD|apply cE|apply cF|apply cG|apply cH|apply cJ|apply cM|apply cN|apply cU|refine cV rfl ?_|apply cY|refine cZ rfl rfl rfl rfl (by first|((first|apply qmv|apply qas|apply qlc|apply qla|apply qfa|apply qic|apply qix|apply qpk|apply qls|apply qei|apply qni|apply qad|apply qln|apply qgt|apply qnt|apply qfr|apply qto)<;>(first|exact rfl|assumption|exact Ar.mk (by omega)|exact dct (by first|assumption|omega)|exact dcf (by first|assumption|omega)|exact List.not_mem_nil|apply dc_length|apply ec_length|apply dl_length|exact nm1 (by omega)|fail))|fail) ?_)
        all_goals
          refine CG.cut_then (fun L w' => SubE [(0, .slice (some ⟨ba, oa, none⟩) l.length c), (2, .pointer (some ⟨b2, 0, none⟩)), (5, v7), (6, v15), (7, .pointer (some ⟨b7, 0, none⟩)), (8, .int .i64 (i : Int))] L ∧ Kp [b7] w9 w' ∧ Blk w' b7 (.cells (dl o.rules (.slice none 0 0) (maxs (·.least) (l.take (i + 1))) wi).toArray 48)) ?_ ?_
          · first
              | (rw [if_pos hm1] at em1
                 refine dD rfl (by exact rho_of rfl) rfl ?_
                 repeat (first|apply cA|apply cB|apply cD|apply cE|apply cF|apply cG|apply cH|apply cJ|apply cM|apply cN|apply cU|refine cV rfl ?_|apply cY|refine cZ rfl rfl rfl rfl (by first|((first|apply qmv|apply qas|apply qlc|apply qla|apply qfa|apply qic|apply qix|apply qpk|apply qls|apply qei|apply qni|apply qad|apply qln|apply qgt|apply qnt|apply qfr|apply qto)<;>(first|exact rfl|assumption|exact Ar.mk (by omega)|exact dct (by first|assumption|omega)|exact dcf (by first|assumption|omega)|exact List.not_mem_nil|apply dc_length|apply ec_length|apply dl_length|exact nm1 (by omega)|fail))|fail) ?_)
                 refine SG.store rfl rfl (by exact rho_of rfl) (by exact rho_of rfl) hB10 rfl (by show 9 + 1 ≤ _; simp [dl_length]) rfl (fun w11 hk11 hBc => ?_)
                 have hBc : Blk w11 b7 (.cells (spl (dl o.rules (.slice none 0 0) st wi) 9 [.int .i64 l[i].least]).toArray 48) := hBc
                 rw [dl_set2, ← em1] at hBc
                 repeat (first|apply cA|apply cB|apply cD|apply cE|apply cF|apply cG|apply cH|apply cJ|apply cM|apply cN|apply cU|refine cV rfl ?_|apply cY|refine cZ rfl rfl rfl rfl (by first|((first|apply qmv|apply qas|apply qlc|apply qla|apply qfa|apply qic|apply qix|apply qpk|apply qls|apply qei|apply qni|apply qad|apply qln|apply qgt|apply qnt|apply qfr|apply qto)<;>(first|exact rfl|assumption|exact Ar.mk (by omega)|exact dct (by first|assumption|omega)|exact dcf (by first|assumption|omega)|exact List.not_mem_nil|apply dc_length|apply ec_length|apply dl_length|exact nm1 (by omega)|fail))|fail) ?_)
                 exact NG.cut ⟨by (repeat' (first | exact True.intro | exact rfl | refine And.intro ?_ ?_)), hk10.any.trans hk11, hBc⟩)
              | (rw [if_neg hm1] at em1
                 refine dE rfl (by exact rho_of rfl) rfl ?_
                 repeat (first|apply cA|apply cB|apply cD|apply cE|apply cF|apply cG|apply cH|apply cJ|apply cM|apply cN|apply cU|refine cV rfl ?_|apply cY|refine cZ rfl rfl rfl rfl (by first|((first|apply qmv|apply qas|apply qlc|apply qla|apply qfa|apply qic|apply qix|apply qpk|apply qls|apply qei|apply qni|apply qad|apply qln|apply qgt|apply qnt|apply qfr|apply qto)<;>(first|exact rfl|assumption|exact Ar.mk (by omega)|exact dct (by first|assumption|omega)|exact dcf (by first|assumption|omega)|exact List.not_mem_nil|apply dc_length|apply ec_length|apply dl_length|exact nm1 (by omega)|fail))|fail) ?_)
                 exact NG.cut ⟨by (repeat' (first | exact True.intro | exact rfl | refine And.intro ?_ ?_)), hk10.any, by rw [em1]; exact hB10⟩)
          rintro L w11 ⟨hL, hk11, hB11⟩
          refine CG.to _ hL ?_
          have q6 : Row w11 ba (oa + i * 21 + 19) [.int .i64 l[i].window] := (ec_rowsO (((hS.kp0 (k2.trans k9)).row (List.getElem?_eq_getElem hlt)).kp hk11 (nm1 (by omega)))).2.2.2.2.2.1
          obtain ⟨-, -, -, d3, -⟩ := dl_rows hB11
          clear q3 q5 d2 hB10 em1 hm1 hL hk10
          repeat (first|apply cA|apply cB|apply cD|apply cE|apply cF|apply cG|apply cH|apply cJ|apply cM|apply cN|apply cU|refine cV rfl ?_|apply cY|refine cZ rfl rfl rfl rfl (by first|((first|apply qmv|apply qas|apply qlc|apply qla|apply qfa|apply qic|apply qix|apply qpk|apply qls|apply qei|apply qni|apply qad|apply qln|apply qgt|apply qnt|apply qfr|apply qto)<;>(first|exact rfl|assumption|exact Ar.mk (by omega)|exact dct (by first|assumption|omega)|exact dcf (by first|assumption|omega)|exact List.not_mem_nil|apply dc_length|apply ec_length|apply dl_length|exact nm1 (by omega)|fail))|fail) ?_)
          refine CG.draw0 mixed [0, 1, 2, 3, 4, 5, 6, 7] [] (by kernel_rfl) ?_
          by_cases hm2 : wi < l[i].window
          all_goals
            repeat (refine dB rfl rfl rfl (by first|((first|apply qmv|apply qas|apply qlc|apply qla|apply qfa|apply qic|apply qix|apply qpk|apply qls|apply qei|apply qni|apply qad|apply qln|apply qgt|apply qnt|apply qfr|apply qto)<;>(first|exact rfl|assumption|exact Ar.mk (by omega)|exact dct (by first|assumption|omega)|exact dcf (by first|assumption|omega)|exact List.not_mem_nil|apply dc_length|apply ec_length|apply dl_length|exact nm1 (by omega)|fail))|fail) ?_)
            refine Der.fin (fun w12 hk12 _ _ => ?_)
            have hB12 := hB11.kp0 hk12
            have q6 := q6.kp0 hk12
            obtain ⟨-, -, -, d3, -⟩ := dl_rows hB12
            repeat (first|apply cA|apply cB|apply cD|apply cE|apply cF|apply cG|apply cH|apply cJ|apply cM|apply cN|apply cU|refine cV rfl ?_|apply cY|refine cZ rfl rfl rfl rfl (by first|((first|apply qmv|apply qas|apply qlc|apply qla|apply qfa|apply qic|apply qix|apply qpk|apply qls|apply qei|apply qni|apply qad|apply qln|apply qgt|apply qnt|apply qfr|apply qto)<;>(first|exact rfl|assumption|exact Ar.mk (by omega)|exact dct (by first|assumption|omega)|exact dcf (by first|assumption|omega)|exact List.not_mem_nil|apply dc_length|apply ec_length|apply dl_length|exact nm1 (by omega)|fail))|fail) ?_)
            first
              | (rw [if_pos hm2] at em2
                 refine dD rfl (by exact rho_of rfl) rfl ?_
                 repeat (first|apply cA|apply cB|apply cD|apply cE|apply cF|apply cG|apply cH|apply cJ|apply cM|apply cN|apply cU|refine cV rfl ?_|apply cY|refine cZ rfl rfl rfl rfl (by first|((first|apply qmv|apply qas|apply qlc|apply qla|apply qfa|apply qic|apply qix|apply qpk|apply qls|apply qei|apply qni|apply qad|apply qln|apply qgt|apply qnt|apply qfr|apply qto)<;>(first|exact rfl|assumption|exact Ar.mk (by omega)|exact dct (by first|assumption|omega)|exact dcf (by first|assumption|omega)|exact List.not_mem_nil|apply dc_length|apply ec_length|apply dl_length|exact nm1 (by omega)|fail))|fail) ?_)
                 refine SG.store rfl rfl (by exact rho_of rfl) (by exact rho_of rfl) hB12 rfl (by show 10 + 1 ≤ _; simp [dl_length]) rfl (fun w13 hk13 hBc => ?_)
                 have hBc : Blk w13 b7 (.cells (spl (dl o.rules (.slice none 0 0) (maxs (·.least) (l.take (i + 1))) wi) 10 [.int .i64 l[i].window]).toArray 48) := hBc
                 rw [dl_set3, ← em2] at hBc
                 have k13 : Kp [b7] w9 w13 := (hk11.trans hk12.any).trans hk13
                 have z13 := k13.size
                 repeat (first|apply cA|apply cB|apply cD|apply cE|apply cF|apply cG|apply cH|apply cJ|apply cM|apply cN|apply cU|refine cV rfl ?_|apply cY|refine cZ rfl rfl rfl rfl (by first|((first|apply qmv|apply qas|apply qlc|apply qla|apply qfa|apply qic|apply qix|apply qpk|apply qls|apply qei|apply qni|apply qad|apply qln|apply qgt|apply qnt|apply qfr|apply qto)<;>(first|exact rfl|assumption|exact Ar.mk (by omega)|exact dct (by first|assumption|omega)|exact dcf (by first|assumption|omega)|exact List.not_mem_nil|apply dc_length|apply ec_length|apply dl_length|exact nm1 (by omega)|fail))|fail) ?_)
                 exact NG.round ((v7, v15), i + 1) (by (repeat' (first | exact True.intro | exact rfl | refine And.intro ?_ ?_))) ⟨by simp only; omega, k9.trans_new k13 (new1 (by omega)), by omega, hBc, own_kp ho7 k13 (own_neb ho7 (by decide) hB9), own_kp ho15 k13 (own_neb ho15 (by decide) hB9), hap15, hpw1⟩ (by simp only; omega))
              | (rw [if_neg hm2] at em2
                 refine dE rfl (by exact rho_of rfl) rfl ?_
                 have k13 : Kp [b7] w9 w12 := hk11.trans hk12.any
                 have z13 := k13.size
                 repeat (first|apply cA|apply cB|apply cD|apply cE|apply cF|apply cG|apply cH|apply cJ|apply cM|apply cN|apply cU|refine cV rfl ?_|apply cY|refine cZ rfl rfl rfl rfl (by first|((first|apply qmv|apply qas|apply qlc|apply qla|apply qfa|apply qic|apply qix|apply qpk|apply qls|apply qei|apply qni|apply qad|apply qln|apply qgt|apply qnt|apply qfr|apply qto)<;>(first|exact rfl|assumption|exact Ar.mk (by omega)|exact dct (by first|assumption|omega)|exact dcf (by first|assumption|omega)|exact List.not_mem_nil|apply dc_length|apply ec_length|apply dl_length|exact nm1 (by omega)|fail))|fail) ?_)
                 exact NG.round ((v7, v15), i + 1) (by (repeat' (first | exact True.intro | exact rfl | refine And.intro ?_ ?_))) ⟨by simp only; omega, k9.trans_new k13 (new1 (by omega)), by omega, by rw [em2]; exact hB12, own_kp ho7 k13 (own_neb ho7 (by decide) hB9), own_kp ho15 k13 (own_neb ho15 (by decide) hB9), hap15, hpw1⟩ (by simp only; omega))
    · have g1 : ¬ (i : Int) < (l.length : Int) := by omega
      rw [List.take_of_length_le (by omega)] at hok1 hok2 hB hpw
      rw [if_pos (decide_eq_true hpw)] at e0
      have lk : (l.map digO).length = l.length := List.length_map ..
      have lw : (l.map (·.who)).length = l.length := List.length_map ..
      obtain ⟨ak, ck, rfl, _, hSk⟩ := Sl.own dc_length hok1 rfl
      obtain ⟨aw, cw, rfl, _, hSw⟩ := Sl.own dc_length hok2 rfl
      have hmx := mixD_eq l
      have hg : goodDel o.rules l = ⟨o.rules, sortK (kW (mixD l)) (l.map (·.who)), maxs (·.least) l, maxs (·.window) l⟩ := rfl
      generalize maxs (·.least) l = st at hB hg
      generalize maxs (·.window) l = wi at hB hg
      generalize l.map digO = ks at hSk lk hmx
      generalize l.map (·.who) = ws at hSw lw hg
      generalize mixD l = mx at hmx hg
      clear hok1 hok2 hap hlen
      repeat (first|apply cA|apply cB|apply cD|apply cE|apply cF|apply cG|apply cH|apply cJ|apply cM|apply cN|apply cU|refine cV rfl ?_|apply cY|refine cZ rfl rfl rfl rfl (by first|((first|apply qmv|apply qas|apply qlc|apply qla|apply qfa|apply qic|apply qix|apply qpk|apply qls|apply qei|apply qni|apply qad|apply qln|apply qgt|apply qnt|apply qfr|apply qto)<;>(first|exact rfl|assumption|exact Ar.mk (by omega)|exact dct (by first|assumption|omega)|exact dcf (by first|assumption|omega)|exact List.not_mem_nil|apply dc_length|apply ec_length|apply dl_length|exact nm1 (by omega)|fail))|fail) ?_)
      refine dE rfl (by exact rho_of rfl) rfl ?_
      repeat (first|apply cA|apply cB|apply cD|apply cE|apply cF|apply cG|apply cH|apply cJ|apply cM|apply cN|apply cU|refine cV rfl ?_|apply cY|refine cZ rfl rfl rfl rfl (by first|((first|apply qmv|apply qas|apply qlc|apply qla|apply qfa|apply qic|apply qix|apply qpk|apply qls|apply qei|apply qni|apply qad|apply qln|apply qgt|apply qnt|apply qfr|apply qto)<;>(first|exact rfl|assumption|exact Ar.mk (by omega)|exact dct (by first|assumption|omega)|exact dcf (by first|assumption|omega)|exact List.not_mem_nil|apply dc_length|apply ec_length|apply dl_length|exact nm1 (by omega)|fail))|fail) ?_)
      refine SG.call rfl rfl rfl (vs := [.slice ak ks.length ck]) (by repeat' (first | exact True.intro | exact rho_of rfl | refine And.intro ?_ ?_)) ((sorted_spec (c := ck) hSk (by omega)).mono (fun e w7 hh => ?_))
      obtain ⟨v7, he, ho7, hk7⟩ := hh
      refine ⟨_, he, ?_⟩
      obtain ⟨a7, c7, rfl, _, hS7⟩ := Sl.own dc_length ho7 rfl
      refine SG.ret rfl rfl rfl (vs := [.slice a7 (sortK num ks).length c7]) (by repeat' (first | exact True.intro | exact rho_of rfl | refine And.intro ?_ ?_)) (rmany_spec c7 hS7 (by rw [(sortK_perm num ks).length_eq]; omega)) (fun w8 hk8 => ?_)
      rw [hmx]
      refine SG.alloc rfl rfl rfl (fun b10 w9 hk9 hb10 hB10 => ?_)
      refine SG.setAll (l := dc mx) rfl rfl (by exact rho_of rfl) (by exact rho_of rfl) hB10 (dc_length _) rfl (dc_one _) (fun w10 hk10 hB11 => ?_)
      have hB11 : Blk w10 b10 (.cells (dc mx).toArray 31) := hB11
      have k10 : Kp [] w6 w10 := ((hk7.trans hk8).trans hk9).trans_new hk10 (new1 (by have := hk7.size; have := hk8.size; omega))
      have s10 := k10.size
      have l10 := hB11.lt
      have l7' := hB.lt
      have hbb : b7 < b10 := by have := hk7.size; have := hk8.size; omega
      have hB := hB.kp0 k10
      repeat (first|apply cA|apply cB|apply cD|apply cE|apply cF|apply cG|apply cH|apply cJ|apply cM|apply cN|apply cU|refine cV rfl ?_|apply cY|refine cZ rfl rfl rfl rfl (by first|((first|apply qmv|apply qas|apply qlc|apply qla|apply qfa|apply qic|apply qix|apply qpk|apply qls|apply qei|apply qni|apply qad|apply qln|apply qgt|apply qnt|apply qfr|apply qto)<;>(first|exact rfl|assumption|exact Ar.mk (by omega)|exact dct (by first|assumption|omega)|exact dcf (by first|assumption|omega)|exact List.not_mem_nil|apply dc_length|apply ec_length|apply dl_length|exact nm1 (by omega)|fail))|fail) ?_)
      refine SG.call rfl rfl rfl (vs := [.slice aw ws.length cw]) (by repeat' (first | exact True.intro | exact rho_of rfl | refine And.intro ?_ ?_)) ((sorted_spec (c := cw) (hSw.kp0 k10) (by omega)).mono (fun e w11 hh => ?_))
      obtain ⟨v11, he, ho11, hk11⟩ := hh
      refine ⟨_, he, ?_⟩
      have lall : ∀ out W, Sel mx ws out W → out.length + W.length = l.length := fun out W h => by
        rw [← lw, ← h.perm.length_eq, List.length_append]
      have hB2 := hB2.kp0 k10
      clear hSk hSw hS7 ho7 hk7 hk8 hk9 hk10
      repeat (first|apply cA|apply cB|apply cD|apply cE|apply cF|apply cG|apply cH|apply cJ|apply cM|apply cN|apply cU|refine cV rfl ?_|apply cY|refine cZ rfl rfl rfl rfl (by first|((first|apply qmv|apply qas|apply qlc|apply qla|apply qfa|apply qic|apply qix|apply qpk|apply qls|apply qei|apply qni|apply qad|apply qln|apply qgt|apply qnt|apply qfr|apply qto)<;>(first|exact rfl|assumption|exact Ar.mk (by omega)|exact dct (by first|assumption|omega)|exact dcf (by first|assumption|omega)|exact List.not_mem_nil|apply dc_length|apply ec_length|apply dl_length|exact nm1 (by omega)|fail))|fail) ?_)
      refine CG.loop (X := (Value × List Dg) × (Value × List Dg)) (fun x => [(2, .pointer (some ⟨b2, 0, none⟩)), (6, x.2.1), (7, .pointer (some ⟨b7, 0, none⟩)), (10, .pointer (some ⟨b10, 0, none⟩))])
        (fun x w' => Kp [b7] w10 w' ∧ Blk w' b7 (.cells (dl o.rules x.1.1 st wi).toArray 48) ∧ w'.ownsRow w10.heap.size 31 8 x.1.1 x.1.2.length (flt dc x.1.2) ∧ w'.ownsRow w10.heap.size 31 8 x.2.1 x.2.2.length (flt dc x.2.2) ∧ Apart x.1.1 x.2.1 ∧ Sel mx ws x.1.2 x.2.2)
        (fun x => x.2.2.length) ((.slice none 0 0, []), (v11, sortK num ws)) ⟨hk11.any, hB.kp0 hk11, own_nil, ho11, fun b h => (by cases h), Sel.init mx ws⟩ (by (repeat' (first | exact True.intro | exact rfl | refine And.intro ?_ ?_))) ?_
      rintro ⟨⟨vo, out⟩, ⟨vw, W⟩⟩ w12 ⟨hk12, hC, hro, hrw, hap, hsel⟩
      simp only at hC hro hrw hap hsel
      refine CG.to [(2, .pointer (some ⟨b2, 0, none⟩)), (6, vw), (7, .pointer (some ⟨b7, 0, none⟩)), (10, .pointer (some ⟨b10, 0, none⟩))] (by (repeat' (first | exact True.intro | exact rfl | refine And.intro ?_ ?_))) ?_
      have hll := lall out W hsel
      have hB11 := hB11.kp hk12 (nm1 (by omega))
      have s12 := hk12.size
      obtain ⟨aw, cw, rfl, hcw, hSw⟩ := Sl.own dc_length hrw rfl
      by_cases hpw0 : 0 < W.length
      · have g2 : (0 : Int) < (W.length : Int) := by omega
        obtain ⟨bw, ow, rfl, hrw0⟩ := hSw.at hpw0
        repeat (first|apply cA|apply cB|apply cD|apply cE|apply cF|apply cG|apply cH|apply cJ|apply cM|apply cN|apply cU|refine cV rfl ?_|apply cY|refine cZ rfl rfl rfl rfl (by first|((first|apply qmv|apply qas|apply qlc|apply qla|apply qfa|apply qic|apply qix|apply qpk|apply qls|apply qei|apply qni|apply qad|apply qln|apply qgt|apply qnt|apply qfr|apply qto)<;>(first|exact rfl|assumption|exact Ar.mk (by omega)|exact dct (by first|assumption|omega)|exact dcf (by first|assumption|omega)|exact List.not_mem_nil|apply dc_length|apply ec_length|apply dl_length|exact nm1 (by omega)|fail))|fail) ?_)
        refine dD rfl (by exact rho_of rfl) rfl ?_
        repeat (first|apply cA|apply cB|apply cD|apply cE|apply cF|apply cG|apply cH|apply cJ|apply cM|apply cN|apply cU|refine cV rfl ?_|apply cY|refine cZ rfl rfl rfl rfl (by first|((first|apply qmv|apply qas|apply qlc|apply qla|apply qfa|apply qic|apply qix|apply qpk|apply qls|apply qei|apply qni|apply qad|apply qln|apply qgt|apply qnt|apply qfr|apply qto)<;>(first|exact rfl|assumption|exact Ar.mk (by omega)|exact dct (by first|assumption|omega)|exact dcf (by first|assumption|omega)|exact List.not_mem_nil|apply dc_length|apply ec_length|apply dl_length|exact nm1 (by omega)|fail))|fail) ?_)
        refine CG.loop (X := Nat × Nat) (fun x => [(2, .pointer (some ⟨b2, 0, none⟩)), (6, .slice (some ⟨bw, ow, none⟩) W.length cw), (7, .pointer (some ⟨b7, 0, none⟩)), (10, .pointer (some ⟨b10, 0, none⟩)), (11, .int .i64 (x.1 : Int)), (12, .int .i64 (x.2 : Int))])
          (fun x w' => x.1 < x.2 ∧ x.2 ≤ W.length ∧ Kp [] w12 w' ∧ (∀ k (h : k < W.length) (hb : x.1 < W.length), k < x.2 → num (twoI mx W[x.1]) ≤ num (twoI mx W[k])) ∧ (∀ k (h : k < W.length) (hb : x.1 < W.length), k < x.1 → num (twoI mx W[x.1]) < num (twoI mx W[k])))
          (fun x => W.length - x.2) (0, 1) ⟨by simp only; omega, by simp only; omega, Kp.refl _ _, fun k h hb hk => (by
            simp only at hk
            have : k = 0 := by omega
            subst this
            exact Nat.le_refl _), fun k h hb hk => absurd hk (Nat.not_lt_zero k)⟩ (by (repeat' (first | exact True.intro | exact rfl | refine And.intro ?_ ?_))) ?_
        rintro ⟨best, j⟩ w13 ⟨hbj, hj, hk13, hmin, hfst⟩
        simp only at hbj hj hmin hfst
        refine CG.to [(2, .pointer (some ⟨b2, 0, none⟩)), (6, .slice (some ⟨bw, ow, none⟩) W.length cw), (7, .pointer (some ⟨b7, 0, none⟩)), (10, .pointer (some ⟨b10, 0, none⟩)), (11, .int .i64 (best : Int)), (12, .int .i64 (j : Int))] (by (repeat' (first | exact True.intro | exact rfl | refine And.intro ?_ ?_))) ?_
        have hbl : best < W.length := by omega
        by_cases hjl : j < W.length
        · have g3 : (j : Int) < (W.length : Int) := by omega
          have hrj := (hSw.kp0 hk13).row (List.getElem?_eq_getElem hjl)
          have hrb := (hSw.kp0 hk13).row (List.getElem?_eq_getElem hbl)
          have hmr := Row.all (l := dc mx) (hB11.kp0 hk13) rfl
          repeat (first|apply cA|apply cB|apply cD|apply cE|apply cF|apply cG|apply cH|apply cJ|apply cM|apply cN|apply cU|refine cV rfl ?_|apply cY|refine cZ rfl rfl rfl rfl (by first|((first|apply qmv|apply qas|apply qlc|apply qla|apply qfa|apply qic|apply qix|apply qpk|apply qls|apply qei|apply qni|apply qad|apply qln|apply qgt|apply qnt|apply qfr|apply qto)<;>(first|exact rfl|assumption|exact Ar.mk (by omega)|exact dct (by first|assumption|omega)|exact dcf (by first|assumption|omega)|exact List.not_mem_nil|apply dc_length|apply ec_length|apply dl_length|exact nm1 (by omega)|fail))|fail) ?_)
          refine dD rfl (by exact rho_of rfl) rfl ?_
          repeat (first|apply cA|apply cB|apply cD|apply cE|apply cF|apply cG|apply cH|apply cJ|apply cM|apply cN|apply cU|refine cV rfl ?_|apply cY|refine cZ rfl rfl rfl rfl (by first|((first|apply qmv|apply qas|apply qlc|apply qla|apply qfa|apply qic|apply qix|apply qpk|apply qls|apply qei|apply qni|apply qad|apply qln|apply qgt|apply qnt|apply qfr|apply qto)<;>(first|exact rfl|assumption|exact Ar.mk (by omega)|exact dct (by first|assumption|omega)|exact dcf (by first|assumption|omega)|exact List.not_mem_nil|apply dc_length|apply ec_length|apply dl_length|exact nm1 (by omega)|fail))|fail) ?_)
          refine CG.draw0 mixed [0, 1, 2, 3, 4, 5, 6, 7, 8, 9, 10, 11, 12, 13, 14] [] (by kernel_rfl) ?_
          repeat (refine dB rfl rfl rfl (by first|((first|apply qmv|apply qas|apply qlc|apply qla|apply qfa|apply qic|apply qix|apply qpk|apply qls|apply qei|apply qni|apply qad|apply qln|apply qgt|apply qnt|apply qfr|apply qto)<;>(first|exact rfl|assumption|exact Ar.mk (by omega)|exact dct (by first|assumption|omega)|exact dcf (by first|assumption|omega)|exact List.not_mem_nil|apply dc_length|apply ec_length|apply dl_length|exact nm1 (by omega)|fail))|fail) ?_)
          refine Der.call rfl rfl rfl (vs := [dv mx, dv W[j]]) (by repeat' (first | exact True.intro | exact rho_of rfl | refine And.intro ?_ ?_)) (fun w _ _ => rtwo_spec mx W[j] w) ?_
          repeat (refine dB rfl rfl rfl (by first|((first|apply qmv|apply qas|apply qlc|apply qla|apply qfa|apply qic|apply qix|apply qpk|apply qls|apply qei|apply qni|apply qad|apply qln|apply qgt|apply qnt|apply qfr|apply qto)<;>(first|exact rfl|assumption|exact Ar.mk (by omega)|exact dct (by first|assumption|omega)|exact dcf (by first|assumption|omega)|exact List.not_mem_nil|apply dc_length|apply ec_length|apply dl_length|exact nm1 (by omega)|fail))|fail) ?_)
          refine Der.call rfl rfl rfl (vs := [dv (twoI mx W[j])]) (by repeat' (first | exact True.intro | exact rho_of rfl | refine And.intro ?_ ?_)) (fun w _ _ => rnum_spec _ w) ?_
          repeat (refine dB rfl rfl rfl (by first|((first|apply qmv|apply qas|apply qlc|apply qla|apply qfa|apply qic|apply qix|apply qpk|apply qls|apply qei|apply qni|apply qad|apply qln|apply qgt|apply qnt|apply qfr|apply qto)<;>(first|exact rfl|assumption|exact Ar.mk (by omega)|exact dct (by first|assumption|omega)|exact dcf (by first|assumption|omega)|exact List.not_mem_nil|apply dc_length|apply ec_length|apply dl_length|exact nm1 (by omega)|fail))|fail) ?_)
          refine Der.call rfl rfl rfl (vs := [dv mx, dv W[best]]) (by repeat' (first | exact True.intro | exact rho_of rfl | refine And.intro ?_ ?_)) (fun w _ _ => rtwo_spec mx W[best] w) ?_
          repeat (refine dB rfl rfl rfl (by first|((first|apply qmv|apply qas|apply qlc|apply qla|apply qfa|apply qic|apply qix|apply qpk|apply qls|apply qei|apply qni|apply qad|apply qln|apply qgt|apply qnt|apply qfr|apply qto)<;>(first|exact rfl|assumption|exact Ar.mk (by omega)|exact dct (by first|assumption|omega)|exact dcf (by first|assumption|omega)|exact List.not_mem_nil|apply dc_length|apply ec_length|apply dl_length|exact nm1 (by omega)|fail))|fail) ?_)
          refine Der.call rfl rfl rfl (vs := [dv (twoI mx W[best])]) (by repeat' (first | exact True.intro | exact rho_of rfl | refine And.intro ?_ ?_)) (fun w _ _ => rnum_spec _ w) ?_
          by_cases hlt2 : num (twoI mx W[j]) < num (twoI mx W[best])
          · have g4 : (num (twoI mx W[j]) : Int) < (num (twoI mx W[best]) : Int) := by omega
            repeat (refine dB rfl rfl rfl (by first|((first|apply qmv|apply qas|apply qlc|apply qla|apply qfa|apply qic|apply qix|apply qpk|apply qls|apply qei|apply qni|apply qad|apply qln|apply qgt|apply qnt|apply qfr|apply qto)<;>(first|exact rfl|assumption|exact Ar.mk (by omega)|exact dct (by first|assumption|omega)|exact dcf (by first|assumption|omega)|exact List.not_mem_nil|apply dc_length|apply ec_length|apply dl_length|exact nm1 (by omega)|fail))|fail) ?_)
            refine Der.fin (fun w14 hk14 _ _ => ?_)
            repeat (first|apply cA|apply cB|apply cD|apply cE|apply cF|apply cG|apply cH|apply cJ|apply cM|apply cN|apply cU|refine cV rfl ?_|apply cY|refine cZ rfl rfl rfl rfl (by first|((first|apply qmv|apply qas|apply qlc|apply qla|apply qfa|apply qic|apply qix|apply qpk|apply qls|apply qei|apply qni|apply qad|apply qln|apply qgt|apply qnt|apply qfr|apply qto)<;>(first|exact rfl|assumption|exact Ar.mk (by omega)|exact dct (by first|assumption|omega)|exact dcf (by first|assumption|omega)|exact List.not_mem_nil|apply dc_length|apply ec_length|apply dl_length|exact nm1 (by omega)|fail))|fail) ?_)
            refine dD rfl (by exact rho_of rfl) rfl ?_
            repeat (first|apply cA|apply cB|apply cD|apply cE|apply cF|apply cG|apply cH|apply cJ|apply cM|apply cN|apply cU|refine cV rfl ?_|apply cY|refine cZ rfl rfl rfl rfl (by first|((first|apply qmv|apply qas|apply qlc|apply qla|apply qfa|apply qic|apply qix|apply qpk|apply qls|apply qei|apply qni|apply qad|apply qln|apply qgt|apply qnt|apply qfr|apply qto)<;>(first|exact rfl|assumption|exact Ar.mk (by omega)|exact dct (by first|assumption|omega)|exact dcf (by first|assumption|omega)|exact List.not_mem_nil|apply dc_length|apply ec_length|apply dl_length|exact nm1 (by omega)|fail))|fail) ?_)
            refine NG.round (j, j + 1) (by (repeat' (first | exact True.intro | exact rfl | refine And.intro ?_ ?_))) ⟨by simp only; omega, by simp only; omega, hk13.trans hk14, fun k h hb hk => ?_, fun k h hb hk => ?_⟩ (by simp only; omega)
            · simp only at hk ⊢
              by_cases e : k = j
              · subst e; exact Nat.le_refl _
              · have := hmin k h hbl (by omega)
                omega
            · simp only at hk ⊢
              have := hmin k h hbl hk
              omega
          · have g4 : ¬ (num (twoI mx W[j]) : Int) < (num (twoI mx W[best]) : Int) := by omega
            repeat (refine dB rfl rfl rfl (by first|((first|apply qmv|apply qas|apply qlc|apply qla|apply qfa|apply qic|apply qix|apply qpk|apply qls|apply qei|apply qni|apply qad|apply qln|apply qgt|apply qnt|apply qfr|apply qto)<;>(first|exact rfl|assumption|exact Ar.mk (by omega)|exact dct (by first|assumption|omega)|exact dcf (by first|assumption|omega)|exact List.not_mem_nil|apply dc_length|apply ec_length|apply dl_length|exact nm1 (by omega)|fail))|fail) ?_)
            refine Der.fin (fun w14 hk14 _ _ => ?_)
            repeat (first|apply cA|apply cB|apply cD|apply cE|apply cF|apply cG|apply cH|apply cJ|apply cM|apply cN|apply cU|refine cV rfl ?_|apply cY|refine cZ rfl rfl rfl rfl (by first|((first|apply qmv|apply qas|apply qlc|apply qla|apply qfa|apply qic|apply qix|apply qpk|apply qls|apply qei|apply qni|apply qad|apply qln|apply qgt|apply qnt|apply qfr|apply qto)<;>(first|exact rfl|assumption|exact Ar.mk (by omega)|exact dct (by first|assumption|omega)|exact dcf (by first|assumption|omega)|exact List.not_mem_nil|apply dc_length|apply ec_length|apply dl_length|exact nm1 (by omega)|fail))|fail) ?_)
            refine dE rfl (by exact rho_of rfl) rfl ?_
            repeat (first|apply cA|apply cB|apply cD|apply cE|apply cF|apply cG|apply cH|apply cJ|apply cM|apply cN|apply cU|refine cV rfl ?_|apply cY|refine cZ rfl rfl rfl rfl (by first|((first|apply qmv|apply qas|apply qlc|apply qla|apply qfa|apply qic|apply qix|apply qpk|apply qls|apply qei|apply qni|apply qad|apply qln|apply qgt|apply qnt|apply qfr|apply qto)<;>(first|exact rfl|assumption|exact Ar.mk (by omega)|exact dct (by first|assumption|omega)|exact dcf (by first|assumption|omega)|exact List.not_mem_nil|apply dc_length|apply ec_length|apply dl_length|exact nm1 (by omega)|fail))|fail) ?_)
            refine NG.round (best, j + 1) (by (repeat' (first | exact True.intro | exact rfl | refine And.intro ?_ ?_))) ⟨by simp only; omega, by simp only; omega, hk13.trans hk14, fun k h hb hk => ?_, fun k h hb hk => hfst k h hb hk⟩ (by simp only; omega)
            simp only at hk ⊢
            by_cases e : k = j
            · subst e; omega
            · exact hmin k h hbl (by omega)
        · have g3 : ¬ (j : Int) < (W.length : Int) := by omega
          have hstep := hsel.step hbl (fun k h => hmin k h hbl (by omega)) (fun k h hk => hfst k h hbl hk)
          have hrb := (hSw.kp0 hk13).row (List.getElem?_eq_getElem hbl)
          have hC := hC.kp0 hk13
          have hro := own_kp0 hro hk13
          have hrw := own_kp0 hrw hk13
          obtain ⟨ao, co, rfl, hco, hSo⟩ := Sl.own dc_length hro rfl
          obtain ⟨-, d1, -, -, -⟩ := dl_rows hC
          have s13 := hk13.size
          repeat (first|apply cA|apply cB|apply cD|apply cE|apply cF|apply cG|apply cH|apply cJ|apply cM|apply cN|apply cU|refine cV rfl ?_|apply cY|refine cZ rfl rfl rfl rfl (by first|((first|apply qmv|apply qas|apply qlc|apply qla|apply qfa|apply qic|apply qix|apply qpk|apply qls|apply qei|apply qni|apply qad|apply qln|apply qgt|apply qnt|apply qfr|apply qto)<;>(first|exact rfl|assumption|exact Ar.mk (by omega)|exact dct (by first|assumption|omega)|exact dcf (by first|assumption|omega)|exact List.not_mem_nil|apply dc_length|apply ec_length|apply dl_length|exact nm1 (by omega)|fail))|fail) ?_)
          refine dE rfl (by exact rho_of rfl) rfl ?_
          repeat (first|apply cA|apply cB|apply cD|apply cE|apply cF|apply cG|apply cH|apply cJ|apply cM|apply cN|apply cU|refine cV rfl ?_|apply cY|refine cZ rfl rfl rfl rfl (by first|((first|apply qmv|apply qas|apply qlc|apply qla|apply qfa|apply qic|apply qix|apply qpk|apply qls|apply qei|apply qni|apply qad|apply qln|apply qgt|apply qnt|apply qfr|apply qto)<;>(first|exact rfl|assumption|exact Ar.mk (by omega)|exact dct (by first|assumption|omega)|exact dcf (by first|assumption|omega)|exact List.not_mem_nil|apply dc_length|apply ec_length|apply dl_length|exact nm1 (by omega)|fail))|fail) ?_)
          refine CG.free mixed 7 [0, 1, 2, 3, 4, 5, 6] [(6, gS w13.heap.size dc 8 [W[best]])] (by kernel_rfl) (by intro p hp y; simp at hp; rcases hp with rfl; exact gS_stab y) ?_
          repeat (refine DerX.val rfl rfl rfl rfl (by first|((first|apply qmv|apply qas|apply qlc|apply qla|apply qfa|apply qic|apply qix|apply qpk|apply qls|apply qei|apply qni|apply qad|apply qln|apply qgt|apply qnt|apply qfr|apply qto)<;>(first|exact rfl|assumption|exact Ar.mk (by omega)|exact dct (by first|assumption|omega)|exact dcf (by first|assumption|omega)|exact List.not_mem_nil|apply dc_length|apply ec_length|apply dl_length|exact nm1 (by omega)|fail))|fail) ?_)
          refine DerX.buildSlice [W[best]] dc_length rfl rfl rfl rfl rfl rfl (Nat.le_refl _) (fun w => by rw [flt_one]; exact bse8 _ w) (fun a9 c9 => ?_)
          refine DerX.tl (fun w14 hk14 hF => ?_)
          have hS9 : SlF w13.heap.size dc 8 w14 a9 c9 [W[best]] := hF _ (.head _)
          have hro14 := own_kp0 hro hk14
          refine SG.appO (enc := dc) (xs := out) (ys := [W[best]]) (base := w10.heap.size) rfl rfl rfl (by exact rho_of rfl) (by exact rho_of rfl) rfl rfl rfl rfl dc_length dc_one hro14 hS9.sl (by simp only [maxLen, List.length_cons, List.length_nil]; omega) (by show (_ + 1) * 8 ≤ _; omega) (by have := hk14.size; omega) (fun v15 w15 hk15 ho15 hg15 => ?_)
          have hrw15 := own_kp (own_kp0 hrw hk14) hk15 (apart_notin hap)
          have hap15 := Apart.grow hap hg15 (own_kp0 hrw hk14)
          have hC15 := blk_own hro14 (by decide) (hC.kp0 hk14) hk15
          have k15 : Kp [b7] w10 w15 := ((hk12.trans hk13.any).trans hk14.any).trans_new hk15 (own_new hro14 (Nat.le_refl _))
          obtain ⟨a15, c15, rfl, _, _⟩ := Sl.own dc_length ho15 rfl
          repeat (first|apply cA|apply cB|apply cD|apply cE|apply cF|apply cG|apply cH|apply cJ|apply cM|apply cN|apply cU|refine cV rfl ?_|apply cY|refine cZ rfl rfl rfl rfl (by first|((first|apply qmv|apply qas|apply qlc|apply qla|apply qfa|apply qic|apply qix|apply qpk|apply qls|apply qei|apply qni|apply qad|apply qln|apply qgt|apply qnt|apply qfr|apply qto)<;>(first|exact rfl|assumption|exact Ar.mk (by omega)|exact dct (by first|assumption|omega)|exact dcf (by first|assumption|omega)|exact List.not_mem_nil|apply dc_length|apply ec_length|apply dl_length|exact nm1 (by omega)|fail))|fail) ?_)
          refine SG.store rfl rfl (by exact rho_of rfl) (by exact rho_of rfl) hC15 rfl (by show 8 + 1 ≤ _; simp [dl_length]) rfl (fun w16 hk16 hC16 => ?_)
          have hC16 : Blk w16 b7 (.cells (spl (dl o.rules (.slice ao out.length co) st wi) 8 [.slice a15 (out ++ [W[best]]).length c15]).toArray 48) := hC16
          rw [dl_set1] at hC16
          have ho16 := own_kp ho15 hk16 (own_neb ho15 (by decide) hC15)
          have hrw16 := own_kp hrw15 hk16 (own_neb hrw15 (by decide) hC15)
          have k16 := k15.trans hk16
          have s16 := k16.size
          obtain ⟨_, _, e, _, hSw16⟩ := Sl.own dc_length hrw16 rfl
          cases e
          have hjl : (W.take best).length = best := by rw [List.length_take]; omega
          have hdl : W.length - (best + 1) = (W.drop (best + 1)).length := List.length_drop.symm
          clear hF hS9 hSo hrb d1 hSw hmin hfst
          repeat (first|apply cA|apply cB|apply cD|apply cE|apply cF|apply cG|apply cH|apply cJ|apply cM|apply cN|apply cU|refine cV rfl ?_|apply cY|refine cZ rfl rfl rfl rfl (by first|((first|apply qmv|apply qas|apply qlc|apply qla|apply qfa|apply qic|apply qix|apply qpk|apply qls|apply qei|apply qni|apply qad|apply qln|apply qgt|apply qnt|apply qfr|apply qto)<;>(first|exact rfl|assumption|exact Ar.mk (by omega)|exact dct (by first|assumption|omega)|exact dcf (by first|assumption|omega)|exact List.not_mem_nil|apply dc_length|apply ec_length|apply dl_length|exact nm1 (by omega)|fail))|fail) ?_)
          refine CG.rows mixed 9 [1, 2, 3, 5, 6, 7, 8, 0, 4] [⟨0, 0, oD w16.heap.size []⟩, ⟨4, 0, oD w16.heap.size ([] ++ W.take best)⟩] (by kernel_rfl) (by kernel_rfl) (by kernel_rfl) (OkL.all (by repeat' (first | exact OkL.nil | refine OkL.cons ?_ ?_ | exact oP_ok | exact bP_ok))) ?_
          repeat (refine DerR.val rfl rfl rfl rfl (by first|((first|apply qmv|apply qas|apply qlc|apply qla|apply qfa|apply qic|apply qix|apply qpk|apply qls|apply qei|apply qni|apply qad|apply qln|apply qgt|apply qnt|apply qfr|apply qto)<;>(first|exact rfl|assumption|exact Ar.mk (by omega)|exact dct (by first|assumption|omega)|exact dcf (by first|assumption|omega)|exact List.not_mem_nil|apply dc_length|apply ec_length|apply dl_length|exact nm1 (by omega)|fail))|fail) ?_)
          refine DerR.val rfl rfl rfl rfl (qfr (j := best + 1) rfl rfl (by omega) ⟨by omega⟩) ?_
          refine DerR.buildO [] dc_length rfl rfl rfl rfl rfl (by repeat' (first | exact OkL.nil | refine OkL.cons ?_ ?_ | exact oP_ok | exact bP_ok)) rfl (Nat.le_refl _) (by simp) bse0 (fun v0 => ?_)
          refine DerR.append (src := 0) [] (W.take best) [(0, [])] dc_length dc_one rfl rfl (by kernel_rfl) ⟨Nat.le_refl _, trivial⟩ rfl rfl rfl (by repeat' (first | exact OkL.nil | refine OkL.cons ?_ ?_ | exact oP_ok | exact bP_ok)) (by exact rho_of rfl) (by exact rho_of rfl) rfl rfl rfl (by simp only [maxLen, List.length_nil]; omega) (by rw [hjl]; show (0 + best) * 8 ≤ _; omega) (Nat.le_refl _) (.head _) (by kernel_rfl) (fun w hk hF => ⟨_, _, by rw [hjl], (hSw16.kp0 hk).take best⟩) (fun v4 => ?_)
          refine DerR.tl (fun w17 V hok hV => ?_)
          have ho4 : w17.ownsRow w16.heap.size 31 8 v4 (W.take best).length (flt dc (W.take best)) := hok.get hV (.head _) rfl
          refine SG.appO (enc := dc) (xs := W.take best) (ys := W.drop (best + 1)) (base := w16.heap.size) rfl rfl rfl (by exact rho_of rfl) (by exact rho_of rfl) hdl rfl rfl rfl dc_length dc_one ho4 (sl_drop (hSw16.kp0 hok.kp) hcw) (by rw [← hdl, hjl]; simp only [maxLen]; omega) (by rw [← hdl, hjl]; show (best + _) * 8 ≤ _; omega) hok.kp.size (fun v18 w18 hk18 ho18 _ => ?_)
          have k18 : Kp [] w16 w18 := hok.kp.trans_new hk18 (own_new ho4 (Nat.le_refl _))
          repeat (first|apply cA|apply cB|apply cD|apply cE|apply cF|apply cG|apply cH|apply cJ|apply cM|apply cN|apply cU|refine cV rfl ?_|apply cY|refine cZ rfl rfl rfl rfl (by first|((first|apply qmv|apply qas|apply qlc|apply qla|apply qfa|apply qic|apply qix|apply qpk|apply qls|apply qei|apply qni|apply qad|apply qln|apply qgt|apply qnt|apply qfr|apply qto)<;>(first|exact rfl|assumption|exact Ar.mk (by omega)|exact dct (by first|assumption|omega)|exact dcf (by first|assumption|omega)|exact List.not_mem_nil|apply dc_length|apply ec_length|apply dl_length|exact nm1 (by omega)|fail))|fail) ?_)
          refine NG.round ((.slice a15 (out ++ [W[best]]).length c15, out ++ [W[best]]), (v18, W.take best ++ W.drop (best + 1))) (by (repeat' (first | exact True.intro | exact rfl | refine And.intro ?_ ?_))) ⟨k16.trans k18.any, hC16.kp0 k18, own_kp0 ho16 k18, own_mono ho18 s16, apart_new ho16 ho18, hstep⟩ (by simp only [List.length_append]; omega)
      · have g2 : ¬ (0 : Int) < (W.length : Int) := by omega
        have hW : W = [] := List.length_eq_zero_iff.1 (by omega)
        subst hW
        have hout := hsel.done
        obtain ⟨ao, co, rfl, hco, hSo⟩ := Sl.own dc_length hro rfl
        have hrd := Row.all (l := dl o.rules (.slice ao out.length co) st wi) hC rfl
        have hB2 := hB2.kp hk12 (nm1 (by omega))
        repeat (first|apply cA|apply cB|apply cD|apply cE|apply cF|apply cG|apply cH|apply cJ|apply cM|apply cN|apply cU|refine cV rfl ?_|apply cY|refine cZ rfl rfl rfl rfl (by first|((first|apply qmv|apply qas|apply qlc|apply qla|apply qfa|apply qic|apply qix|apply qpk|apply qls|apply qei|apply qni|apply qad|apply qln|apply qgt|apply qnt|apply qfr|apply qto)<;>(first|exact rfl|assumption|exact Ar.mk (by omega)|exact dct (by first|assumption|omega)|exact dcf (by first|assumption|omega)|exact List.not_mem_nil|apply dc_length|apply ec_length|apply dl_length|exact nm1 (by omega)|fail))|fail) ?_)
        refine dE rfl (by exact rho_of rfl) rfl ?_
        repeat (first|apply cA|apply cB|apply cD|apply cE|apply cF|apply cG|apply cH|apply cJ|apply cM|apply cN|apply cU|refine cV rfl ?_|apply cY|refine cZ rfl rfl rfl rfl (by first|((first|apply qmv|apply qas|apply qlc|apply qla|apply qfa|apply qic|apply qix|apply qpk|apply qls|apply qei|apply qni|apply qad|apply qln|apply qgt|apply qnt|apply qfr|apply qto)<;>(first|exact rfl|assumption|exact Ar.mk (by omega)|exact dct (by first|assumption|omega)|exact dcf (by first|assumption|omega)|exact List.not_mem_nil|apply dc_length|apply ec_length|apply dl_length|exact nm1 (by omega)|fail))|fail) ?_)
        refine SG.setAll (old := dl zd (.slice none 0 0) 0 0) (l := dl o.rules (.slice ao out.length co) st wi) rfl rfl (by exact rho_of rfl) (by exact rho_of rfl) hB2 (dl_length _ _ _ _) (dl_length _ _ _ _) (dl_one _ _ _ _ _ _) (fun wz hkz hBz => ?_)
        have hrz : Row wz b2 0 (dl o.rules (.slice ao out.length co) st wi) := Row.all hBz rfl
        have hoz := own_kp hro hkz (own_neb hro (by decide) hB2)
        repeat (first|apply cA|apply cB|apply cD|apply cE|apply cF|apply cG|apply cH|apply cJ|apply cM|apply cN|apply cU|refine cV rfl ?_|apply cY|refine cZ rfl rfl rfl rfl (by first|((first|apply qmv|apply qas|apply qlc|apply qla|apply qfa|apply qic|apply qix|apply qpk|apply qls|apply qei|apply qni|apply qad|apply qln|apply qgt|apply qnt|apply qfr|apply qto)<;>(first|exact rfl|assumption|exact Ar.mk (by omega)|exact dct (by first|assumption|omega)|exact dcf (by first|assumption|omega)|exact List.not_mem_nil|apply dc_length|apply ec_length|apply dl_length|exact nm1 (by omega)|fail))|fail) ?_)
        refine ret2 (Or.inl rfl) Tryz.results29 (ResV.agg rfl rfl hrz (dl_length _ _ _ _)) (by first | exact ResV.tmp rfl | exact ResV.agg rfl rfl (by assumption) (by first | exact dc_length _ | exact nc_length _ | exact rc_length _ _ _ | exact ec_length _ | exact dl_length _ _ _ _ | rfl) | exact ResV.cell rfl rfl (by assumption)) ?_
        rw [e0, hg, ← hout]
        have s6' := k6.size
        exact ⟨_, rfl, ⟨_, rfl, own_mono hoz (by omega)⟩, ((k6.trans k10).trans_new hk12 (new1 (by omega))).trans_new hkz (new1 (by omega))⟩
end Go.Proofs.YtnoipmimddoioaaGreat
namespace Go.Proofs.YtnoipmimddoioaaGreat
open Go.Proofs Go.Shelf Go.Sort
set_option linter.unusedVariables false
/-- What is taken in the end, from a state of the search on. -/
def grabG (s : Int) (t r : List Ofr) : Option (List Ofr) := if (t.length : Int) = s then some t else grab s t r
def orD (x : Option (List Ofr)) (r : List Ofr) : Option (List Ofr) := match x with
  | some t => some t
  | none => findD r
theorem grabG_one {o : Ofr} (h : 2 ≤ o.seats) (r : List Ofr) : grabG o.seats [o] r = grab o.seats [o] r := if_neg (by simp; omega)
theorem grabG_end (s : Int) (t r : List Ofr) (h : (t.length : Int) = s) : grabG s t r = some t := if_pos h
theorem grabG_nil (s : Int) (t : List Ofr) (h : ¬ (t.length : Int) = s) : grabG s t [] = none := by
  unfold grabG
  rw [if_neg h, grab_nil]
theorem grabG_step {s : Int} {t : List Ofr} {o : Ofr} {r : List Ofr} (h : ¬ (t.length : Int) = s) : grabG s t (o :: r) = if t.all (fun x => decide (fitP x o)) then grabG s (t ++ [o]) r else grabG s t r := by
  have e : t.all (fun x => decide (fitP x o)) = !t.any (fun x => !decide (fitP x o)) := by simp [List.all_eq_not_any_not]
  rw [e]
  unfold grabG
  rw [if_neg h]
  cases ha : t.any (fun x => !decide (fitP x o)) with
  | true =>
    rw [grab_no ha, if_neg (by simp), if_neg h]
  | false =>
    rw [if_pos (by simp)]
    by_cases h2 : ((t ++ [o]).length : Int) = s
    · rw [grab_end ha h2, if_pos h2]
    · rw [grab_on ha h2, if_neg h2]
theorem findD_stepG {l : List Ofr} {i : Nat} (h : i < l.length) (h2 : 2 ≤ l[i].seats) : findD (l.drop i) = orD (grabG l[i].seats [l[i]] (l.drop (i + 1))) (l.drop (i + 1)) := by
  rw [findD_step h, grabG_one h2]
  rfl
def dropL (d : List Dg) (l : List Ofr) : List Ofr := l.filter (fun x => !decide (x.who ∈ d))
theorem dropL_nil (l : List Ofr) : dropL [] l = l := by simp [dropL]
theorem dropL_snoc (d : List Dg) (e : Dg) (l : List Ofr) : whoL e (dropL d l) = dropL (d ++ [e]) l := by
  unfold whoL dropL
  rw [List.filter_filter]
  refine List.filter_congr (fun x _ => ?_)
  by_cases h1 : x.who = e <;> by_cases h2 : x.who ∈ d <;> simp [h1, h2]
theorem inj_of_nd {l : List Ofr} (h : (l.map (·.who)).Nodup) : ∀ {x y : Ofr}, x ∈ l → y ∈ l → x.who = y.who → x = y := by
  induction l with
  | nil => intro x y hx; cases hx
  | cons a l ih =>
    intro x y hx hy e
    rw [List.map_cons, List.nodup_cons] at h
    rcases List.mem_cons.1 hx with h1 | h1 <;> rcases List.mem_cons.1 hy with h2 | h2
    · rw [h1, h2]
    · exact absurd (List.mem_map.2 ⟨y, h2, by rw [← e, h1]⟩) h.1
    · exact absurd (List.mem_map.2 ⟨x, h1, by rw [e, h2]⟩) h.1
    · exact ih h.2 h1 h2 e
theorem dropL_all {l t : List Ofr} (h : Wait l) (hs : t.Sublist l) : dropL (t.map (·.who)) l = l.filter (fun x => !decide (x ∈ t)) := by
  unfold dropL
  refine List.filter_congr (fun x hx => ?_)
  congr 1
  refine decide_eq_decide.2 ⟨fun hm => ?_, fun hm => List.mem_map.2 ⟨x, hm, rfl⟩⟩
  obtain ⟨y, hy, e⟩ := List.mem_map.1 hm
  exact inj_of_nd h.nd (hs.subset hy) hx e ▸ hy
theorem lateL_sub (now : Int) (l : List Ofr) : (lateL now l).Sublist l := List.filter_sublist
theorem Sl.kpN {α : Type} {enc : α → List Value} {sz : Nat} {S : List Nat} {w w' : World} {a : Option Addr} {l : List α} (h : Sl enc sz w a l) (hk : Kp S w w') (hb : l ≠ [] → ∀ b off, a = some ⟨b, off, none⟩ → b ∉ S) : Sl enc sz w' a l := by
  cases l with
  | nil => exact Sl.nil
  | cons x l => exact h.kp hk (hb (by simp))
theorem Sl.ltN {α : Type} {enc : α → List Value} {sz : Nat} {w : World} {a : Option Addr} {l : List α} (h : Sl enc sz w a l) (hn : l ≠ []) : ∀ b off, a = some ⟨b, off, none⟩ → b < w.heap.size := fun b off e => by
  obtain ⟨b', off', e', hr⟩ := h.at (List.length_pos_iff.2 hn)
  rw [e] at e'
  cases e'
  exact hr.lt
theorem own_geA {w : World} {base n cap : Nat} {a : Option Addr} {sz : Nat} {T : TypeId} {xs : List Value} (ho : w.ownsRow base T sz (.slice a n cap) n xs) : ∀ b off, a = some ⟨b, off, none⟩ → base ≤ b := by
  intro b off e
  subst e
  rcases ho.2 with ⟨h, _⟩ | ⟨g, c, cur, h, hb, _⟩
  · cases h
  · cases h
    exact hb
theorem own_neb' {w : World} {base n : Nat} {v : Value} {sz z : Nat} {T : TypeId} {xs : List Value} (ho : w.ownsRow base T sz v n xs) (hz : z < base) : ∀ b, v.ownBlock = some b → b ∉ [z] := fun b hb => nm1 (by have := own_geB ho b hb; omega)
theorem own_neb2 {w : World} {base n : Nat} {v : Value} {sz z y : Nat} {T : TypeId} {xs : List Value} (ho : w.ownsRow base T sz v n xs) (hz : z < base) (hy : y < base) : ∀ b, v.ownBlock = some b → b ∉ [z, y] := fun b hb => nm2 (by have := own_geB ho b hb; omega) (by have := own_geB ho b hb; omega)
theorem ni1 {x a b c : Nat} (h : x ∉ [a, b, c]) : x ∉ [a] := fun hm => h (by simp at hm; simp [hm])
theorem ni23 {x a b c : Nat} (h : x ∉ [a, b, c]) : x ∉ [b, c] := fun hm => h (List.mem_cons_of_mem _ hm)
theorem all_snoc {α : Type} (p : α → Bool) {l : List α} {i : Nat} (h : i < l.length) : (l.take (i + 1)).all p = ((l.take i).all p && p l[i]) := by
  rw [List.take_succ_eq_append_getElem h, List.all_append]
  simp
theorem ret4 {P : Program} {n : Nat} {L : Env} {w : World} {fn : Func} {R : Ending → World → Prop} {e : Exit} (he : e = .ret ∨ e = .normal) {r r' r'' r3 : ResultVar} (hrs : fn.results = #[r, r', r'', r3]) {v v' v'' v3 : Value} (h : ResV P L w r v) (h' : ResV P L w r' v') (h'' : ResV P L w r'' v'') (h3 : ResV P L w r3 v3) (hR : R (.returned (.tuple #[v, v', v'', v3])) w) : NG n e (bodyPost P fn R) L w := ret_any he (rs := [r, r', r'', r3]) (vs := [v, v', v'', v3]) hrs ⟨h, h', h'', h3, True.intro⟩ hR
theorem brz (w : World) : (Instr.build 48 #[]).run Tryz.prog w = .ok (dealV zd (.slice none 0 0) 0 0) w := by kernel_rfl
attribute [local irreducible] CG NG SG Vals Der Row Blk MapIs IterAt addI xorI orI andI shlI shrI mulI twoI cmpD cmpW kW digO manyI mixD sortK maxs dealOf DerR
set_option maxHeartbeats 32000000 in
theorem rmatch_spec {w : World} {l : List Ofr} {a : Option Addr} {c : Nat} (room now : Int) (hS : Sl ec 21 w a l) (hl : l.length ≤ 1000) (hlc : l.length ≤ c) (hT : Ty 33 w a l) (hW : Wait l) : Calls Tryz.prog 11 #[lv room (.slice a l.length c), .int .i64 now] w (fun e w' => Kp [] w w' ∧
    ((findD (lateL now l) = none ∧ e = .returned (.tuple #[lv room (.slice a l.length c), dealV zd (.slice none 0 0) 0 0, .slice none 0 0, .bool false])) ∨
    ∃ t vd at' ct a' c', findD (lateL now l) = some t ∧ e = .returned (.tuple #[lv room (.slice a' (l.filter (fun x => !decide (x ∈ t))).length c'), vd, .slice at' t.length ct, .bool true]) ∧ DealAt w w' 31 vd (dealOf t).1 ∧ Sl ec 21 w' at' t ∧ Sl ec 21 w' a' (l.filter (fun x => !decide (x ∈ t))) ∧ (l.filter (fun x => !decide (x ∈ t))).length ≤ c' ∧ Ty 33 w' at' t ∧ Ty 33 w' a' (l.filter (fun x => !decide (x ∈ t))))) := by
  refine enter2 Tryz.func11 rfl Tryz.ntmps11 rfl ?_
  have hKl := lateL_le now l
  have hKs := lateL_sub now l
  have hra := fun W (h : Kp [] w W) => rall_spec room now (hS.kp0 h) (c := c) (by omega)
  generalize lateL now l = K at hKl hKs hra
  have hKok : ∀ x ∈ K, x.Ok := fun x hx => hW.ok x (hKs.subset hx)
  have hsub := fun t h => (findD_some (l := K) (u := t) h).1
  repeat (first|apply cA|apply cB|apply cD|apply cE|apply cF|apply cG|apply cH|apply cJ|apply cM|apply cN|apply cU|refine cV rfl ?_|apply cY|refine cZ rfl rfl rfl rfl (by first|((first|apply qmv|apply qas|apply qlc|apply qla|apply qfa|apply qix|apply qpk|apply qls|apply qei|apply qad|apply qln|apply qxt)<;>(first|exact rfl|assumption|exact Ar.mk (by omega)|exact dct (by first|assumption|omega)|exact dcf (by first|assumption|omega)|exact List.not_mem_nil|apply dc_length|apply ec_length|apply dl_length|exact nm1 (by omega)|fail))|fail) ?_)
  refine SG.box rfl rfl rfl (by exact rho_of rfl) (fun b2 w1 hk1 hb2 hB2 => ?_)
  have hB2 : Blk w1 b2 (.cells #[.int .i64 room, .slice a l.length c] 30) := hB2
  have l2 := hB2.lt
  repeat (first|apply cA|apply cB|apply cD|apply cE|apply cF|apply cG|apply cH|apply cJ|apply cM|apply cN|apply cU|refine cV rfl ?_|apply cY|refine cZ rfl rfl rfl rfl (by first|((first|apply qmv|apply qas|apply qlc|apply qla|apply qfa|apply qix|apply qpk|apply qls|apply qei|apply qad|apply qln|apply qxt)<;>(first|exact rfl|assumption|exact Ar.mk (by omega)|exact dct (by first|assumption|omega)|exact dcf (by first|assumption|omega)|exact List.not_mem_nil|apply dc_length|apply ec_length|apply dl_length|exact nm1 (by omega)|fail))|fail) ?_)
  refine SG.alloc rfl rfl rfl (fun b4 w2 hk2 hb4 hB4 => ?_)
  have hB4 : Blk w2 b4 (.cells #[.int .i64 0, .slice none 0 0] 30) := hB4
  have l4 := hB4.lt
  refine SG.alloc rfl rfl rfl (fun b5 w3 hk3 hb5 hB5 => ?_)
  have hB5 : Blk w3 b5 (.cells (dl zd (.slice none 0 0) 0 0).toArray 48) := hB5
  have l5 := hB5.lt
  have hB2 := (hB2.kp0 hk2).kp0 hk3
  have hB4 := hB4.kp0 hk3
  have k3 := (hk1.trans hk2).trans hk3
  have s1 := hk1.size
  have s2 := hk2.size
  have s3 := hk3.size
  obtain ⟨-, -, r2⟩ := lv_rows hB2
  repeat (first|apply cA|apply cB|apply cD|apply cE|apply cF|apply cG|apply cH|apply cJ|apply cM|apply cN|apply cU|refine cV rfl ?_|apply cY|refine cZ rfl rfl rfl rfl (by first|((first|apply qmv|apply qas|apply qlc|apply qla|apply qfa|apply qix|apply qpk|apply qls|apply qei|apply qad|apply qln|apply qxt)<;>(first|exact rfl|assumption|exact Ar.mk (by omega)|exact dct (by first|assumption|omega)|exact dcf (by first|assumption|omega)|exact List.not_mem_nil|apply dc_length|apply ec_length|apply dl_length|exact nm1 (by omega)|fail))|fail) ?_)
  refine SG.call rfl rfl rfl (vs := [lv room (.slice a l.length c), .int .i64 now]) (by repeat' (first | exact True.intro | exact rho_of rfl | refine And.intro ?_ ?_)) ((hra w3 k3).mono (fun e w4 hh => ?_))
  obtain ⟨vo, he, hoo, hk4⟩ := hh
  refine ⟨_, he, ?_⟩
  obtain ⟨ao, co, rfl, hco, hSo⟩ := Sl.own ec_length hoo rfl
  have hB2 := hB2.kp0 hk4
  have hB4 := hB4.kp0 hk4
  have hB5 := hB5.kp0 hk4
  have k4 := k3.trans hk4
  have s4 := hk4.size
  clear r2 hra hoo
  repeat (first|apply cA|apply cB|apply cD|apply cE|apply cF|apply cG|apply cH|apply cJ|apply cM|apply cN|apply cU|refine cV rfl ?_|apply cY|refine cZ rfl rfl rfl rfl (by first|((first|apply qmv|apply qas|apply qlc|apply qla|apply qfa|apply qix|apply qpk|apply qls|apply qei|apply qad|apply qln|apply qxt)<;>(first|exact rfl|assumption|exact Ar.mk (by omega)|exact dct (by first|assumption|omega)|exact dcf (by first|assumption|omega)|exact List.not_mem_nil|apply dc_length|apply ec_length|apply dl_length|exact nm1 (by omega)|fail))|fail) ?_)
  refine CG.loop (X := Nat) (fun i => [(2, .pointer (some ⟨b2, 0, none⟩)), (4, .pointer (some ⟨b4, 0, none⟩)), (5, .pointer (some ⟨b5, 0, none⟩)), (8, .slice ao K.length co), (9, .int .i64 (i : Int))])
    (fun i w' => i ≤ K.length ∧ Kp [] w4 w' ∧ findD (K.drop i) = findD K) (fun i => K.length - i) 0 ⟨Nat.zero_le _, Kp.refl _ _, rfl⟩ (by (repeat' (first | exact True.intro | exact rfl | refine And.intro ?_ ?_))) ?_
  rintro i w5 ⟨hi, hk5, hfi⟩
  have s5 := hk5.size
  have hB2 := hB2.kp0 hk5
  have hB4 := hB4.kp0 hk5
  have hB5 := hB5.kp0 hk5
  have k5 := k4.trans hk5
  by_cases hlt : i < K.length
  · have g1 : (i : Int) < (K.length : Int) := by omega
    obtain ⟨bz, oz, rfl, hrz⟩ := (hSo.kp0 hk5).at hlt
    have hs2 := (hKok _ (List.getElem_mem hlt)).s1
    rw [findD_stepG hlt hs2] at hfi
    have hgf : ∀ W, Kp [] w5 W → Row W bz (oz + i * 21) (ec K[i]) := fun W hk => hrz.kp0 hk
    generalize hfo : K[i] = fo at hrz hfi hs2 hgf
    repeat (first|apply cA|apply cB|apply cD|apply cE|apply cF|apply cG|apply cH|apply cJ|apply cM|apply cN|apply cU|refine cV rfl ?_|apply cY|refine cZ rfl rfl rfl rfl (by first|((first|apply qmv|apply qas|apply qlc|apply qla|apply qfa|apply qix|apply qpk|apply qls|apply qei|apply qad|apply qln|apply qxt)<;>(first|exact rfl|assumption|exact Ar.mk (by omega)|exact dct (by first|assumption|omega)|exact dcf (by first|assumption|omega)|exact List.not_mem_nil|apply dc_length|apply ec_length|apply dl_length|exact nm1 (by omega)|fail))|fail) ?_)
    refine dD rfl (by exact rho_of rfl) rfl ?_
    repeat (first|apply cA|apply cB|apply cD|apply cE|apply cF|apply cG|apply cH|apply cJ|apply cM|apply cN|apply cU|refine cV rfl ?_|apply cY|refine cZ rfl rfl rfl rfl (by first|((first|apply qmv|apply qas|apply qlc|apply qla|apply qfa|apply qix|apply qpk|apply qls|apply qei|apply qad|apply qln|apply qxt)<;>(first|exact rfl|assumption|exact Ar.mk (by omega)|exact dct (by first|assumption|omega)|exact dcf (by first|assumption|omega)|exact List.not_mem_nil|apply dc_length|apply ec_length|apply dl_length|exact nm1 (by omega)|fail))|fail) ?_)
    refine SG.buildSlice rfl rfl rfl rfl (bsO _) (fun bs w6 hk6 hbs hBs => ?_)
    have hos : w6.ownsRow w5.heap.size 33 21 (.slice (some ⟨bs, 0, none⟩) 1 1) [fo].length (flt ec [fo]) := by
      have : Blk w6 bs (.cells (flt ec [fo]).toArray 33) := by rw [flt_one]; exact hBs
      exact own_made ec_length this hbs (n := 1) rfl (by simp [maxLen])
    clear hrz hBs
    repeat (first|apply cA|apply cB|apply cD|apply cE|apply cF|apply cG|apply cH|apply cJ|apply cM|apply cN|apply cU|refine cV rfl ?_|apply cY|refine cZ rfl rfl rfl rfl (by first|((first|apply qmv|apply qas|apply qlc|apply qla|apply qfa|apply qix|apply qpk|apply qls|apply qei|apply qad|apply qln|apply qxt)<;>(first|exact rfl|assumption|exact Ar.mk (by omega)|exact dct (by first|assumption|omega)|exact dcf (by first|assumption|omega)|exact List.not_mem_nil|apply dc_length|apply ec_length|apply dl_length|exact nm1 (by omega)|fail))|fail) ?_)
    refine CG.loop (X := Value × List Ofr × Nat) (fun x => [(2, .pointer (some ⟨b2, 0, none⟩)), (4, .pointer (some ⟨b4, 0, none⟩)), (5, .pointer (some ⟨b5, 0, none⟩)), (8, .slice (some ⟨bz, oz, none⟩) K.length co), (9, .int .i64 (i : Int)), (10, x.1), (11, .int .i64 (x.2.2 : Int))])
      (fun x w' => i < x.2.2 ∧ x.2.2 ≤ K.length ∧ x.2.1.length ≤ x.2.2 ∧ (x.2.1.length : Int) ≤ fo.seats ∧ Kp [] w5 w' ∧ w'.ownsRow w5.heap.size 33 21 x.1 x.2.1.length (flt ec x.2.1) ∧ orD (grabG fo.seats x.2.1 (K.drop x.2.2)) (K.drop (i + 1)) = findD K) (fun x => K.length - x.2.2) (.slice (some ⟨bs, 0, none⟩) 1 1, [fo], i + 1) ⟨by simp only; omega, by simp only; omega, by simp, by simp; omega, hk6, hos, hfi⟩ (by (repeat' (first | exact True.intro | exact rfl | refine And.intro ?_ ?_))) ?_
    clear hfi hos hk6
    rintro ⟨tv, t, k⟩ w7 ⟨hik, hk, htk, hts, hk7, hot, hgr⟩
    simp only at hik hk htk hts hot hgr
    refine CG.to [(2, .pointer (some ⟨b2, 0, none⟩)), (4, .pointer (some ⟨b4, 0, none⟩)), (5, .pointer (some ⟨b5, 0, none⟩)), (8, .slice (some ⟨bz, oz, none⟩) K.length co), (9, .int .i64 (i : Int)), (10, tv), (11, .int .i64 (k : Int))] (by (repeat' (first | exact True.intro | exact rfl | refine And.intro ?_ ?_))) ?_
    obtain ⟨tva, tvc, rfl, htc, hSt⟩ := Sl.own ec_length hot rfl
    have s7 := hk7.size
    have hrf := hgf w7 hk7
    obtain ⟨-, -, q2, -⟩ := ec_rowsO hrf
    have hrk := fun (h : k < K.length) => ((hSo.kp0 (hk5.trans hk7)).row (List.getElem?_eq_getElem h))
    by_cases hgo : k < K.length ∧ (t.length : Int) < fo.seats
    · obtain ⟨hkl, hts2⟩ := hgo
      have g2 : (k : Int) < (K.length : Int) := by omega
      have hrk := hrk hkl
      rw [List.drop_eq_getElem_cons hkl, grabG_step (by omega)] at hgr
      generalize K[k] = o at hrk hgr
      clear hrf
      repeat (first | first|apply cA|apply cB|apply cD|apply cE|apply cF|apply cG|apply cH|apply cJ|apply cM|apply cN|apply cU|refine cV rfl ?_|apply cY|refine cZ rfl rfl rfl rfl (by first|((first|apply qmv|apply qas|apply qlc|apply qla|apply qfa|apply qix|apply qpk|apply qls|apply qei|apply qad|apply qln|apply qxt)<;>(first|exact rfl|assumption|exact Ar.mk (by omega)|exact dct (by first|assumption|omega)|exact dcf (by first|assumption|omega)|exact List.not_mem_nil|apply dc_length|apply ec_length|apply dl_length|exact nm1 (by omega)|fail))|fail) ?_ | refine dA rfl rfl ?_)
      refine dD rfl (by exact rho_of rfl) rfl ?_
      clear q2
      repeat (first|apply cA|apply cB|apply cD|apply cE|apply cF|apply cG|apply cH|apply cJ|apply cM|apply cN|apply cU|refine cV rfl ?_|apply cY|refine cZ rfl rfl rfl rfl (by first|((first|apply qmv|apply qas|apply qlc|apply qla|apply qfa|apply qix|apply qpk|apply qls|apply qei|apply qad|apply qln|apply qxt)<;>(first|exact rfl|assumption|exact Ar.mk (by omega)|exact dct (by first|assumption|omega)|exact dcf (by first|assumption|omega)|exact List.not_mem_nil|apply dc_length|apply ec_length|apply dl_length|exact nm1 (by omega)|fail))|fail) ?_)
      refine CG.loop (X := Nat) (fun n => [(2, .pointer (some ⟨b2, 0, none⟩)), (4, .pointer (some ⟨b4, 0, none⟩)), (5, .pointer (some ⟨b5, 0, none⟩)), (8, .slice (some ⟨bz, oz, none⟩) K.length co), (9, .int .i64 (i : Int)), (10, .slice tva t.length tvc), (11, .int .i64 (k : Int)), (12, .bool ((t.take n).all (fun x => decide (fitP x o)))), (13, .int .i64 (n : Int))])
        (fun n w' => n ≤ t.length ∧ Kp [] w7 w') (fun n => t.length - n) 0 ⟨Nat.zero_le _, Kp.refl _ _⟩ (by (repeat' (first | exact True.intro | exact rfl | refine And.intro ?_ ?_))) ?_
      rintro n w8 ⟨hn, hk8⟩
      by_cases hnt : n < t.length
      · have g3 : (n : Int) < (t.length : Int) := by omega
        have hsn := all_snoc (fun x => decide (fitP x o)) hnt
        obtain ⟨by', oy, rfl, hry⟩ := (hSt.kp0 hk8).at hnt
        have hrk := hrk.kp0 hk8
        generalize (t.take n).all (fun x => decide (fitP x o)) = q at hsn
        repeat (first|apply cA|apply cB|apply cD|apply cE|apply cF|apply cG|apply cH|apply cJ|apply cM|apply cN|apply cU|refine cV rfl ?_|apply cY|refine cZ rfl rfl rfl rfl (by first|((first|apply qmv|apply qas|apply qlc|apply qla|apply qfa|apply qix|apply qpk|apply qls|apply qei|apply qad|apply qln|apply qxt)<;>(first|exact rfl|assumption|exact Ar.mk (by omega)|exact dct (by first|assumption|omega)|exact dcf (by first|assumption|omega)|exact List.not_mem_nil|apply dc_length|apply ec_length|apply dl_length|exact nm1 (by omega)|fail))|fail) ?_)
        refine dD rfl (by exact rho_of rfl) rfl ?_
        repeat (first|apply cA|apply cB|apply cD|apply cE|apply cF|apply cG|apply cH|apply cJ|apply cM|apply cN|apply cU|refine cV rfl ?_|apply cY|refine cZ rfl rfl rfl rfl (by first|((first|apply qmv|apply qas|apply qlc|apply qla|apply qfa|apply qix|apply qpk|apply qls|apply qei|apply qad|apply qln|apply qxt)<;>(first|exact rfl|assumption|exact Ar.mk (by omega)|exact dct (by first|assumption|omega)|exact dcf (by first|assumption|omega)|exact List.not_mem_nil|apply dc_length|apply ec_length|apply dl_length|exact nm1 (by omega)|fail))|fail) ?_)
        cases q with
        | true =>
          have hsn : (t.take (n + 1)).all (fun x => decide (fitP x o)) = decide (fitP t[n] o) := hsn
          generalize t[n] = y at hry hsn
          refine CG.draw0 mixed [0, 1, 2, 3, 4, 5, 6, 7, 8, 9, 10, 11, 12] [] (by kernel_rfl) ?_
          repeat (first | refine dB rfl rfl rfl (by first|((first|apply qmv|apply qas|apply qlc|apply qla|apply qfa|apply qix|apply qpk|apply qls|apply qei|apply qad|apply qln|apply qxt)<;>(first|exact rfl|assumption|exact Ar.mk (by omega)|exact dct (by first|assumption|omega)|exact dcf (by first|assumption|omega)|exact List.not_mem_nil|apply dc_length|apply ec_length|apply dl_length|exact nm1 (by omega)|fail))|fail) ?_ | refine Der.skip rfl rfl ?_)
          refine Der.call rfl rfl rfl (vs := [ov y, ov o]) (by repeat' (first | exact True.intro | exact rho_of rfl | refine And.intro ?_ ?_)) (fun W hk _ => rfit_spec y o W) ?_
          rw [← hsn]
          repeat (first | refine dB rfl rfl rfl (by first|((first|apply qmv|apply qas|apply qlc|apply qla|apply qfa|apply qix|apply qpk|apply qls|apply qei|apply qad|apply qln|apply qxt)<;>(first|exact rfl|assumption|exact Ar.mk (by omega)|exact dct (by first|assumption|omega)|exact dcf (by first|assumption|omega)|exact List.not_mem_nil|apply dc_length|apply ec_length|apply dl_length|exact nm1 (by omega)|fail))|fail) ?_ | refine Der.skip rfl rfl ?_)
          refine Der.fin (fun w9 hk9 _ _ => ?_)
          repeat (first|apply cA|apply cB|apply cD|apply cE|apply cF|apply cG|apply cH|apply cJ|apply cM|apply cN|apply cU|refine cV rfl ?_|apply cY|refine cZ rfl rfl rfl rfl (by first|((first|apply qmv|apply qas|apply qlc|apply qla|apply qfa|apply qix|apply qpk|apply qls|apply qei|apply qad|apply qln|apply qxt)<;>(first|exact rfl|assumption|exact Ar.mk (by omega)|exact dct (by first|assumption|omega)|exact dcf (by first|assumption|omega)|exact List.not_mem_nil|apply dc_length|apply ec_length|apply dl_length|exact nm1 (by omega)|fail))|fail) ?_)
          refine NG.round (n + 1) (by (repeat' (first | exact True.intro | exact rfl | refine And.intro ?_ ?_))) ⟨by omega, hk8.trans hk9⟩ (by omega)
        | false =>
          have hsn : (t.take (n + 1)).all (fun x => decide (fitP x o)) = false := hsn
          refine CG.draw0 mixed [0, 1, 2, 3, 4, 5, 6, 7, 8, 9, 10, 11, 12] [] (by kernel_rfl) ?_
          repeat (first | refine dB rfl rfl rfl (by first|((first|apply qmv|apply qas|apply qlc|apply qla|apply qfa|apply qix|apply qpk|apply qls|apply qei|apply qad|apply qln|apply qxt)<;>(first|exact rfl|assumption|exact Ar.mk (by omega)|exact dct (by first|assumption|omega)|exact dcf (by first|assumption|omega)|exact List.not_mem_nil|apply dc_length|apply ec_length|apply dl_length|exact nm1 (by omega)|fail))|fail) ?_ | refine Der.skip rfl rfl ?_)
          refine Der.fin (fun w9 hk9 _ _ => ?_)
          repeat (first|apply cA|apply cB|apply cD|apply cE|apply cF|apply cG|apply cH|apply cJ|apply cM|apply cN|apply cU|refine cV rfl ?_|apply cY|refine cZ rfl rfl rfl rfl (by first|((first|apply qmv|apply qas|apply qlc|apply qla|apply qfa|apply qix|apply qpk|apply qls|apply qei|apply qad|apply qln|apply qxt)<;>(first|exact rfl|assumption|exact Ar.mk (by omega)|exact dct (by first|assumption|omega)|exact dcf (by first|assumption|omega)|exact List.not_mem_nil|apply dc_length|apply ec_length|apply dl_length|exact nm1 (by omega)|fail))|fail) ?_)
          rw [← hsn]
          refine NG.round (n + 1) (by (repeat' (first | exact True.intro | exact rfl | refine And.intro ?_ ?_))) ⟨by omega, hk8.trans hk9⟩ (by omega)
      · have g3 : ¬ (n : Int) < (t.length : Int) := by omega
        rw [List.take_of_length_le (by omega)]
        have hrk := hrk.kp0 hk8
        repeat (first|apply cA|apply cB|apply cD|apply cE|apply cF|apply cG|apply cH|apply cJ|apply cM|apply cN|apply cU|refine cV rfl ?_|apply cY|refine cZ rfl rfl rfl rfl (by first|((first|apply qmv|apply qas|apply qlc|apply qla|apply qfa|apply qix|apply qpk|apply qls|apply qei|apply qad|apply qln|apply qxt)<;>(first|exact rfl|assumption|exact Ar.mk (by omega)|exact dct (by first|assumption|omega)|exact dcf (by first|assumption|omega)|exact List.not_mem_nil|apply dc_length|apply ec_length|apply dl_length|exact nm1 (by omega)|fail))|fail) ?_)
        refine dE rfl (by exact rho_of rfl) rfl ?_
        cases hall : t.all (fun x => decide (fitP x o)) with
        | true =>
          rw [hall] at hgr
          rw [if_pos rfl] at hgr
          repeat (first|apply cA|apply cB|apply cD|apply cE|apply cF|apply cG|apply cH|apply cJ|apply cM|apply cN|apply cU|refine cV rfl ?_|apply cY|refine cZ rfl rfl rfl rfl (by first|((first|apply qmv|apply qas|apply qlc|apply qla|apply qfa|apply qix|apply qpk|apply qls|apply qei|apply qad|apply qln|apply qxt)<;>(first|exact rfl|assumption|exact Ar.mk (by omega)|exact dct (by first|assumption|omega)|exact dcf (by first|assumption|omega)|exact List.not_mem_nil|apply dc_length|apply ec_length|apply dl_length|exact nm1 (by omega)|fail))|fail) ?_)
          refine dD rfl (by exact rho_of rfl) rfl ?_
          repeat (first|apply cA|apply cB|apply cD|apply cE|apply cF|apply cG|apply cH|apply cJ|apply cM|apply cN|apply cU|refine cV rfl ?_|apply cY|refine cZ rfl rfl rfl rfl (by first|((first|apply qmv|apply qas|apply qlc|apply qla|apply qfa|apply qix|apply qpk|apply qls|apply qei|apply qad|apply qln|apply qxt)<;>(first|exact rfl|assumption|exact Ar.mk (by omega)|exact dct (by first|assumption|omega)|exact dcf (by first|assumption|omega)|exact List.not_mem_nil|apply dc_length|apply ec_length|apply dl_length|exact nm1 (by omega)|fail))|fail) ?_)
          refine SG.buildSlice rfl rfl rfl rfl (bsO _) (fun bs w9 hk9 hbs hBs => ?_)
          have ho9 := own_kp0 (own_kp0 hot hk8) hk9
          have k59 := (hk7.trans hk8).trans hk9
          refine SG.appO (enc := ec) (xs := t) (ys := [o]) (base := w5.heap.size) rfl rfl rfl (by exact rho_of rfl) (by exact rho_of rfl) rfl rfl rfl rfl ec_length ec_one ho9 (sl_one ec_length hBs) (by simp only [maxLen, List.length_cons, List.length_nil]; omega) (by show (t.length + 1) * 56 ≤ _; omega) k59.size (fun v10 w10 hk10 ho10 _ => ?_)
          repeat (first|apply cA|apply cB|apply cD|apply cE|apply cF|apply cG|apply cH|apply cJ|apply cM|apply cN|apply cU|refine cV rfl ?_|apply cY|refine cZ rfl rfl rfl rfl (by first|((first|apply qmv|apply qas|apply qlc|apply qla|apply qfa|apply qix|apply qpk|apply qls|apply qei|apply qad|apply qln|apply qxt)<;>(first|exact rfl|assumption|exact Ar.mk (by omega)|exact dct (by first|assumption|omega)|exact dcf (by first|assumption|omega)|exact List.not_mem_nil|apply dc_length|apply ec_length|apply dl_length|exact nm1 (by omega)|fail))|fail) ?_)
          refine NG.round (v10, t ++ [o], k + 1) (by (repeat' (first | exact True.intro | exact rfl | refine And.intro ?_ ?_))) ⟨by simp only; omega, by simp only; omega, by simp only [List.length_append, List.length_singleton]; omega, by simp only [List.length_append, List.length_singleton]; omega, k59.trans_new hk10 (own_new ho9 (Nat.le_refl _)), ho10, hgr⟩ (by simp only; omega)
        | false =>
          rw [hall] at hgr
          rw [if_neg (by simp)] at hgr
          repeat (first|apply cA|apply cB|apply cD|apply cE|apply cF|apply cG|apply cH|apply cJ|apply cM|apply cN|apply cU|refine cV rfl ?_|apply cY|refine cZ rfl rfl rfl rfl (by first|((first|apply qmv|apply qas|apply qlc|apply qla|apply qfa|apply qix|apply qpk|apply qls|apply qei|apply qad|apply qln|apply qxt)<;>(first|exact rfl|assumption|exact Ar.mk (by omega)|exact dct (by first|assumption|omega)|exact dcf (by first|assumption|omega)|exact List.not_mem_nil|apply dc_length|apply ec_length|apply dl_length|exact nm1 (by omega)|fail))|fail) ?_)
          refine dE rfl (by exact rho_of rfl) rfl ?_
          repeat (first|apply cA|apply cB|apply cD|apply cE|apply cF|apply cG|apply cH|apply cJ|apply cM|apply cN|apply cU|refine cV rfl ?_|apply cY|refine cZ rfl rfl rfl rfl (by first|((first|apply qmv|apply qas|apply qlc|apply qla|apply qfa|apply qix|apply qpk|apply qls|apply qei|apply qad|apply qln|apply qxt)<;>(first|exact rfl|assumption|exact Ar.mk (by omega)|exact dct (by first|assumption|omega)|exact dcf (by first|assumption|omega)|exact List.not_mem_nil|apply dc_length|apply ec_length|apply dl_length|exact nm1 (by omega)|fail))|fail) ?_)
          refine NG.round (.slice tva t.length tvc, t, k + 1) (by (repeat' (first | exact True.intro | exact rfl | refine And.intro ?_ ?_))) ⟨by simp only; omega, by simp only; omega, by simp only; omega, hts, hk7.trans hk8, own_kp0 hot hk8, hgr⟩ (by simp only; omega)
    · repeat (first | refine cK ?_ | refine cA ?_)
      refine CG.cut_then (fun L w' => SubE [(2, .pointer (some ⟨b2, 0, none⟩)), (4, .pointer (some ⟨b4, 0, none⟩)), (5, .pointer (some ⟨b5, 0, none⟩)), (8, .slice (some ⟨bz, oz, none⟩) K.length co), (9, .int .i64 (i : Int)), (10, .slice tva t.length tvc), (46, .bool false)] L ∧ w' = w7) ?_ ?_
      · by_cases hkl : k < K.length
        · have g2 : (k : Int) < (K.length : Int) := by omega
          have g3 : ¬ (t.length : Int) < fo.seats := fun h => hgo ⟨hkl, h⟩
          repeat (first | first|apply cA|apply cB|apply cD|apply cE|apply cF|apply cG|apply cH|apply cJ|apply cM|apply cN|apply cU|refine cV rfl ?_|apply cY|refine cZ rfl rfl rfl rfl (by first|((first|apply qmv|apply qas|apply qlc|apply qla|apply qfa|apply qix|apply qpk|apply qls|apply qei|apply qad|apply qln|apply qxt)<;>(first|exact rfl|assumption|exact Ar.mk (by omega)|exact dct (by first|assumption|omega)|exact dcf (by first|assumption|omega)|exact List.not_mem_nil|apply dc_length|apply ec_length|apply dl_length|exact nm1 (by omega)|fail))|fail) ?_ | refine dA rfl rfl ?_)
          exact NG.cut ⟨by (repeat' (first | exact True.intro | exact rfl | refine And.intro ?_ ?_)), rfl⟩
        · have g2 : ¬ (k : Int) < (K.length : Int) := by omega
          repeat (first | first|apply cA|apply cB|apply cD|apply cE|apply cF|apply cG|apply cH|apply cJ|apply cM|apply cN|apply cU|refine cV rfl ?_|apply cY|refine cZ rfl rfl rfl rfl (by first|((first|apply qmv|apply qas|apply qlc|apply qla|apply qfa|apply qix|apply qpk|apply qls|apply qei|apply qad|apply qln|apply qxt)<;>(first|exact rfl|assumption|exact Ar.mk (by omega)|exact dct (by first|assumption|omega)|exact dcf (by first|assumption|omega)|exact List.not_mem_nil|apply dc_length|apply ec_length|apply dl_length|exact nm1 (by omega)|fail))|fail) ?_ | refine dA rfl rfl ?_)
          exact NG.cut ⟨by (repeat' (first | exact True.intro | exact rfl | refine And.intro ?_ ?_)), rfl⟩
      rintro L _ ⟨hLL, rfl⟩
      refine CG.to _ hLL ?_
      clear hrf
      repeat (first|apply cA|apply cB|apply cD|apply cE|apply cF|apply cG|apply cH|apply cJ|apply cM|apply cN|apply cU|refine cV rfl ?_|apply cY|refine cZ rfl rfl rfl rfl (by first|((first|apply qmv|apply qas|apply qlc|apply qla|apply qfa|apply qix|apply qpk|apply qls|apply qei|apply qad|apply qln|apply qxt)<;>(first|exact rfl|assumption|exact Ar.mk (by omega)|exact dct (by first|assumption|omega)|exact dcf (by first|assumption|omega)|exact List.not_mem_nil|apply dc_length|apply ec_length|apply dl_length|exact nm1 (by omega)|fail))|fail) ?_)
      refine dE rfl (by exact rho_of rfl) rfl ?_
      by_cases hse : (t.length : Int) = fo.seats
      rotate_left
      · have hkl : ¬ k < K.length := fun h => hgo ⟨h, by omega⟩
        rw [List.drop_of_length_le (by omega), grabG_nil _ _ hse] at hgr
        repeat (first|apply cA|apply cB|apply cD|apply cE|apply cF|apply cG|apply cH|apply cJ|apply cM|apply cN|apply cU|refine cV rfl ?_|apply cY|refine cZ rfl rfl rfl rfl (by first|((first|apply qmv|apply qas|apply qlc|apply qla|apply qfa|apply qix|apply qpk|apply qls|apply qei|apply qad|apply qln|apply qxt)<;>(first|exact rfl|assumption|exact Ar.mk (by omega)|exact dct (by first|assumption|omega)|exact dcf (by first|assumption|omega)|exact List.not_mem_nil|apply dc_length|apply ec_length|apply dl_length|exact nm1 (by omega)|fail))|fail) ?_)
        refine dE rfl (by exact rho_of rfl) rfl ?_
        repeat (first|apply cA|apply cB|apply cD|apply cE|apply cF|apply cG|apply cH|apply cJ|apply cM|apply cN|apply cU|refine cV rfl ?_|apply cY|refine cZ rfl rfl rfl rfl (by first|((first|apply qmv|apply qas|apply qlc|apply qla|apply qfa|apply qix|apply qpk|apply qls|apply qei|apply qad|apply qln|apply qxt)<;>(first|exact rfl|assumption|exact Ar.mk (by omega)|exact dct (by first|assumption|omega)|exact dcf (by first|assumption|omega)|exact List.not_mem_nil|apply dc_length|apply ec_length|apply dl_length|exact nm1 (by omega)|fail))|fail) ?_)
        refine NG.round (i + 1) (by (repeat' (first | exact True.intro | exact rfl | refine And.intro ?_ ?_))) ⟨by omega, hk5.trans hk7, hgr⟩ (by omega)
      rw [grabG_end _ _ _ hse] at hgr
      have hF : findD K = some t := hgr.symm
      have htl : t.length ≤ 1000 := by omega
      have hst := (hsub t hF).trans hKs
      have hof := rof53_spec (c := tvc) hSt (by omega)
      repeat (first|apply cA|apply cB|apply cD|apply cE|apply cF|apply cG|apply cH|apply cJ|apply cM|apply cN|apply cU|refine cV rfl ?_|apply cY|refine cZ rfl rfl rfl rfl (by first|((first|apply qmv|apply qas|apply qlc|apply qla|apply qfa|apply qix|apply qpk|apply qls|apply qei|apply qad|apply qln|apply qxt)<;>(first|exact rfl|assumption|exact Ar.mk (by omega)|exact dct (by first|assumption|omega)|exact dcf (by first|assumption|omega)|exact List.not_mem_nil|apply dc_length|apply ec_length|apply dl_length|exact nm1 (by omega)|fail))|fail) ?_)
      refine dD rfl (by exact rho_of rfl) rfl ?_
      repeat (first|apply cA|apply cB|apply cD|apply cE|apply cF|apply cG|apply cH|apply cJ|apply cM|apply cN|apply cU|refine cV rfl ?_|apply cY|refine cZ rfl rfl rfl rfl (by first|((first|apply qmv|apply qas|apply qlc|apply qla|apply qfa|apply qix|apply qpk|apply qls|apply qei|apply qad|apply qln|apply qxt)<;>(first|exact rfl|assumption|exact Ar.mk (by omega)|exact dct (by first|assumption|omega)|exact dcf (by first|assumption|omega)|exact List.not_mem_nil|apply dc_length|apply ec_length|apply dl_length|exact nm1 (by omega)|fail))|fail) ?_)
      refine SG.call rfl rfl rfl (vs := [.slice tva t.length tvc]) (by repeat' (first | exact True.intro | exact rho_of rfl | refine And.intro ?_ ?_)) (hof.mono (fun e w8 hh => ?_))
      obtain ⟨vd, he, ⟨sd, rfl, hoD⟩, hk8⟩ := hh
      refine ⟨_, he, ?_⟩
      generalize hDe : (dealOf t).1 = D at hoD
      generalize (dealOf t).2 = ze
      obtain ⟨ad, cd, rfl, hcd, hSd⟩ := Sl.own dc_length hoD rfl
      repeat (first|apply cA|apply cB|apply cD|apply cE|apply cF|apply cG|apply cH|apply cJ|apply cM|apply cN|apply cU|refine cV rfl ?_|apply cY|refine cZ rfl rfl rfl rfl (by first|((first|apply qmv|apply qas|apply qlc|apply qla|apply qfa|apply qix|apply qpk|apply qls|apply qei|apply qad|apply qln|apply qxt)<;>(first|exact rfl|assumption|exact Ar.mk (by omega)|exact dct (by first|assumption|omega)|exact dcf (by first|assumption|omega)|exact List.not_mem_nil|apply dc_length|apply ec_length|apply dl_length|exact nm1 (by omega)|fail))|fail) ?_)
      refine SG.alloc rfl rfl rfl (fun b14 w9 hk9 hb14 hB14 => ?_)
      refine SG.setAll (l := dl D.rules (.slice ad D.who.length cd) D.stake D.window) rfl rfl (by exact rho_of rfl) (by exact rho_of rfl) hB14 (dl_length _ _ _ _) rfl (dl_one _ _ _ _ _ _) (fun w10 hk10 hB14 => ?_)
      have hB14 : Blk w10 b14 (.cells (dl D.rules (.slice ad D.who.length cd) D.stake D.window).toArray 48) := hB14
      have k810 : Kp [] w8 w10 := hk9.trans_new hk10 (new1 (by omega))
      have k710 := hk8.trans k810
      have k510 := hk7.trans k710
      have hB2 := hB2.kp0 k510
      have hB4 := hB4.kp0 k510
      have hB5 := hB5.kp0 k510
      have hot10 := own_kp0 hot k710
      have hSt10 := hSt.kp0 k710
      have hS10 := hS.kp0 (k5.trans k510)
      have hT10 := hT.kp0 (k5.trans k510)
      have hoD10 := own_kp0 hoD k810
      have k10 := k5.trans k510
      have s10 := k510.size
      have s8 := hk8.size
      have hta2 : ∀ bb off, tva = some ⟨bb, off, none⟩ → w5.heap.size ≤ bb := own_geA hot
      have hta : ∀ bb off, tva = some ⟨bb, off, none⟩ → bb ≠ b2 := fun bb off e h => by
        have := own_geA hot bb off e
        omega
      clear hSt hof q2 hgr hLL hrk
      repeat (first|apply cA|apply cB|apply cD|apply cE|apply cF|apply cG|apply cH|apply cJ|apply cM|apply cN|apply cU|refine cV rfl ?_|apply cY|refine cZ rfl rfl rfl rfl (by first|((first|apply qmv|apply qas|apply qlc|apply qla|apply qfa|apply qix|apply qpk|apply qls|apply qei|apply qad|apply qln|apply qxt)<;>(first|exact rfl|assumption|exact Ar.mk (by omega)|exact dct (by first|assumption|omega)|exact dcf (by first|assumption|omega)|exact List.not_mem_nil|apply dc_length|apply ec_length|apply dl_length|exact nm1 (by omega)|fail))|fail) ?_)
      refine CG.loop (X := (Option Addr × Nat) × Nat) (fun x => [(2, .pointer (some ⟨b2, 0, none⟩)), (4, .pointer (some ⟨b4, 0, none⟩)), (5, .pointer (some ⟨b5, 0, none⟩)), (10, .slice tva t.length tvc), (14, .pointer (some ⟨b14, 0, none⟩)), (16, .int .i64 (x.2 : Int))])
        (fun x w' => x.2 ≤ t.length ∧ Kp [b2] w10 w' ∧ (dropL ((t.take x.2).map (·.who)) l ≠ [] → ∀ bb off, x.1.1 = some ⟨bb, off, none⟩ → bb ∉ [b2, b4, b5]) ∧ (dropL ((t.take x.2).map (·.who)) l).length ≤ x.1.2 ∧ Ty 33 w' x.1.1 (dropL ((t.take x.2).map (·.who)) l) ∧ Sl ec 21 w' x.1.1 (dropL ((t.take x.2).map (·.who)) l) ∧ Blk w' b2 (.cells #[.int .i64 room, .slice x.1.1 (dropL ((t.take x.2).map (·.who)) l).length x.1.2] 30)) (fun x => t.length - x.2) ((a, c), 0) ⟨Nat.zero_le _, Kp.refl _ _, by simp only [List.take_zero, List.map_nil, dropL_nil]; exact fun hn bb off e => (by have := hS.ltN hn bb off e; exact nm3 (by omega) (by omega) (by omega)), by simp only [List.take_zero, List.map_nil, dropL_nil]; exact hlc, by simp only [List.take_zero, List.map_nil, dropL_nil]; exact hT10, by simp only [List.take_zero, List.map_nil, dropL_nil]; exact hS10, by simp only [List.take_zero, List.map_nil, dropL_nil]; exact hB2⟩ (by (repeat' (first | exact True.intro | exact rfl | refine And.intro ?_ ?_))) ?_
      clear hS10 hB2 hT10
      rintro ⟨⟨ac, cc⟩, n⟩ w11 ⟨hn, hk11, hac, hcc, hTc, hSc, hB2⟩
      simp only at hn hac hcc hTc hSc hB2
      refine CG.to [(2, .pointer (some ⟨b2, 0, none⟩)), (4, .pointer (some ⟨b4, 0, none⟩)), (5, .pointer (some ⟨b5, 0, none⟩)), (10, .slice tva t.length tvc), (14, .pointer (some ⟨b14, 0, none⟩)), (16, .int .i64 (n : Int))] (by (repeat' (first | exact True.intro | exact rfl | refine And.intro ?_ ?_))) ?_
      have hSt11 := hSt10.kp hk11 (fun bb off e => nm1 (hta bb off e))
      have s11 := hk11.size
      by_cases hnt : n < t.length
      · have g2 : (n : Int) < (t.length : Int) := by omega
        have hsd : whoL t[n].who (dropL ((t.take n).map (·.who)) l) = dropL ((t.take (n + 1)).map (·.who)) l := by
          rw [dropL_snoc, List.take_succ_eq_append_getElem hnt, List.map_append]
          rfl
        have hdl : (dropL ((t.take n).map (·.who)) l).length ≤ 1000 := Nat.le_trans (List.length_filter_le _ _) hl
        generalize dropL ((t.take n).map (·.who)) l = M at hac hcc hTc hSc hB2 hsd hdl
        obtain ⟨bt, ot, rfl, hrt⟩ := hSt11.at hnt
        have hbt : bt ≠ b2 := hta bt ot rfl
        obtain ⟨q0, -⟩ := ec_rowsO hrt
        clear hrt
        generalize hyy : t[n].who = y at q0 hsd
        have hbl2 := hB2.lt
        repeat (first|apply cA|apply cB|apply cD|apply cE|apply cF|apply cG|apply cH|apply cJ|apply cM|apply cN|apply cU|refine cV rfl ?_|apply cY|refine cZ rfl rfl rfl rfl (by first|((first|apply qmv|apply qas|apply qlc|apply qla|apply qfa|apply qix|apply qpk|apply qls|apply qei|apply qad|apply qln|apply qxt)<;>(first|exact rfl|assumption|exact Ar.mk (by omega)|exact dct (by first|assumption|omega)|exact dcf (by first|assumption|omega)|exact List.not_mem_nil|apply dc_length|apply ec_length|apply dl_length|exact nm1 (by omega)|fail))|fail) ?_)
        refine dD rfl (by exact rho_of rfl) rfl ?_
        repeat (first|apply cA|apply cB|apply cD|apply cE|apply cF|apply cG|apply cH|apply cJ|apply cM|apply cN|apply cU|refine cV rfl ?_|apply cY|refine cZ rfl rfl rfl rfl (by first|((first|apply qmv|apply qas|apply qlc|apply qla|apply qfa|apply qix|apply qpk|apply qls|apply qei|apply qad|apply qln|apply qxt)<;>(first|exact rfl|assumption|exact Ar.mk (by omega)|exact dct (by first|assumption|omega)|exact dcf (by first|assumption|omega)|exact List.not_mem_nil|apply dc_length|apply ec_length|apply dl_length|exact nm1 (by omega)|fail))|fail) ?_)
        refine CG.draw mixed [0, 1, 2, 3, 4, 5, 6, 7, 8, 9, 10] [6, 10, 1000] [] [b2] (fun w' => Blk w' b2 (.cells ([.int .i64 room, .slice ac M.length cc] : List Value).toArray 30)) (by kernel_rfl) (by simpa using hbl2) (by simp) hB2 (fun w w' hk h => h.kp0 hk) (Or.inl rfl) ?_
        refine Der.loadR (l := [.int .i64 room, .slice ac M.length cc]) rfl rfl rfl rfl (by exact rho_of rfl) rfl (fun w h => (lv_rows h).2.2) rfl ?_
        repeat (refine dB rfl rfl rfl (by first|((first|apply qmv|apply qas|apply qlc|apply qla|apply qfa|apply qix|apply qpk|apply qls|apply qei|apply qad|apply qln|apply qxt)<;>(first|exact rfl|assumption|exact Ar.mk (by omega)|exact dct (by first|assumption|omega)|exact dcf (by first|assumption|omega)|exact List.not_mem_nil|apply dc_length|apply ec_length|apply dl_length|exact nm1 (by omega)|fail))|fail) ?_)
        refine Der.callGR (X := Option Addr × Nat) (vs := [lv room (.slice ac M.length cc), dv y]) (fun q => .tuple #[lv room (.slice q.1 (whoL y M).length q.2), .bool (decide ((whoL y M).length < M.length))]) (fun q w => ((∀ bb off, q.1 = some ⟨bb, off, none⟩ → bb ∉ [b2, b4, b5]) ∧ (whoL y M).length ≤ q.2) ∧ Ty 33 w q.1 (whoL y M) ∧ Sl ec 21 w q.1 (whoL y M)) (fun q w => Blk w b2 (.cells ([.int .i64 room, .slice ac M.length cc] : List Value).toArray 30)) rfl rfl rfl rfl (by repeat' (first | exact True.intro | exact rho_of rfl | refine And.intro ?_ ?_)) (fun q w w' hk h => ⟨h.1, h.2.1.kp hk (fun _ bb off e => ni1 (h.1.1 bb off e)), h.2.2.kp hk (fun bb off e => ni1 (h.1.1 bb off e))⟩) (fun q w w' hk h => h.kp0 hk) (fun _ _ _ h => h) (fun W hk _ hR => ?_) (fun q => ?_)
        · refine (rdrop_spec room y (hSc.kpN hk (fun hn bb off e => ni1 (hac hn bb off e))) (by omega)).mono (fun e w' hh => ?_)
          obtain ⟨v', he, ho', hk'⟩ := hh
          obtain ⟨a', c', rfl, hc', hS'⟩ := Sl.own ec_length ho' rfl
          have hsz := hk.size
          exact ⟨(a', c'), he, ⟨⟨fun bb off e => (by have := own_geA ho' bb off e; exact nm3 (by omega) (by omega) (by omega)), hc'⟩, Ty.own ho', hS'⟩, hR.kp0 hk', hk'.any⟩
        obtain ⟨q1, q2⟩ := q
        repeat (refine dB rfl rfl rfl (by first|((first|apply qmv|apply qas|apply qlc|apply qla|apply qfa|apply qix|apply qpk|apply qls|apply qei|apply qad|apply qln|apply qxt)<;>(first|exact rfl|assumption|exact Ar.mk (by omega)|exact dct (by first|assumption|omega)|exact dcf (by first|assumption|omega)|exact List.not_mem_nil|apply dc_length|apply ec_length|apply dl_length|exact nm1 (by omega)|fail))|fail) ?_)
        refine Der.storeAll (old := [.int .i64 room, .slice ac M.length cc]) (b := b2) (T' := 30) rfl rfl rfl rfl (by exact rho_of rfl) (by exact rho_of rfl) rfl rfl rfl (by simp) (fun w w' hk h => ⟨trivial, ⟨h.2.1, h.2.2.1.kp hk (fun _ bb off e => ni1 (h.2.1.1 bb off e)), h.2.2.2.kp hk (fun bb off e => ni1 (h.2.1.1 bb off e))⟩⟩) ?_
        refine Der.fin (fun w12 hk12 hF hR => ?_)
        obtain ⟨⟨-, hF1, hFT, hF2⟩, -⟩ := hF
        repeat (first|apply cA|apply cB|apply cD|apply cE|apply cF|apply cG|apply cH|apply cJ|apply cM|apply cN|apply cU|refine cV rfl ?_|apply cY|refine cZ rfl rfl rfl rfl (by first|((first|apply qmv|apply qas|apply qlc|apply qla|apply qfa|apply qix|apply qpk|apply qls|apply qei|apply qad|apply qln|apply qxt)<;>(first|exact rfl|assumption|exact Ar.mk (by omega)|exact dct (by first|assumption|omega)|exact dcf (by first|assumption|omega)|exact List.not_mem_nil|apply dc_length|apply ec_length|apply dl_length|exact nm1 (by omega)|fail))|fail) ?_)
        refine NG.round ((q1, q2), n + 1) (by (repeat' (first | exact True.intro | exact rfl | refine And.intro ?_ ?_))) ⟨by simp only; omega, hk11.trans hk12, ?_, ?_, ?_, ?_, ?_⟩ (by simp only; omega)
        · simp only
          rw [← hsd]
          exact fun _ => hF1.1
        · simp only
          rw [← hsd]
          exact hF1.2
        · simp only
          rw [← hsd]
          exact hFT
        · simp only
          rw [← hsd]
          exact hF2
        · simp only
          rw [← hsd]
          exact hR
      · have g2 : ¬ (n : Int) < (t.length : Int) := by omega
        rw [List.take_of_length_le (by omega)] at hac hcc hTc hSc hB2
        rw [dropL_all hW hst] at hac hcc hTc hSc hB2
        have hB4 := hB4.kp hk11 (nm1 (by omega))
        have hB5 := hB5.kp hk11 (nm1 (by omega))
        have hB14 := hB14.kp hk11 (nm1 (by omega))
        have hoD11 := own_kp hoD10 hk11 (own_neb' hoD10 (by omega))
        have l14 := hB14.lt
        generalize hMM : l.filter (fun x => !decide (x ∈ t)) = M at hac hcc hTc hSc hB2
        obtain ⟨-, -, r2⟩ := lv_rows hB2
        have rd : Row w11 b14 0 (dl D.rules (.slice ad D.who.length cd) D.stake D.window) := Row.all hB14 rfl
        have hn2 : b2 ∉ [b4, b5] := nm2 (by omega) (by omega)
        have hn14 : b14 ∉ [b4, b5] := nm2 (by omega) (by omega)
        have hne : b5 ≠ b4 := by omega
        repeat (first|apply cA|apply cB|apply cD|apply cE|apply cF|apply cG|apply cH|apply cJ|apply cM|apply cN|apply cU|refine cV rfl ?_|apply cY|refine cZ rfl rfl rfl rfl (by first|((first|apply qmv|apply qas|apply qlc|apply qla|apply qfa|apply qix|apply qpk|apply qls|apply qei|apply qad|apply qln|apply qxt)<;>(first|exact rfl|assumption|exact Ar.mk (by omega)|exact dct (by first|assumption|omega)|exact dcf (by first|assumption|omega)|exact List.not_mem_nil|apply dc_length|apply ec_length|apply dl_length|exact nm1 (by omega)|fail))|fail) ?_)
        refine dE rfl (by exact rho_of rfl) rfl ?_
        repeat (first|apply cA|apply cB|apply cD|apply cE|apply cF|apply cG|apply cH|apply cJ|apply cM|apply cN|apply cU|refine cV rfl ?_|apply cY|refine cZ rfl rfl rfl rfl (by first|((first|apply qmv|apply qas|apply qlc|apply qla|apply qfa|apply qix|apply qpk|apply qls|apply qei|apply qad|apply qln|apply qxt)<;>(first|exact rfl|assumption|exact Ar.mk (by omega)|exact dct (by first|assumption|omega)|exact dcf (by first|assumption|omega)|exact List.not_mem_nil|apply dc_length|apply ec_length|apply dl_length|exact nm1 (by omega)|fail))|fail) ?_)
        refine CG.tailg mixed 5 [0, 1, 2, 3, 4] [3, 4] [b4, b5] (fun w' => Blk w' b4 (.cells ([.int .i64 0, .slice none 0 0] : List Value).toArray 30) ∧ Blk w' b5 (.cells (dl zd (.slice none 0 0) 0 0).toArray 48)) (by kernel_rfl) ⟨hB4, hB5⟩ (fun w w' hk h => ⟨h.1.kp0 hk, h.2.kp0 hk⟩) ?_
        repeat (refine dB rfl rfl rfl (by first|((first|apply qmv|apply qas|apply qlc|apply qla|apply qfa|apply qix|apply qpk|apply qls|apply qei|apply qad|apply qln|apply qxt)<;>(first|exact rfl|assumption|exact Ar.mk (by omega)|exact dct (by first|assumption|omega)|exact dcf (by first|assumption|omega)|exact List.not_mem_nil|apply dc_length|apply ec_length|apply dl_length|exact nm1 (by omega)|fail))|fail) ?_)
        refine Der.storeR (fun w' => Blk w' b4 (.cells (spl [.int .i64 0, .slice none 0 0] 0 [.int .i64 room, .slice ac M.length cc]).toArray 30) ∧ Blk w' b5 (.cells (dl zd (.slice none 0 0) 0 0).toArray 48)) rfl rfl rfl rfl (by exact rho_of rfl) (by exact rho_of rfl) (fun _ _ _ h => h) (fun w w' hk h => ⟨h.1.kp0 hk, h.2.kp0 hk⟩) (fun w h => ?_) ?_
        · have hrun := run_storeAt (P := Tryz.prog) (f := ty.i30) (off := 0) (v := .agg #[.int .i64 room, .slice ac M.length cc]) h.1 rfl (by show 0 + 2 ≤ 2; omega) rfl
          exact ⟨_, hrun, ⟨h.1.set _, h.2.kp (Kp.set w h.1 rfl rfl) (nm1 hne)⟩, (Kp.set w h.1 rfl rfl).mono (fun z hz => by rw [List.mem_singleton] at hz; subst hz; simp)⟩
        refine Der.storeR (fun w' => Blk w' b4 (.cells (spl [.int .i64 0, .slice none 0 0] 0 [.int .i64 room, .slice ac M.length cc]).toArray 30) ∧ Blk w' b5 (.cells (spl (dl zd (.slice none 0 0) 0 0) 0 (dl D.rules (.slice ad D.who.length cd) D.stake D.window)).toArray 48)) rfl rfl rfl rfl (by exact rho_of rfl) (by exact rho_of rfl) (fun w w' hk h => h) (fun w w' hk h => ⟨h.1.kp0 hk, h.2.kp0 hk⟩) (fun w h => ?_) ?_
        · have hc : (Value.agg (dl D.rules (.slice ad D.who.length cd) D.stake D.window).toArray).cells.toList = dl D.rules (.slice ad D.who.length cd) D.stake D.window := by simp [Value.cells]
          have hrun := run_storeAt (P := Tryz.prog) (f := ty.i48) (off := 0) (v := .agg (dl D.rules (.slice ad D.who.length cd) D.stake D.window).toArray) h.2 (by rw [hc]; exact dl_length _ _ _ _) (by rw [hc, dl_length, List.size_toArray, dl_length]; omega) (by rw [hc]; exact dl_one _ _ _ _ _ _)
          rw [hc] at hrun
          exact ⟨_, hrun, ⟨h.1.kp (Kp.set w h.2 rfl rfl) (nm1 (fun e => hne e.symm)), h.2.set _⟩, (Kp.set w h.2 rfl rfl).mono (fun z hz => by rw [List.mem_singleton] at hz; subst hz; simp)⟩
        refine Der.tl (fun w12 hk12 _ hR => ?_)
        obtain ⟨hC4, hC5⟩ := hR
        rw [spl_all (by rw [dl_length, dl_length])] at hC5
        have hC4 : Blk w12 b4 (.cells #[.int .i64 room, .slice ac M.length cc] 30) := hC4
        have hr4 : Row w12 b4 0 [.int .i64 room, .slice ac M.length cc] := Row.all hC4 rfl
        have hr5 : Row w12 b5 0 (dl D.rules (.slice ad D.who.length cd) D.stake D.window) := Row.all hC5 rfl
        repeat (first|apply cA|apply cB|apply cD|apply cE|apply cF|apply cG|apply cH|apply cJ|apply cM|apply cN|apply cU|refine cV rfl ?_|apply cY|refine cZ rfl rfl rfl rfl (by first|((first|apply qmv|apply qas|apply qlc|apply qla|apply qfa|apply qix|apply qpk|apply qls|apply qei|apply qad|apply qln|apply qxt)<;>(first|exact rfl|assumption|exact Ar.mk (by omega)|exact dct (by first|assumption|omega)|exact dcf (by first|assumption|omega)|exact List.not_mem_nil|apply dc_length|apply ec_length|apply dl_length|exact nm1 (by omega)|fail))|fail) ?_)
        refine ret4 (Or.inl rfl) Tryz.results11 (ResV.agg rfl rfl hr4 rfl) (ResV.agg rfl rfl hr5 (dl_length _ _ _ _)) (by first | exact ResV.tmp rfl | exact ResV.agg rfl rfl (by assumption) (by first | exact dc_length _ | exact nc_length _ | exact rc_length _ _ _ | exact ec_length _ | exact dl_length _ _ _ _ | rfl) | exact ResV.cell rfl rfl (by assumption)) (by first | exact ResV.tmp rfl | exact ResV.agg rfl rfl (by assumption) (by first | exact dc_length _ | exact nc_length _ | exact rc_length _ _ _ | exact ec_length _ | exact dl_length _ _ _ _ | rfl) | exact ResV.cell rfl rfl (by assumption)) ?_
        have hSM := hSc.kpN hk12 (fun hn bb off e => ni23 (hac hn bb off e))
        refine ⟨(k10.trans_new hk11 (new1 (by omega))).trans_new hk12 (new2 (by omega) (by omega)), Or.inr ⟨t, dealV D.rules (.slice ad D.who.length cd) D.stake D.window, tva, tvc, ac, cc, hF, ?_⟩⟩
        rw [hMM]
        exact ⟨rfl, by rw [hDe]; exact ⟨_, rfl, own_kp (own_mono hoD11 (by omega)) hk12 (own_neb2 hoD11 (by omega) (by omega))⟩, hSt11.kp hk12 (fun bb off e => (by have := hta2 bb off e; exact nm2 (by omega) (by omega))), hSM, hcc, Ty.own (own_kp (own_kp hot10 hk11 (own_neb' hot10 (by omega))) hk12 (own_neb2 (own_kp hot10 hk11 (own_neb' hot10 (by omega))) (by omega) (by omega))), hTc.kp hk12 (fun hn bb off e => ni23 (hac hn bb off e))⟩
  · have g1 : ¬ (i : Int) < (K.length : Int) := by omega
    rw [List.drop_of_length_le (by omega)] at hfi
    have hF : findD K = none := hfi.symm
    obtain ⟨-, -, r2⟩ := lv_rows hB2
    repeat (first|apply cA|apply cB|apply cD|apply cE|apply cF|apply cG|apply cH|apply cJ|apply cM|apply cN|apply cU|refine cV rfl ?_|apply cY|refine cZ rfl rfl rfl rfl (by first|((first|apply qmv|apply qas|apply qlc|apply qla|apply qfa|apply qix|apply qpk|apply qls|apply qei|apply qad|apply qln|apply qxt)<;>(first|exact rfl|assumption|exact Ar.mk (by omega)|exact dct (by first|assumption|omega)|exact dcf (by first|assumption|omega)|exact List.not_mem_nil|apply dc_length|apply ec_length|apply dl_length|exact nm1 (by omega)|fail))|fail) ?_)
    refine dE rfl (by exact rho_of rfl) rfl ?_
    repeat (first|apply cA|apply cB|apply cD|apply cE|apply cF|apply cG|apply cH|apply cJ|apply cM|apply cN|apply cU|refine cV rfl ?_|apply cY|refine cZ rfl rfl rfl rfl (by first|((first|apply qmv|apply qas|apply qlc|apply qla|apply qfa|apply qix|apply qpk|apply qls|apply qei|apply qad|apply qln|apply qxt)<;>(first|exact rfl|assumption|exact Ar.mk (by omega)|exact dct (by first|assumption|omega)|exact dcf (by first|assumption|omega)|exact List.not_mem_nil|apply dc_length|apply ec_length|apply dl_length|exact nm1 (by omega)|fail))|fail) ?_)
    refine cZ rfl rfl rfl rfl (vals_build rfl brz) ?_
    refine SG.setAll (l := [.int .i64 room, .slice a l.length c]) rfl rfl (by exact rho_of rfl) (by exact rho_of rfl) hB4 rfl rfl rfl (fun w6 hk6 hC4 => ?_)
    have hr4 : Row w6 b4 0 [.int .i64 room, .slice a l.length c] := Row.all hC4 rfl
    have hB5 := hB5.kp hk6 (nm1 (by omega))
    refine SG.setAll (l := dl zd (.slice none 0 0) 0 0) rfl rfl (by exact rho_of rfl) (by exact rho_of rfl) hB5 (dl_length _ _ _ _) (dl_length _ _ _ _) (dl_one _ _ _ _ _ _) (fun w7 hk7 hC5 => ?_)
    have hr5 : Row w7 b5 0 (dl zd (.slice none 0 0) 0 0) := Row.all hC5 rfl
    have hr4 := hr4.kp hk7 (nm1 (by omega))
    repeat (first|apply cA|apply cB|apply cD|apply cE|apply cF|apply cG|apply cH|apply cJ|apply cM|apply cN|apply cU|refine cV rfl ?_|apply cY|refine cZ rfl rfl rfl rfl (by first|((first|apply qmv|apply qas|apply qlc|apply qla|apply qfa|apply qix|apply qpk|apply qls|apply qei|apply qad|apply qln|apply qxt)<;>(first|exact rfl|assumption|exact Ar.mk (by omega)|exact dct (by first|assumption|omega)|exact dcf (by first|assumption|omega)|exact List.not_mem_nil|apply dc_length|apply ec_length|apply dl_length|exact nm1 (by omega)|fail))|fail) ?_)
    refine ret4 (Or.inl rfl) Tryz.results11 (ResV.agg rfl rfl hr4 rfl) (ResV.agg rfl rfl hr5 (dl_length _ _ _ _)) (by first | exact ResV.tmp rfl | exact ResV.agg rfl rfl (by assumption) (by first | exact dc_length _ | exact nc_length _ | exact rc_length _ _ _ | exact ec_length _ | exact dl_length _ _ _ _ | rfl) | exact ResV.cell rfl rfl (by assumption)) (by first | exact ResV.tmp rfl | exact ResV.agg rfl rfl (by assumption) (by first | exact dc_length _ | exact nc_length _ | exact rc_length _ _ _ | exact ec_length _ | exact dl_length _ _ _ _ | rfl) | exact ResV.cell rfl rfl (by assumption)) ?_
    exact ⟨(k5.trans_new hk6 (new1 (by omega))).trans_new hk7 (new1 (by omega)), Or.inl ⟨hF, rfl⟩⟩
end Go.Proofs.YtnoipmimddoioaaGreat
