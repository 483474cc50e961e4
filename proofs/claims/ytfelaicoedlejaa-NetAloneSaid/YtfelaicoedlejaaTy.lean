/-
  The facts on this seat's types and functions, printed by a program.
-/
import Derived.Test.YtfelaicoedlejaaSl
import Derived.KernelRfl
namespace Go.Proofs.Ytfelaicoedlejaa
open Go.Proofs
set_option linter.unusedVariables false

theorem ty.i0 : Inf Try.prog 0 Try.t0 := ⟨by kernel_rfl⟩
attribute [instance] ty.i0
theorem ty.s0 : Sz Try.prog 0 1 := ⟨_, ty.i0.eq, rfl⟩
attribute [instance] ty.s0
@[reducible] def ty.u0 := @Ut.mk Try.prog 0 _ Try.underlying0
attribute [instance] ty.u0
theorem ty.c0 : CelT Try.prog 0 := CelT.of Try.underlying0 rfl
attribute [instance] ty.c0
theorem ty.i1 : Inf Try.prog 1 Try.t1 := ⟨by kernel_rfl⟩
attribute [instance] ty.i1
theorem ty.s1 : Sz Try.prog 1 1 := ⟨_, ty.i1.eq, rfl⟩
attribute [instance] ty.s1
@[reducible] def ty.u1 := @Ut.mk Try.prog 1 _ Try.underlying1
attribute [instance] ty.u1
theorem ty.c1 : CelT Try.prog 1 := CelT.of Try.underlying1 rfl
attribute [instance] ty.c1
theorem ty.i2 : Inf Try.prog 2 Try.t2 := ⟨by kernel_rfl⟩
attribute [instance] ty.i2
theorem ty.s2 : Sz Try.prog 2 1 := ⟨_, ty.i2.eq, rfl⟩
attribute [instance] ty.s2
@[reducible] def ty.u2 := @Ut.mk Try.prog 2 _ Try.underlying2
attribute [instance] ty.u2
theorem ty.c2 : CelT Try.prog 2 := CelT.of Try.underlying2 rfl
attribute [instance] ty.c2
theorem ty.i3 : Inf Try.prog 3 Try.t3 := ⟨by kernel_rfl⟩
attribute [instance] ty.i3
theorem ty.s3 : Sz Try.prog 3 1 := ⟨_, ty.i3.eq, rfl⟩
attribute [instance] ty.s3
@[reducible] def ty.u3 := @Ut.mk Try.prog 3 _ Try.underlying3
attribute [instance] ty.u3
theorem ty.c3 : CelT Try.prog 3 := CelT.of Try.underlying3 rfl
attribute [instance] ty.c3
theorem ty.i4 : Inf Try.prog 4 Try.t4 := ⟨by kernel_rfl⟩
attribute [instance] ty.i4
theorem ty.s4 : Sz Try.prog 4 1 := ⟨_, ty.i4.eq, rfl⟩
attribute [instance] ty.s4
@[reducible] def ty.u4 := @Ut.mk Try.prog 4 _ Try.underlying4
attribute [instance] ty.u4
theorem ty.c4 : CelT Try.prog 4 := CelT.of Try.underlying4 rfl
attribute [instance] ty.c4
theorem ty.i5 : Inf Try.prog 5 Try.t5 := ⟨by kernel_rfl⟩
attribute [instance] ty.i5
theorem ty.s5 : Sz Try.prog 5 1 := ⟨_, ty.i5.eq, rfl⟩
attribute [instance] ty.s5
@[reducible] def ty.u5 := @Ut.mk Try.prog 5 _ Try.underlying5
attribute [instance] ty.u5
theorem ty.c5 : CelT Try.prog 5 := CelT.of Try.underlying5 rfl
attribute [instance] ty.c5
theorem ty.i6 : Inf Try.prog 6 Try.t6 := ⟨by kernel_rfl⟩
attribute [instance] ty.i6
theorem ty.s6 : Sz Try.prog 6 1 := ⟨_, ty.i6.eq, rfl⟩
attribute [instance] ty.s6
@[reducible] def ty.u6 := @Ut.mk Try.prog 6 _ Try.underlying6
attribute [instance] ty.u6
theorem ty.c6 : CelT Try.prog 6 := CelT.of Try.underlying6 rfl
attribute [instance] ty.c6
theorem ty.i7 : Inf Try.prog 7 Try.t7 := ⟨by kernel_rfl⟩
attribute [instance] ty.i7
theorem ty.s7 : Sz Try.prog 7 4 := ⟨_, ty.i7.eq, rfl⟩
attribute [instance] ty.s7
@[reducible] def ty.u7 := @Ut.mk Try.prog 7 _ Try.underlying7
attribute [instance] ty.u7
theorem ty.a7 : AggT Try.prog 7 4 := AggT.of Try.underlying7 rfl ty.i7.eq rfl
attribute [instance] ty.a7
theorem ty.i8 : Inf Try.prog 8 Try.t8 := ⟨by kernel_rfl⟩
attribute [instance] ty.i8
theorem ty.s8 : Sz Try.prog 8 4 := ⟨_, ty.i8.eq, rfl⟩
attribute [instance] ty.s8
@[reducible] def ty.u8 := @Ut.mk Try.prog 8 _ Try.underlying8
attribute [instance] ty.u8
theorem ty.a8 : AggT Try.prog 8 4 := AggT.of Try.underlying8 rfl ty.i8.eq rfl
attribute [instance] ty.a8
theorem ty.i9 : Inf Try.prog 9 Try.t9 := ⟨by kernel_rfl⟩
attribute [instance] ty.i9
theorem ty.s9 : Sz Try.prog 9 1 := ⟨_, ty.i9.eq, rfl⟩
attribute [instance] ty.s9
@[reducible] def ty.u9 := @Ut.mk Try.prog 9 _ Try.underlying9
attribute [instance] ty.u9
theorem ty.c9 : CelT Try.prog 9 := CelT.of Try.underlying9 rfl
attribute [instance] ty.c9
theorem ty.i10 : Inf Try.prog 10 Try.t10 := ⟨by kernel_rfl⟩
attribute [instance] ty.i10
theorem ty.s10 : Sz Try.prog 10 1 := ⟨_, ty.i10.eq, rfl⟩
attribute [instance] ty.s10
@[reducible] def ty.u10 := @Ut.mk Try.prog 10 _ Try.underlying10
attribute [instance] ty.u10
theorem ty.c10 : CelT Try.prog 10 := CelT.of Try.underlying10 rfl
attribute [instance] ty.c10
theorem ty.i11 : Inf Try.prog 11 Try.t11 := ⟨by kernel_rfl⟩
attribute [instance] ty.i11
theorem ty.s11 : Sz Try.prog 11 1 := ⟨_, ty.i11.eq, rfl⟩
attribute [instance] ty.s11
@[reducible] def ty.u11 := @Ut.mk Try.prog 11 _ Try.underlying11
attribute [instance] ty.u11
theorem ty.c11 : CelT Try.prog 11 := CelT.of Try.underlying11 rfl
attribute [instance] ty.c11
theorem ty.i12 : Inf Try.prog 12 Try.t12 := ⟨by kernel_rfl⟩
attribute [instance] ty.i12
theorem ty.s12 : Sz Try.prog 12 1 := ⟨_, ty.i12.eq, rfl⟩
attribute [instance] ty.s12
@[reducible] def ty.u12 := @Ut.mk Try.prog 12 _ Try.underlying12
attribute [instance] ty.u12
theorem ty.c12 : CelT Try.prog 12 := CelT.of Try.underlying12 rfl
attribute [instance] ty.c12
theorem ty.i13 : Inf Try.prog 13 Try.t13 := ⟨by kernel_rfl⟩
attribute [instance] ty.i13
theorem ty.s13 : Sz Try.prog 13 2 := ⟨_, ty.i13.eq, rfl⟩
attribute [instance] ty.s13
@[reducible] def ty.u13 := @Ut.mk Try.prog 13 _ Try.underlying13
attribute [instance] ty.u13
theorem ty.a13 : AggT Try.prog 13 2 := AggT.of Try.underlying13 rfl ty.i13.eq rfl
attribute [instance] ty.a13
theorem ty.i14 : Inf Try.prog 14 Try.t14 := ⟨by kernel_rfl⟩
attribute [instance] ty.i14
theorem ty.s14 : Sz Try.prog 14 2 := ⟨_, ty.i14.eq, rfl⟩
attribute [instance] ty.s14
@[reducible] def ty.u14 := @Ut.mk Try.prog 14 _ Try.underlying14
attribute [instance] ty.u14
theorem ty.a14 : AggT Try.prog 14 2 := AggT.of Try.underlying14 rfl ty.i14.eq rfl
attribute [instance] ty.a14
theorem ty.i15 : Inf Try.prog 15 Try.t15 := ⟨by kernel_rfl⟩
attribute [instance] ty.i15
theorem ty.s15 : Sz Try.prog 15 1 := ⟨_, ty.i15.eq, rfl⟩
attribute [instance] ty.s15
@[reducible] def ty.u15 := @Ut.mk Try.prog 15 _ Try.underlying15
attribute [instance] ty.u15
theorem ty.c15 : CelT Try.prog 15 := CelT.of Try.underlying15 rfl
attribute [instance] ty.c15
theorem ty.i16 : Inf Try.prog 16 Try.t16 := ⟨by kernel_rfl⟩
attribute [instance] ty.i16
theorem ty.s16 : Sz Try.prog 16 1 := ⟨_, ty.i16.eq, rfl⟩
attribute [instance] ty.s16
@[reducible] def ty.u16 := @Ut.mk Try.prog 16 _ Try.underlying16
attribute [instance] ty.u16
theorem ty.c16 : CelT Try.prog 16 := CelT.of Try.underlying16 rfl
attribute [instance] ty.c16
theorem ty.i17 : Inf Try.prog 17 Try.t17 := ⟨by kernel_rfl⟩
attribute [instance] ty.i17
theorem ty.s17 : Sz Try.prog 17 1 := ⟨_, ty.i17.eq, rfl⟩
attribute [instance] ty.s17
@[reducible] def ty.u17 := @Ut.mk Try.prog 17 _ Try.underlying17
attribute [instance] ty.u17
theorem ty.c17 : CelT Try.prog 17 := CelT.of Try.underlying17 rfl
attribute [instance] ty.c17
theorem ty.i18 : Inf Try.prog 18 Try.t18 := ⟨by kernel_rfl⟩
attribute [instance] ty.i18
theorem ty.s18 : Sz Try.prog 18 1 := ⟨_, ty.i18.eq, rfl⟩
attribute [instance] ty.s18
@[reducible] def ty.u18 := @Ut.mk Try.prog 18 _ Try.underlying18
attribute [instance] ty.u18
theorem ty.a18 : AggT Try.prog 18 1 := AggT.of Try.underlying18 rfl ty.i18.eq rfl
attribute [instance] ty.a18
theorem ty.i19 : Inf Try.prog 19 Try.t19 := ⟨by kernel_rfl⟩
attribute [instance] ty.i19
theorem ty.s19 : Sz Try.prog 19 1 := ⟨_, ty.i19.eq, rfl⟩
attribute [instance] ty.s19
@[reducible] def ty.u19 := @Ut.mk Try.prog 19 _ Try.underlying19
attribute [instance] ty.u19
theorem ty.a19 : AggT Try.prog 19 1 := AggT.of Try.underlying19 rfl ty.i19.eq rfl
attribute [instance] ty.a19
theorem ty.i20 : Inf Try.prog 20 Try.t20 := ⟨by kernel_rfl⟩
attribute [instance] ty.i20
theorem ty.s20 : Sz Try.prog 20 1 := ⟨_, ty.i20.eq, rfl⟩
attribute [instance] ty.s20
@[reducible] def ty.u20 := @Ut.mk Try.prog 20 _ Try.underlying20
attribute [instance] ty.u20
theorem ty.c20 : CelT Try.prog 20 := CelT.of Try.underlying20 rfl
attribute [instance] ty.c20
theorem ty.i21 : Inf Try.prog 21 Try.t21 := ⟨by kernel_rfl⟩
attribute [instance] ty.i21
theorem ty.s21 : Sz Try.prog 21 1 := ⟨_, ty.i21.eq, rfl⟩
attribute [instance] ty.s21
@[reducible] def ty.u21 := @Ut.mk Try.prog 21 _ Try.underlying21
attribute [instance] ty.u21
theorem ty.c21 : CelT Try.prog 21 := CelT.of Try.underlying21 rfl
attribute [instance] ty.c21
theorem ty.i22 : Inf Try.prog 22 Try.t22 := ⟨by kernel_rfl⟩
attribute [instance] ty.i22
theorem ty.s22 : Sz Try.prog 22 1 := ⟨_, ty.i22.eq, rfl⟩
attribute [instance] ty.s22
@[reducible] def ty.u22 := @Ut.mk Try.prog 22 _ Try.underlying22
attribute [instance] ty.u22
theorem ty.c22 : CelT Try.prog 22 := CelT.of Try.underlying22 rfl
attribute [instance] ty.c22
theorem ty.i23 : Inf Try.prog 23 Try.t23 := ⟨by kernel_rfl⟩
attribute [instance] ty.i23
theorem ty.s23 : Sz Try.prog 23 1 := ⟨_, ty.i23.eq, rfl⟩
attribute [instance] ty.s23
@[reducible] def ty.u23 := @Ut.mk Try.prog 23 _ Try.underlying23
attribute [instance] ty.u23
theorem ty.c23 : CelT Try.prog 23 := CelT.of Try.underlying23 rfl
attribute [instance] ty.c23
theorem ty.i24 : Inf Try.prog 24 Try.t24 := ⟨by kernel_rfl⟩
attribute [instance] ty.i24
theorem ty.s24 : Sz Try.prog 24 1 := ⟨_, ty.i24.eq, rfl⟩
attribute [instance] ty.s24
@[reducible] def ty.u24 := @Ut.mk Try.prog 24 _ Try.underlying24
attribute [instance] ty.u24
theorem ty.c24 : CelT Try.prog 24 := CelT.of Try.underlying24 rfl
attribute [instance] ty.c24
theorem ty.i25 : Inf Try.prog 25 Try.t25 := ⟨by kernel_rfl⟩
attribute [instance] ty.i25
theorem ty.s25 : Sz Try.prog 25 1 := ⟨_, ty.i25.eq, rfl⟩
attribute [instance] ty.s25
@[reducible] def ty.u25 := @Ut.mk Try.prog 25 _ Try.underlying25
attribute [instance] ty.u25
theorem ty.c25 : CelT Try.prog 25 := CelT.of Try.underlying25 rfl
attribute [instance] ty.c25
theorem ty.i26 : Inf Try.prog 26 Try.t26 := ⟨by kernel_rfl⟩
attribute [instance] ty.i26
theorem ty.s26 : Sz Try.prog 26 1 := ⟨_, ty.i26.eq, rfl⟩
attribute [instance] ty.s26
@[reducible] def ty.u26 := @Ut.mk Try.prog 26 _ Try.underlying26
attribute [instance] ty.u26
theorem ty.c26 : CelT Try.prog 26 := CelT.of Try.underlying26 rfl
attribute [instance] ty.c26
theorem ty.i27 : Inf Try.prog 27 Try.t27 := ⟨by kernel_rfl⟩
attribute [instance] ty.i27
theorem ty.s27 : Sz Try.prog 27 1 := ⟨_, ty.i27.eq, rfl⟩
attribute [instance] ty.s27
@[reducible] def ty.u27 := @Ut.mk Try.prog 27 _ Try.underlying27
attribute [instance] ty.u27
theorem ty.c27 : CelT Try.prog 27 := CelT.of Try.underlying27 rfl
attribute [instance] ty.c27
theorem ty.i28 : Inf Try.prog 28 Try.t28 := ⟨by kernel_rfl⟩
attribute [instance] ty.i28
theorem ty.s28 : Sz Try.prog 28 4 := ⟨_, ty.i28.eq, rfl⟩
attribute [instance] ty.s28
@[reducible] def ty.u28 := @Ut.mk Try.prog 28 _ Try.underlying28
attribute [instance] ty.u28
theorem ty.a28 : AggT Try.prog 28 4 := AggT.of Try.underlying28 rfl ty.i28.eq rfl
attribute [instance] ty.a28
theorem ty.i29 : Inf Try.prog 29 Try.t29 := ⟨by kernel_rfl⟩
attribute [instance] ty.i29
theorem ty.s29 : Sz Try.prog 29 1 := ⟨_, ty.i29.eq, rfl⟩
attribute [instance] ty.s29
@[reducible] def ty.u29 := @Ut.mk Try.prog 29 _ Try.underlying29
attribute [instance] ty.u29
theorem ty.c29 : CelT Try.prog 29 := CelT.of Try.underlying29 rfl
attribute [instance] ty.c29
theorem ty.i30 : Inf Try.prog 30 Try.t30 := ⟨by kernel_rfl⟩
attribute [instance] ty.i30
theorem ty.s30 : Sz Try.prog 30 1 := ⟨_, ty.i30.eq, rfl⟩
attribute [instance] ty.s30
@[reducible] def ty.u30 := @Ut.mk Try.prog 30 _ Try.underlying30
attribute [instance] ty.u30
theorem ty.a30 : AggT Try.prog 30 1 := AggT.of Try.underlying30 rfl ty.i30.eq rfl
attribute [instance] ty.a30
theorem ty.i31 : Inf Try.prog 31 Try.t31 := ⟨by kernel_rfl⟩
attribute [instance] ty.i31
theorem ty.s31 : Sz Try.prog 31 1 := ⟨_, ty.i31.eq, rfl⟩
attribute [instance] ty.s31
@[reducible] def ty.u31 := @Ut.mk Try.prog 31 _ Try.underlying31
attribute [instance] ty.u31
theorem ty.a31 : AggT Try.prog 31 1 := AggT.of Try.underlying31 rfl ty.i31.eq rfl
attribute [instance] ty.a31
theorem ty.i32 : Inf Try.prog 32 Try.t32 := ⟨by kernel_rfl⟩
attribute [instance] ty.i32
theorem ty.s32 : Sz Try.prog 32 1 := ⟨_, ty.i32.eq, rfl⟩
attribute [instance] ty.s32
@[reducible] def ty.u32 := @Ut.mk Try.prog 32 _ Try.underlying32
attribute [instance] ty.u32
theorem ty.c32 : CelT Try.prog 32 := CelT.of Try.underlying32 rfl
attribute [instance] ty.c32
theorem ty.i33 : Inf Try.prog 33 Try.t33 := ⟨by kernel_rfl⟩
attribute [instance] ty.i33
theorem ty.s33 : Sz Try.prog 33 1 := ⟨_, ty.i33.eq, rfl⟩
attribute [instance] ty.s33
@[reducible] def ty.u33 := @Ut.mk Try.prog 33 _ Try.underlying33
attribute [instance] ty.u33
theorem ty.c33 : CelT Try.prog 33 := CelT.of Try.underlying33 rfl
attribute [instance] ty.c33
theorem ty.i34 : Inf Try.prog 34 Try.t34 := ⟨by kernel_rfl⟩
attribute [instance] ty.i34
theorem ty.s34 : Sz Try.prog 34 3 := ⟨_, ty.i34.eq, rfl⟩
attribute [instance] ty.s34
@[reducible] def ty.u34 := @Ut.mk Try.prog 34 _ Try.underlying34
attribute [instance] ty.u34
theorem ty.a34 : AggT Try.prog 34 3 := AggT.of Try.underlying34 rfl ty.i34.eq rfl
attribute [instance] ty.a34
theorem ty.i35 : Inf Try.prog 35 Try.t35 := ⟨by kernel_rfl⟩
attribute [instance] ty.i35
theorem ty.s35 : Sz Try.prog 35 3 := ⟨_, ty.i35.eq, rfl⟩
attribute [instance] ty.s35
@[reducible] def ty.u35 := @Ut.mk Try.prog 35 _ Try.underlying35
attribute [instance] ty.u35
theorem ty.a35 : AggT Try.prog 35 3 := AggT.of Try.underlying35 rfl ty.i35.eq rfl
attribute [instance] ty.a35
theorem ty.i36 : Inf Try.prog 36 Try.t36 := ⟨by kernel_rfl⟩
attribute [instance] ty.i36
theorem ty.s36 : Sz Try.prog 36 1 := ⟨_, ty.i36.eq, rfl⟩
attribute [instance] ty.s36
@[reducible] def ty.u36 := @Ut.mk Try.prog 36 _ Try.underlying36
attribute [instance] ty.u36
theorem ty.c36 : CelT Try.prog 36 := CelT.of Try.underlying36 rfl
attribute [instance] ty.c36
theorem ty.i37 : Inf Try.prog 37 Try.t37 := ⟨by kernel_rfl⟩
attribute [instance] ty.i37
theorem ty.s37 : Sz Try.prog 37 1 := ⟨_, ty.i37.eq, rfl⟩
attribute [instance] ty.s37
@[reducible] def ty.u37 := @Ut.mk Try.prog 37 _ Try.underlying37
attribute [instance] ty.u37
theorem ty.c37 : CelT Try.prog 37 := CelT.of Try.underlying37 rfl
attribute [instance] ty.c37
theorem ty.i38 : Inf Try.prog 38 Try.t38 := ⟨by kernel_rfl⟩
attribute [instance] ty.i38
theorem ty.s38 : Sz Try.prog 38 1 := ⟨_, ty.i38.eq, rfl⟩
attribute [instance] ty.s38
@[reducible] def ty.u38 := @Ut.mk Try.prog 38 _ Try.underlying38
attribute [instance] ty.u38
theorem ty.c38 : CelT Try.prog 38 := CelT.of Try.underlying38 rfl
attribute [instance] ty.c38
theorem ty.i39 : Inf Try.prog 39 Try.t39 := ⟨by kernel_rfl⟩
attribute [instance] ty.i39
theorem ty.s39 : Sz Try.prog 39 1 := ⟨_, ty.i39.eq, rfl⟩
attribute [instance] ty.s39
@[reducible] def ty.u39 := @Ut.mk Try.prog 39 _ Try.underlying39
attribute [instance] ty.u39
theorem ty.c39 : CelT Try.prog 39 := CelT.of Try.underlying39 rfl
attribute [instance] ty.c39
theorem ty.i40 : Inf Try.prog 40 Try.t40 := ⟨by kernel_rfl⟩
attribute [instance] ty.i40
theorem ty.s40 : Sz Try.prog 40 1 := ⟨_, ty.i40.eq, rfl⟩
attribute [instance] ty.s40
@[reducible] def ty.u40 := @Ut.mk Try.prog 40 _ Try.underlying40
attribute [instance] ty.u40
theorem ty.c40 : CelT Try.prog 40 := CelT.of Try.underlying40 rfl
attribute [instance] ty.c40
theorem ty.i41 : Inf Try.prog 41 Try.t41 := ⟨by kernel_rfl⟩
attribute [instance] ty.i41
theorem ty.s41 : Sz Try.prog 41 1 := ⟨_, ty.i41.eq, rfl⟩
attribute [instance] ty.s41
@[reducible] def ty.u41 := @Ut.mk Try.prog 41 _ Try.underlying41
attribute [instance] ty.u41
theorem ty.c41 : CelT Try.prog 41 := CelT.of Try.underlying41 rfl
attribute [instance] ty.c41
theorem ty.i42 : Inf Try.prog 42 Try.t42 := ⟨by kernel_rfl⟩
attribute [instance] ty.i42
theorem ty.s42 : Sz Try.prog 42 1 := ⟨_, ty.i42.eq, rfl⟩
attribute [instance] ty.s42
@[reducible] def ty.u42 := @Ut.mk Try.prog 42 _ Try.underlying42
attribute [instance] ty.u42
theorem ty.c42 : CelT Try.prog 42 := CelT.of Try.underlying42 rfl
attribute [instance] ty.c42
theorem ty.i43 : Inf Try.prog 43 Try.t43 := ⟨by kernel_rfl⟩
attribute [instance] ty.i43
theorem ty.s43 : Sz Try.prog 43 1 := ⟨_, ty.i43.eq, rfl⟩
attribute [instance] ty.s43
@[reducible] def ty.u43 := @Ut.mk Try.prog 43 _ Try.underlying43
attribute [instance] ty.u43
theorem ty.c43 : CelT Try.prog 43 := CelT.of Try.underlying43 rfl
attribute [instance] ty.c43
theorem ty.i44 : Inf Try.prog 44 Try.t44 := ⟨by kernel_rfl⟩
attribute [instance] ty.i44
theorem ty.s44 : Sz Try.prog 44 1 := ⟨_, ty.i44.eq, rfl⟩
attribute [instance] ty.s44
@[reducible] def ty.u44 := @Ut.mk Try.prog 44 _ Try.underlying44
attribute [instance] ty.u44
theorem ty.c44 : CelT Try.prog 44 := CelT.of Try.underlying44 rfl
attribute [instance] ty.c44
theorem ty.i45 : Inf Try.prog 45 Try.t45 := ⟨by kernel_rfl⟩
attribute [instance] ty.i45
theorem ty.s45 : Sz Try.prog 45 1 := ⟨_, ty.i45.eq, rfl⟩
attribute [instance] ty.s45
@[reducible] def ty.u45 := @Ut.mk Try.prog 45 _ Try.underlying45
attribute [instance] ty.u45
theorem ty.c45 : CelT Try.prog 45 := CelT.of Try.underlying45 rfl
attribute [instance] ty.c45
theorem ty.i46 : Inf Try.prog 46 Try.t46 := ⟨by kernel_rfl⟩
attribute [instance] ty.i46
theorem ty.s46 : Sz Try.prog 46 4 := ⟨_, ty.i46.eq, rfl⟩
attribute [instance] ty.s46
@[reducible] def ty.u46 := @Ut.mk Try.prog 46 _ Try.underlying46
attribute [instance] ty.u46
theorem ty.a46 : AggT Try.prog 46 4 := AggT.of Try.underlying46 rfl ty.i46.eq rfl
attribute [instance] ty.a46
theorem ty.i47 : Inf Try.prog 47 Try.t47 := ⟨by kernel_rfl⟩
attribute [instance] ty.i47
theorem ty.s47 : Sz Try.prog 47 4 := ⟨_, ty.i47.eq, rfl⟩
attribute [instance] ty.s47
@[reducible] def ty.u47 := @Ut.mk Try.prog 47 _ Try.underlying47
attribute [instance] ty.u47
theorem ty.a47 : AggT Try.prog 47 4 := AggT.of Try.underlying47 rfl ty.i47.eq rfl
attribute [instance] ty.a47
theorem ty.i48 : Inf Try.prog 48 Try.t48 := ⟨by kernel_rfl⟩
attribute [instance] ty.i48
theorem ty.s48 : Sz Try.prog 48 1 := ⟨_, ty.i48.eq, rfl⟩
attribute [instance] ty.s48
@[reducible] def ty.u48 := @Ut.mk Try.prog 48 _ Try.underlying48
attribute [instance] ty.u48
theorem ty.c48 : CelT Try.prog 48 := CelT.of Try.underlying48 rfl
attribute [instance] ty.c48
theorem ty.i49 : Inf Try.prog 49 Try.t49 := ⟨by kernel_rfl⟩
attribute [instance] ty.i49
theorem ty.s49 : Sz Try.prog 49 1 := ⟨_, ty.i49.eq, rfl⟩
attribute [instance] ty.s49
@[reducible] def ty.u49 := @Ut.mk Try.prog 49 _ Try.underlying49
attribute [instance] ty.u49
theorem ty.c49 : CelT Try.prog 49 := CelT.of Try.underlying49 rfl
attribute [instance] ty.c49
theorem ty.i50 : Inf Try.prog 50 Try.t50 := ⟨by kernel_rfl⟩
attribute [instance] ty.i50
theorem ty.s50 : Sz Try.prog 50 1 := ⟨_, ty.i50.eq, rfl⟩
attribute [instance] ty.s50
@[reducible] def ty.u50 := @Ut.mk Try.prog 50 _ Try.underlying50
attribute [instance] ty.u50
theorem ty.c50 : CelT Try.prog 50 := CelT.of Try.underlying50 rfl
attribute [instance] ty.c50
theorem ty.i51 : Inf Try.prog 51 Try.t51 := ⟨by kernel_rfl⟩
attribute [instance] ty.i51
theorem ty.s51 : Sz Try.prog 51 1 := ⟨_, ty.i51.eq, rfl⟩
attribute [instance] ty.s51
@[reducible] def ty.u51 := @Ut.mk Try.prog 51 _ Try.underlying51
attribute [instance] ty.u51
theorem ty.c51 : CelT Try.prog 51 := CelT.of Try.underlying51 rfl
attribute [instance] ty.c51
theorem ty.i52 : Inf Try.prog 52 Try.t52 := ⟨by kernel_rfl⟩
attribute [instance] ty.i52
theorem ty.s52 : Sz Try.prog 52 2 := ⟨_, ty.i52.eq, rfl⟩
attribute [instance] ty.s52
@[reducible] def ty.u52 := @Ut.mk Try.prog 52 _ Try.underlying52
attribute [instance] ty.u52
theorem ty.a52 : AggT Try.prog 52 2 := AggT.of Try.underlying52 rfl ty.i52.eq rfl
attribute [instance] ty.a52
theorem ty.i53 : Inf Try.prog 53 Try.t53 := ⟨by kernel_rfl⟩
attribute [instance] ty.i53
theorem ty.s53 : Sz Try.prog 53 3 := ⟨_, ty.i53.eq, rfl⟩
attribute [instance] ty.s53
@[reducible] def ty.u53 := @Ut.mk Try.prog 53 _ Try.underlying53
attribute [instance] ty.u53
theorem ty.a53 : AggT Try.prog 53 3 := AggT.of Try.underlying53 rfl ty.i53.eq rfl
attribute [instance] ty.a53
theorem ty.i54 : Inf Try.prog 54 Try.t54 := ⟨by kernel_rfl⟩
attribute [instance] ty.i54
theorem ty.s54 : Sz Try.prog 54 1 := ⟨_, ty.i54.eq, rfl⟩
attribute [instance] ty.s54
@[reducible] def ty.u54 := @Ut.mk Try.prog 54 _ Try.underlying54
attribute [instance] ty.u54
theorem ty.c54 : CelT Try.prog 54 := CelT.of Try.underlying54 rfl
attribute [instance] ty.c54
theorem ty.i55 : Inf Try.prog 55 Try.t55 := ⟨by kernel_rfl⟩
attribute [instance] ty.i55
theorem ty.s55 : Sz Try.prog 55 1 := ⟨_, ty.i55.eq, rfl⟩
attribute [instance] ty.s55
@[reducible] def ty.u55 := @Ut.mk Try.prog 55 _ Try.underlying55
attribute [instance] ty.u55
theorem ty.c55 : CelT Try.prog 55 := CelT.of Try.underlying55 rfl
attribute [instance] ty.c55
theorem ty.i56 : Inf Try.prog 56 Try.t56 := ⟨by kernel_rfl⟩
attribute [instance] ty.i56
theorem ty.s56 : Sz Try.prog 56 1 := ⟨_, ty.i56.eq, rfl⟩
attribute [instance] ty.s56
@[reducible] def ty.u56 := @Ut.mk Try.prog 56 _ Try.underlying56
attribute [instance] ty.u56
theorem ty.c56 : CelT Try.prog 56 := CelT.of Try.underlying56 rfl
attribute [instance] ty.c56
theorem ty.i57 : Inf Try.prog 57 Try.t57 := ⟨by kernel_rfl⟩
attribute [instance] ty.i57
theorem ty.s57 : Sz Try.prog 57 5 := ⟨_, ty.i57.eq, rfl⟩
attribute [instance] ty.s57
@[reducible] def ty.u57 := @Ut.mk Try.prog 57 _ Try.underlying57
attribute [instance] ty.u57
theorem ty.a57 : AggT Try.prog 57 5 := AggT.of Try.underlying57 rfl ty.i57.eq rfl
attribute [instance] ty.a57
theorem ty.i58 : Inf Try.prog 58 Try.t58 := ⟨by kernel_rfl⟩
attribute [instance] ty.i58
theorem ty.s58 : Sz Try.prog 58 5 := ⟨_, ty.i58.eq, rfl⟩
attribute [instance] ty.s58
@[reducible] def ty.u58 := @Ut.mk Try.prog 58 _ Try.underlying58
attribute [instance] ty.u58
theorem ty.a58 : AggT Try.prog 58 5 := AggT.of Try.underlying58 rfl ty.i58.eq rfl
attribute [instance] ty.a58
theorem ty.i59 : Inf Try.prog 59 Try.t59 := ⟨by kernel_rfl⟩
attribute [instance] ty.i59
theorem ty.s59 : Sz Try.prog 59 1 := ⟨_, ty.i59.eq, rfl⟩
attribute [instance] ty.s59
@[reducible] def ty.u59 := @Ut.mk Try.prog 59 _ Try.underlying59
attribute [instance] ty.u59
theorem ty.c59 : CelT Try.prog 59 := CelT.of Try.underlying59 rfl
attribute [instance] ty.c59
theorem ty.i60 : Inf Try.prog 60 Try.t60 := ⟨by kernel_rfl⟩
attribute [instance] ty.i60
theorem ty.s60 : Sz Try.prog 60 1 := ⟨_, ty.i60.eq, rfl⟩
attribute [instance] ty.s60
@[reducible] def ty.u60 := @Ut.mk Try.prog 60 _ Try.underlying60
attribute [instance] ty.u60
theorem ty.c60 : CelT Try.prog 60 := CelT.of Try.underlying60 rfl
attribute [instance] ty.c60
theorem ty.i61 : Inf Try.prog 61 Try.t61 := ⟨by kernel_rfl⟩
attribute [instance] ty.i61
theorem ty.s61 : Sz Try.prog 61 1 := ⟨_, ty.i61.eq, rfl⟩
attribute [instance] ty.s61
@[reducible] def ty.u61 := @Ut.mk Try.prog 61 _ Try.underlying61
attribute [instance] ty.u61
theorem ty.c61 : CelT Try.prog 61 := CelT.of Try.underlying61 rfl
attribute [instance] ty.c61
theorem ty.i62 : Inf Try.prog 62 Try.t62 := ⟨by kernel_rfl⟩
attribute [instance] ty.i62
theorem ty.s62 : Sz Try.prog 62 1 := ⟨_, ty.i62.eq, rfl⟩
attribute [instance] ty.s62
@[reducible] def ty.u62 := @Ut.mk Try.prog 62 _ Try.underlying62
attribute [instance] ty.u62
theorem ty.c62 : CelT Try.prog 62 := CelT.of Try.underlying62 rfl
attribute [instance] ty.c62
theorem ty.i63 : Inf Try.prog 63 Try.t63 := ⟨by kernel_rfl⟩
attribute [instance] ty.i63
theorem ty.s63 : Sz Try.prog 63 1 := ⟨_, ty.i63.eq, rfl⟩
attribute [instance] ty.s63
@[reducible] def ty.u63 := @Ut.mk Try.prog 63 _ Try.underlying63
attribute [instance] ty.u63
theorem ty.c63 : CelT Try.prog 63 := CelT.of Try.underlying63 rfl
attribute [instance] ty.c63
theorem ty.i64 : Inf Try.prog 64 Try.t64 := ⟨by kernel_rfl⟩
attribute [instance] ty.i64
theorem ty.s64 : Sz Try.prog 64 1 := ⟨_, ty.i64.eq, rfl⟩
attribute [instance] ty.s64
@[reducible] def ty.u64 := @Ut.mk Try.prog 64 _ Try.underlying64
attribute [instance] ty.u64
theorem ty.c64 : CelT Try.prog 64 := CelT.of Try.underlying64 rfl
attribute [instance] ty.c64
theorem ty.i65 : Inf Try.prog 65 Try.t65 := ⟨by kernel_rfl⟩
attribute [instance] ty.i65
theorem ty.s65 : Sz Try.prog 65 1 := ⟨_, ty.i65.eq, rfl⟩
attribute [instance] ty.s65
@[reducible] def ty.u65 := @Ut.mk Try.prog 65 _ Try.underlying65
attribute [instance] ty.u65
theorem ty.c65 : CelT Try.prog 65 := CelT.of Try.underlying65 rfl
attribute [instance] ty.c65
theorem ty.i66 : Inf Try.prog 66 Try.t66 := ⟨by kernel_rfl⟩
attribute [instance] ty.i66
theorem ty.s66 : Sz Try.prog 66 1 := ⟨_, ty.i66.eq, rfl⟩
attribute [instance] ty.s66
@[reducible] def ty.u66 := @Ut.mk Try.prog 66 _ Try.underlying66
attribute [instance] ty.u66
theorem ty.c66 : CelT Try.prog 66 := CelT.of Try.underlying66 rfl
attribute [instance] ty.c66
theorem ty.i67 : Inf Try.prog 67 Try.t67 := ⟨by kernel_rfl⟩
attribute [instance] ty.i67
theorem ty.s67 : Sz Try.prog 67 1 := ⟨_, ty.i67.eq, rfl⟩
attribute [instance] ty.s67
@[reducible] def ty.u67 := @Ut.mk Try.prog 67 _ Try.underlying67
attribute [instance] ty.u67
theorem ty.c67 : CelT Try.prog 67 := CelT.of Try.underlying67 rfl
attribute [instance] ty.c67
theorem ty.i68 : Inf Try.prog 68 Try.t68 := ⟨by kernel_rfl⟩
attribute [instance] ty.i68
theorem ty.s68 : Sz Try.prog 68 1 := ⟨_, ty.i68.eq, rfl⟩
attribute [instance] ty.s68
@[reducible] def ty.u68 := @Ut.mk Try.prog 68 _ Try.underlying68
attribute [instance] ty.u68
theorem ty.c68 : CelT Try.prog 68 := CelT.of Try.underlying68 rfl
attribute [instance] ty.c68
theorem ty.i69 : Inf Try.prog 69 Try.t69 := ⟨by kernel_rfl⟩
attribute [instance] ty.i69
theorem ty.s69 : Sz Try.prog 69 16 := ⟨_, ty.i69.eq, rfl⟩
attribute [instance] ty.s69
@[reducible] def ty.u69 := @Ut.mk Try.prog 69 _ Try.underlying69
attribute [instance] ty.u69
theorem ty.a69 : AggT Try.prog 69 16 := AggT.of Try.underlying69 rfl ty.i69.eq rfl
attribute [instance] ty.a69
theorem ty.i70 : Inf Try.prog 70 Try.t70 := ⟨by kernel_rfl⟩
attribute [instance] ty.i70
theorem ty.s70 : Sz Try.prog 70 256 := ⟨_, ty.i70.eq, rfl⟩
attribute [instance] ty.s70
@[reducible] def ty.u70 := @Ut.mk Try.prog 70 _ Try.underlying70
attribute [instance] ty.u70
theorem ty.a70 : AggT Try.prog 70 256 := AggT.of Try.underlying70 rfl ty.i70.eq rfl
attribute [instance] ty.a70
theorem ty.i71 : Inf Try.prog 71 Try.t71 := ⟨by kernel_rfl⟩
attribute [instance] ty.i71
theorem ty.s71 : Sz Try.prog 71 261 := ⟨_, ty.i71.eq, rfl⟩
attribute [instance] ty.s71
@[reducible] def ty.u71 := @Ut.mk Try.prog 71 _ Try.underlying71
attribute [instance] ty.u71
theorem ty.a71 : AggT Try.prog 71 261 := AggT.of Try.underlying71 rfl ty.i71.eq rfl
attribute [instance] ty.a71
theorem ty.i72 : Inf Try.prog 72 Try.t72 := ⟨by kernel_rfl⟩
attribute [instance] ty.i72
theorem ty.s72 : Sz Try.prog 72 261 := ⟨_, ty.i72.eq, rfl⟩
attribute [instance] ty.s72
@[reducible] def ty.u72 := @Ut.mk Try.prog 72 _ Try.underlying72
attribute [instance] ty.u72
theorem ty.a72 : AggT Try.prog 72 261 := AggT.of Try.underlying72 rfl ty.i72.eq rfl
attribute [instance] ty.a72
theorem ty.i73 : Inf Try.prog 73 Try.t73 := ⟨by kernel_rfl⟩
attribute [instance] ty.i73
theorem ty.s73 : Sz Try.prog 73 1 := ⟨_, ty.i73.eq, rfl⟩
attribute [instance] ty.s73
@[reducible] def ty.u73 := @Ut.mk Try.prog 73 _ Try.underlying73
attribute [instance] ty.u73
theorem ty.c73 : CelT Try.prog 73 := CelT.of Try.underlying73 rfl
attribute [instance] ty.c73
theorem ty.i74 : Inf Try.prog 74 Try.t74 := ⟨by kernel_rfl⟩
attribute [instance] ty.i74
theorem ty.s74 : Sz Try.prog 74 1 := ⟨_, ty.i74.eq, rfl⟩
attribute [instance] ty.s74
@[reducible] def ty.u74 := @Ut.mk Try.prog 74 _ Try.underlying74
attribute [instance] ty.u74
theorem ty.c74 : CelT Try.prog 74 := CelT.of Try.underlying74 rfl
attribute [instance] ty.c74
theorem ty.i75 : Inf Try.prog 75 Try.t75 := ⟨by kernel_rfl⟩
attribute [instance] ty.i75
theorem ty.s75 : Sz Try.prog 75 1 := ⟨_, ty.i75.eq, rfl⟩
attribute [instance] ty.s75
@[reducible] def ty.u75 := @Ut.mk Try.prog 75 _ Try.underlying75
attribute [instance] ty.u75
theorem ty.c75 : CelT Try.prog 75 := CelT.of Try.underlying75 rfl
attribute [instance] ty.c75
theorem ty.i76 : Inf Try.prog 76 Try.t76 := ⟨by kernel_rfl⟩
attribute [instance] ty.i76
theorem ty.s76 : Sz Try.prog 76 5 := ⟨_, ty.i76.eq, rfl⟩
attribute [instance] ty.s76
@[reducible] def ty.u76 := @Ut.mk Try.prog 76 _ Try.underlying76
attribute [instance] ty.u76
theorem ty.a76 : AggT Try.prog 76 5 := AggT.of Try.underlying76 rfl ty.i76.eq rfl
attribute [instance] ty.a76
theorem ty.i77 : Inf Try.prog 77 Try.t77 := ⟨by kernel_rfl⟩
attribute [instance] ty.i77
theorem ty.s77 : Sz Try.prog 77 5 := ⟨_, ty.i77.eq, rfl⟩
attribute [instance] ty.s77
@[reducible] def ty.u77 := @Ut.mk Try.prog 77 _ Try.underlying77
attribute [instance] ty.u77
theorem ty.a77 : AggT Try.prog 77 5 := AggT.of Try.underlying77 rfl ty.i77.eq rfl
attribute [instance] ty.a77
theorem ty.i78 : Inf Try.prog 78 Try.t78 := ⟨by kernel_rfl⟩
attribute [instance] ty.i78
theorem ty.s78 : Sz Try.prog 78 1 := ⟨_, ty.i78.eq, rfl⟩
attribute [instance] ty.s78
@[reducible] def ty.u78 := @Ut.mk Try.prog 78 _ Try.underlying78
attribute [instance] ty.u78
theorem ty.c78 : CelT Try.prog 78 := CelT.of Try.underlying78 rfl
attribute [instance] ty.c78
theorem ty.i79 : Inf Try.prog 79 Try.t79 := ⟨by kernel_rfl⟩
attribute [instance] ty.i79
theorem ty.s79 : Sz Try.prog 79 1 := ⟨_, ty.i79.eq, rfl⟩
attribute [instance] ty.s79
@[reducible] def ty.u79 := @Ut.mk Try.prog 79 _ Try.underlying79
attribute [instance] ty.u79
theorem ty.c79 : CelT Try.prog 79 := CelT.of Try.underlying79 rfl
attribute [instance] ty.c79
theorem ty.i80 : Inf Try.prog 80 Try.t80 := ⟨by kernel_rfl⟩
attribute [instance] ty.i80
theorem ty.s80 : Sz Try.prog 80 1 := ⟨_, ty.i80.eq, rfl⟩
attribute [instance] ty.s80
@[reducible] def ty.u80 := @Ut.mk Try.prog 80 _ Try.underlying80
attribute [instance] ty.u80
theorem ty.c80 : CelT Try.prog 80 := CelT.of Try.underlying80 rfl
attribute [instance] ty.c80
theorem ty.i81 : Inf Try.prog 81 Try.t81 := ⟨by kernel_rfl⟩
attribute [instance] ty.i81
theorem ty.s81 : Sz Try.prog 81 1 := ⟨_, ty.i81.eq, rfl⟩
attribute [instance] ty.s81
@[reducible] def ty.u81 := @Ut.mk Try.prog 81 _ Try.underlying81
attribute [instance] ty.u81
theorem ty.c81 : CelT Try.prog 81 := CelT.of Try.underlying81 rfl
attribute [instance] ty.c81
theorem ty.i82 : Inf Try.prog 82 Try.t82 := ⟨by kernel_rfl⟩
attribute [instance] ty.i82
theorem ty.s82 : Sz Try.prog 82 1 := ⟨_, ty.i82.eq, rfl⟩
attribute [instance] ty.s82
@[reducible] def ty.u82 := @Ut.mk Try.prog 82 _ Try.underlying82
attribute [instance] ty.u82
theorem ty.c82 : CelT Try.prog 82 := CelT.of Try.underlying82 rfl
attribute [instance] ty.c82
theorem ty.i83 : Inf Try.prog 83 Try.t83 := ⟨by kernel_rfl⟩
attribute [instance] ty.i83
theorem ty.s83 : Sz Try.prog 83 1 := ⟨_, ty.i83.eq, rfl⟩
attribute [instance] ty.s83
@[reducible] def ty.u83 := @Ut.mk Try.prog 83 _ Try.underlying83
attribute [instance] ty.u83
theorem ty.c83 : CelT Try.prog 83 := CelT.of Try.underlying83 rfl
attribute [instance] ty.c83
theorem ty.i84 : Inf Try.prog 84 Try.t84 := ⟨by kernel_rfl⟩
attribute [instance] ty.i84
theorem ty.s84 : Sz Try.prog 84 1 := ⟨_, ty.i84.eq, rfl⟩
attribute [instance] ty.s84
@[reducible] def ty.u84 := @Ut.mk Try.prog 84 _ Try.underlying84
attribute [instance] ty.u84
theorem ty.c84 : CelT Try.prog 84 := CelT.of Try.underlying84 rfl
attribute [instance] ty.c84
theorem ty.i85 : Inf Try.prog 85 Try.t85 := ⟨by kernel_rfl⟩
attribute [instance] ty.i85
theorem ty.s85 : Sz Try.prog 85 1 := ⟨_, ty.i85.eq, rfl⟩
attribute [instance] ty.s85
@[reducible] def ty.u85 := @Ut.mk Try.prog 85 _ Try.underlying85
attribute [instance] ty.u85
theorem ty.c85 : CelT Try.prog 85 := CelT.of Try.underlying85 rfl
attribute [instance] ty.c85
theorem ty.i86 : Inf Try.prog 86 Try.t86 := ⟨by kernel_rfl⟩
attribute [instance] ty.i86
theorem ty.s86 : Sz Try.prog 86 1 := ⟨_, ty.i86.eq, rfl⟩
attribute [instance] ty.s86
@[reducible] def ty.u86 := @Ut.mk Try.prog 86 _ Try.underlying86
attribute [instance] ty.u86
theorem ty.c86 : CelT Try.prog 86 := CelT.of Try.underlying86 rfl
attribute [instance] ty.c86
theorem ty.i87 : Inf Try.prog 87 Try.t87 := ⟨by kernel_rfl⟩
attribute [instance] ty.i87
theorem ty.s87 : Sz Try.prog 87 1 := ⟨_, ty.i87.eq, rfl⟩
attribute [instance] ty.s87
@[reducible] def ty.u87 := @Ut.mk Try.prog 87 _ Try.underlying87
attribute [instance] ty.u87
theorem ty.c87 : CelT Try.prog 87 := CelT.of Try.underlying87 rfl
attribute [instance] ty.c87
theorem ty.i88 : Inf Try.prog 88 Try.t88 := ⟨by kernel_rfl⟩
attribute [instance] ty.i88
theorem ty.s88 : Sz Try.prog 88 1 := ⟨_, ty.i88.eq, rfl⟩
attribute [instance] ty.s88
@[reducible] def ty.u88 := @Ut.mk Try.prog 88 _ Try.underlying88
attribute [instance] ty.u88
theorem ty.c88 : CelT Try.prog 88 := CelT.of Try.underlying88 rfl
attribute [instance] ty.c88
theorem ty.i89 : Inf Try.prog 89 Try.t89 := ⟨by kernel_rfl⟩
attribute [instance] ty.i89
theorem ty.s89 : Sz Try.prog 89 1 := ⟨_, ty.i89.eq, rfl⟩
attribute [instance] ty.s89
@[reducible] def ty.u89 := @Ut.mk Try.prog 89 _ Try.underlying89
attribute [instance] ty.u89
theorem ty.c89 : CelT Try.prog 89 := CelT.of Try.underlying89 rfl
attribute [instance] ty.c89
theorem ty.i90 : Inf Try.prog 90 Try.t90 := ⟨by kernel_rfl⟩
attribute [instance] ty.i90
theorem ty.s90 : Sz Try.prog 90 1 := ⟨_, ty.i90.eq, rfl⟩
attribute [instance] ty.s90
@[reducible] def ty.u90 := @Ut.mk Try.prog 90 _ Try.underlying90
attribute [instance] ty.u90
theorem ty.c90 : CelT Try.prog 90 := CelT.of Try.underlying90 rfl
attribute [instance] ty.c90
theorem ty.i91 : Inf Try.prog 91 Try.t91 := ⟨by kernel_rfl⟩
attribute [instance] ty.i91
theorem ty.s91 : Sz Try.prog 91 1 := ⟨_, ty.i91.eq, rfl⟩
attribute [instance] ty.s91
@[reducible] def ty.u91 := @Ut.mk Try.prog 91 _ Try.underlying91
attribute [instance] ty.u91
theorem ty.c91 : CelT Try.prog 91 := CelT.of Try.underlying91 rfl
attribute [instance] ty.c91
theorem ty.i92 : Inf Try.prog 92 Try.t92 := ⟨by kernel_rfl⟩
attribute [instance] ty.i92
theorem ty.s92 : Sz Try.prog 92 1 := ⟨_, ty.i92.eq, rfl⟩
attribute [instance] ty.s92
@[reducible] def ty.u92 := @Ut.mk Try.prog 92 _ Try.underlying92
attribute [instance] ty.u92
theorem ty.c92 : CelT Try.prog 92 := CelT.of Try.underlying92 rfl
attribute [instance] ty.c92
theorem ty.i93 : Inf Try.prog 93 Try.t93 := ⟨by kernel_rfl⟩
attribute [instance] ty.i93
theorem ty.s93 : Sz Try.prog 93 1 := ⟨_, ty.i93.eq, rfl⟩
attribute [instance] ty.s93
@[reducible] def ty.u93 := @Ut.mk Try.prog 93 _ Try.underlying93
attribute [instance] ty.u93
theorem ty.c93 : CelT Try.prog 93 := CelT.of Try.underlying93 rfl
attribute [instance] ty.c93
theorem ty.i94 : Inf Try.prog 94 Try.t94 := ⟨by kernel_rfl⟩
attribute [instance] ty.i94
theorem ty.s94 : Sz Try.prog 94 1 := ⟨_, ty.i94.eq, rfl⟩
attribute [instance] ty.s94
@[reducible] def ty.u94 := @Ut.mk Try.prog 94 _ Try.underlying94
attribute [instance] ty.u94
theorem ty.c94 : CelT Try.prog 94 := CelT.of Try.underlying94 rfl
attribute [instance] ty.c94
theorem ty.i95 : Inf Try.prog 95 Try.t95 := ⟨by kernel_rfl⟩
attribute [instance] ty.i95
theorem ty.s95 : Sz Try.prog 95 1 := ⟨_, ty.i95.eq, rfl⟩
attribute [instance] ty.s95
@[reducible] def ty.u95 := @Ut.mk Try.prog 95 _ Try.underlying95
attribute [instance] ty.u95
theorem ty.c95 : CelT Try.prog 95 := CelT.of Try.underlying95 rfl
attribute [instance] ty.c95
theorem ty.i96 : Inf Try.prog 96 Try.t96 := ⟨by kernel_rfl⟩
attribute [instance] ty.i96
theorem ty.s96 : Sz Try.prog 96 1 := ⟨_, ty.i96.eq, rfl⟩
attribute [instance] ty.s96
@[reducible] def ty.u96 := @Ut.mk Try.prog 96 _ Try.underlying96
attribute [instance] ty.u96
theorem ty.c96 : CelT Try.prog 96 := CelT.of Try.underlying96 rfl
attribute [instance] ty.c96
theorem ty.i97 : Inf Try.prog 97 Try.t97 := ⟨by kernel_rfl⟩
attribute [instance] ty.i97
theorem ty.s97 : Sz Try.prog 97 4 := ⟨_, ty.i97.eq, rfl⟩
attribute [instance] ty.s97
@[reducible] def ty.u97 := @Ut.mk Try.prog 97 _ Try.underlying97
attribute [instance] ty.u97
theorem ty.a97 : AggT Try.prog 97 4 := AggT.of Try.underlying97 rfl ty.i97.eq rfl
attribute [instance] ty.a97
theorem ty.i98 : Inf Try.prog 98 Try.t98 := ⟨by kernel_rfl⟩
attribute [instance] ty.i98
theorem ty.s98 : Sz Try.prog 98 4 := ⟨_, ty.i98.eq, rfl⟩
attribute [instance] ty.s98
@[reducible] def ty.u98 := @Ut.mk Try.prog 98 _ Try.underlying98
attribute [instance] ty.u98
theorem ty.a98 : AggT Try.prog 98 4 := AggT.of Try.underlying98 rfl ty.i98.eq rfl
attribute [instance] ty.a98
theorem ty.i99 : Inf Try.prog 99 Try.t99 := ⟨by kernel_rfl⟩
attribute [instance] ty.i99
theorem ty.s99 : Sz Try.prog 99 1 := ⟨_, ty.i99.eq, rfl⟩
attribute [instance] ty.s99
@[reducible] def ty.u99 := @Ut.mk Try.prog 99 _ Try.underlying99
attribute [instance] ty.u99
theorem ty.c99 : CelT Try.prog 99 := CelT.of Try.underlying99 rfl
attribute [instance] ty.c99
theorem ty.i100 : Inf Try.prog 100 Try.t100 := ⟨by kernel_rfl⟩
attribute [instance] ty.i100
theorem ty.s100 : Sz Try.prog 100 2 := ⟨_, ty.i100.eq, rfl⟩
attribute [instance] ty.s100
@[reducible] def ty.u100 := @Ut.mk Try.prog 100 _ Try.underlying100
attribute [instance] ty.u100
theorem ty.a100 : AggT Try.prog 100 2 := AggT.of Try.underlying100 rfl ty.i100.eq rfl
attribute [instance] ty.a100
theorem ty.i101 : Inf Try.prog 101 Try.t101 := ⟨by kernel_rfl⟩
attribute [instance] ty.i101
theorem ty.s101 : Sz Try.prog 101 1 := ⟨_, ty.i101.eq, rfl⟩
attribute [instance] ty.s101
@[reducible] def ty.u101 := @Ut.mk Try.prog 101 _ Try.underlying101
attribute [instance] ty.u101
theorem ty.c101 : CelT Try.prog 101 := CelT.of Try.underlying101 rfl
attribute [instance] ty.c101
theorem ty.i102 : Inf Try.prog 102 Try.t102 := ⟨by kernel_rfl⟩
attribute [instance] ty.i102
theorem ty.s102 : Sz Try.prog 102 1 := ⟨_, ty.i102.eq, rfl⟩
attribute [instance] ty.s102
@[reducible] def ty.u102 := @Ut.mk Try.prog 102 _ Try.underlying102
attribute [instance] ty.u102
theorem ty.c102 : CelT Try.prog 102 := CelT.of Try.underlying102 rfl
attribute [instance] ty.c102
theorem ty.i103 : Inf Try.prog 103 Try.t103 := ⟨by kernel_rfl⟩
attribute [instance] ty.i103
theorem ty.s103 : Sz Try.prog 103 1 := ⟨_, ty.i103.eq, rfl⟩
attribute [instance] ty.s103
@[reducible] def ty.u103 := @Ut.mk Try.prog 103 _ Try.underlying103
attribute [instance] ty.u103
theorem ty.c103 : CelT Try.prog 103 := CelT.of Try.underlying103 rfl
attribute [instance] ty.c103
theorem ty.i104 : Inf Try.prog 104 Try.t104 := ⟨by kernel_rfl⟩
attribute [instance] ty.i104
theorem ty.s104 : Sz Try.prog 104 1 := ⟨_, ty.i104.eq, rfl⟩
attribute [instance] ty.s104
@[reducible] def ty.u104 := @Ut.mk Try.prog 104 _ Try.underlying104
attribute [instance] ty.u104
theorem ty.c104 : CelT Try.prog 104 := CelT.of Try.underlying104 rfl
attribute [instance] ty.c104
theorem ty.i105 : Inf Try.prog 105 Try.t105 := ⟨by kernel_rfl⟩
attribute [instance] ty.i105
theorem ty.s105 : Sz Try.prog 105 1 := ⟨_, ty.i105.eq, rfl⟩
attribute [instance] ty.s105
@[reducible] def ty.u105 := @Ut.mk Try.prog 105 _ Try.underlying105
attribute [instance] ty.u105
theorem ty.c105 : CelT Try.prog 105 := CelT.of Try.underlying105 rfl
attribute [instance] ty.c105
theorem ty.i106 : Inf Try.prog 106 Try.t106 := ⟨by kernel_rfl⟩
attribute [instance] ty.i106
theorem ty.s106 : Sz Try.prog 106 1 := ⟨_, ty.i106.eq, rfl⟩
attribute [instance] ty.s106
@[reducible] def ty.u106 := @Ut.mk Try.prog 106 _ Try.underlying106
attribute [instance] ty.u106
theorem ty.c106 : CelT Try.prog 106 := CelT.of Try.underlying106 rfl
attribute [instance] ty.c106
theorem ty.i107 : Inf Try.prog 107 Try.t107 := ⟨by kernel_rfl⟩
attribute [instance] ty.i107
theorem ty.s107 : Sz Try.prog 107 1 := ⟨_, ty.i107.eq, rfl⟩
attribute [instance] ty.s107
@[reducible] def ty.u107 := @Ut.mk Try.prog 107 _ Try.underlying107
attribute [instance] ty.u107
theorem ty.c107 : CelT Try.prog 107 := CelT.of Try.underlying107 rfl
attribute [instance] ty.c107
theorem ty.i108 : Inf Try.prog 108 Try.t108 := ⟨by kernel_rfl⟩
attribute [instance] ty.i108
theorem ty.s108 : Sz Try.prog 108 1 := ⟨_, ty.i108.eq, rfl⟩
attribute [instance] ty.s108
@[reducible] def ty.u108 := @Ut.mk Try.prog 108 _ Try.underlying108
attribute [instance] ty.u108
theorem ty.c108 : CelT Try.prog 108 := CelT.of Try.underlying108 rfl
attribute [instance] ty.c108
theorem ty.i109 : Inf Try.prog 109 Try.t109 := ⟨by kernel_rfl⟩
attribute [instance] ty.i109
theorem ty.s109 : Sz Try.prog 109 1 := ⟨_, ty.i109.eq, rfl⟩
attribute [instance] ty.s109
@[reducible] def ty.u109 := @Ut.mk Try.prog 109 _ Try.underlying109
attribute [instance] ty.u109
theorem ty.c109 : CelT Try.prog 109 := CelT.of Try.underlying109 rfl
attribute [instance] ty.c109
theorem ty.i110 : Inf Try.prog 110 Try.t110 := ⟨by kernel_rfl⟩
attribute [instance] ty.i110
theorem ty.s110 : Sz Try.prog 110 1 := ⟨_, ty.i110.eq, rfl⟩
attribute [instance] ty.s110
@[reducible] def ty.u110 := @Ut.mk Try.prog 110 _ Try.underlying110
attribute [instance] ty.u110
theorem ty.c110 : CelT Try.prog 110 := CelT.of Try.underlying110 rfl
attribute [instance] ty.c110
theorem ty.i111 : Inf Try.prog 111 Try.t111 := ⟨by kernel_rfl⟩
attribute [instance] ty.i111
theorem ty.s111 : Sz Try.prog 111 1 := ⟨_, ty.i111.eq, rfl⟩
attribute [instance] ty.s111
@[reducible] def ty.u111 := @Ut.mk Try.prog 111 _ Try.underlying111
attribute [instance] ty.u111
theorem ty.c111 : CelT Try.prog 111 := CelT.of Try.underlying111 rfl
attribute [instance] ty.c111
theorem ty.i112 : Inf Try.prog 112 Try.t112 := ⟨by kernel_rfl⟩
attribute [instance] ty.i112
theorem ty.s112 : Sz Try.prog 112 1 := ⟨_, ty.i112.eq, rfl⟩
attribute [instance] ty.s112
@[reducible] def ty.u112 := @Ut.mk Try.prog 112 _ Try.underlying112
attribute [instance] ty.u112
theorem ty.c112 : CelT Try.prog 112 := CelT.of Try.underlying112 rfl
attribute [instance] ty.c112
theorem ty.i113 : Inf Try.prog 113 Try.t113 := ⟨by kernel_rfl⟩
attribute [instance] ty.i113
theorem ty.s113 : Sz Try.prog 113 1 := ⟨_, ty.i113.eq, rfl⟩
attribute [instance] ty.s113
@[reducible] def ty.u113 := @Ut.mk Try.prog 113 _ Try.underlying113
attribute [instance] ty.u113
theorem ty.c113 : CelT Try.prog 113 := CelT.of Try.underlying113 rfl
attribute [instance] ty.c113
theorem ty.i114 : Inf Try.prog 114 Try.t114 := ⟨by kernel_rfl⟩
attribute [instance] ty.i114
theorem ty.s114 : Sz Try.prog 114 1 := ⟨_, ty.i114.eq, rfl⟩
attribute [instance] ty.s114
@[reducible] def ty.u114 := @Ut.mk Try.prog 114 _ Try.underlying114
attribute [instance] ty.u114
theorem ty.c114 : CelT Try.prog 114 := CelT.of Try.underlying114 rfl
attribute [instance] ty.c114
theorem ty.i115 : Inf Try.prog 115 Try.t115 := ⟨by kernel_rfl⟩
attribute [instance] ty.i115
theorem ty.s115 : Sz Try.prog 115 1 := ⟨_, ty.i115.eq, rfl⟩
attribute [instance] ty.s115
@[reducible] def ty.u115 := @Ut.mk Try.prog 115 _ Try.underlying115
attribute [instance] ty.u115
theorem ty.c115 : CelT Try.prog 115 := CelT.of Try.underlying115 rfl
attribute [instance] ty.c115
theorem ty.i116 : Inf Try.prog 116 Try.t116 := ⟨by kernel_rfl⟩
attribute [instance] ty.i116
theorem ty.s116 : Sz Try.prog 116 1 := ⟨_, ty.i116.eq, rfl⟩
attribute [instance] ty.s116
@[reducible] def ty.u116 := @Ut.mk Try.prog 116 _ Try.underlying116
attribute [instance] ty.u116
theorem ty.c116 : CelT Try.prog 116 := CelT.of Try.underlying116 rfl
attribute [instance] ty.c116
theorem ty.i117 : Inf Try.prog 117 Try.t117 := ⟨by kernel_rfl⟩
attribute [instance] ty.i117
theorem ty.s117 : Sz Try.prog 117 1 := ⟨_, ty.i117.eq, rfl⟩
attribute [instance] ty.s117
@[reducible] def ty.u117 := @Ut.mk Try.prog 117 _ Try.underlying117
attribute [instance] ty.u117
theorem ty.c117 : CelT Try.prog 117 := CelT.of Try.underlying117 rfl
attribute [instance] ty.c117
theorem ty.i118 : Inf Try.prog 118 Try.t118 := ⟨by kernel_rfl⟩
attribute [instance] ty.i118
theorem ty.s118 : Sz Try.prog 118 1 := ⟨_, ty.i118.eq, rfl⟩
attribute [instance] ty.s118
@[reducible] def ty.u118 := @Ut.mk Try.prog 118 _ Try.underlying118
attribute [instance] ty.u118
theorem ty.c118 : CelT Try.prog 118 := CelT.of Try.underlying118 rfl
attribute [instance] ty.c118
theorem ty.i119 : Inf Try.prog 119 Try.t119 := ⟨by kernel_rfl⟩
attribute [instance] ty.i119
theorem ty.s119 : Sz Try.prog 119 1 := ⟨_, ty.i119.eq, rfl⟩
attribute [instance] ty.s119
@[reducible] def ty.u119 := @Ut.mk Try.prog 119 _ Try.underlying119
attribute [instance] ty.u119
theorem ty.c119 : CelT Try.prog 119 := CelT.of Try.underlying119 rfl
attribute [instance] ty.c119
theorem ty.i120 : Inf Try.prog 120 Try.t120 := ⟨by kernel_rfl⟩
attribute [instance] ty.i120
theorem ty.s120 : Sz Try.prog 120 1 := ⟨_, ty.i120.eq, rfl⟩
attribute [instance] ty.s120
@[reducible] def ty.u120 := @Ut.mk Try.prog 120 _ Try.underlying120
attribute [instance] ty.u120
theorem ty.c120 : CelT Try.prog 120 := CelT.of Try.underlying120 rfl
attribute [instance] ty.c120
theorem ty.i121 : Inf Try.prog 121 Try.t121 := ⟨by kernel_rfl⟩
attribute [instance] ty.i121
theorem ty.s121 : Sz Try.prog 121 1 := ⟨_, ty.i121.eq, rfl⟩
attribute [instance] ty.s121
@[reducible] def ty.u121 := @Ut.mk Try.prog 121 _ Try.underlying121
attribute [instance] ty.u121
theorem ty.c121 : CelT Try.prog 121 := CelT.of Try.underlying121 rfl
attribute [instance] ty.c121
theorem ty.i122 : Inf Try.prog 122 Try.t122 := ⟨by kernel_rfl⟩
attribute [instance] ty.i122
theorem ty.s122 : Sz Try.prog 122 1 := ⟨_, ty.i122.eq, rfl⟩
attribute [instance] ty.s122
@[reducible] def ty.u122 := @Ut.mk Try.prog 122 _ Try.underlying122
attribute [instance] ty.u122
theorem ty.c122 : CelT Try.prog 122 := CelT.of Try.underlying122 rfl
attribute [instance] ty.c122
theorem ty.i123 : Inf Try.prog 123 Try.t123 := ⟨by kernel_rfl⟩
attribute [instance] ty.i123
theorem ty.s123 : Sz Try.prog 123 1 := ⟨_, ty.i123.eq, rfl⟩
attribute [instance] ty.s123
@[reducible] def ty.u123 := @Ut.mk Try.prog 123 _ Try.underlying123
attribute [instance] ty.u123
theorem ty.c123 : CelT Try.prog 123 := CelT.of Try.underlying123 rfl
attribute [instance] ty.c123
theorem ty.i124 : Inf Try.prog 124 Try.t124 := ⟨by kernel_rfl⟩
attribute [instance] ty.i124
theorem ty.s124 : Sz Try.prog 124 1 := ⟨_, ty.i124.eq, rfl⟩
attribute [instance] ty.s124
@[reducible] def ty.u124 := @Ut.mk Try.prog 124 _ Try.underlying124
attribute [instance] ty.u124
theorem ty.c124 : CelT Try.prog 124 := CelT.of Try.underlying124 rfl
attribute [instance] ty.c124
theorem ty.i125 : Inf Try.prog 125 Try.t125 := ⟨by kernel_rfl⟩
attribute [instance] ty.i125
theorem ty.s125 : Sz Try.prog 125 1 := ⟨_, ty.i125.eq, rfl⟩
attribute [instance] ty.s125
@[reducible] def ty.u125 := @Ut.mk Try.prog 125 _ Try.underlying125
attribute [instance] ty.u125
theorem ty.c125 : CelT Try.prog 125 := CelT.of Try.underlying125 rfl
attribute [instance] ty.c125
theorem ty.i126 : Inf Try.prog 126 Try.t126 := ⟨by kernel_rfl⟩
attribute [instance] ty.i126
theorem ty.s126 : Sz Try.prog 126 4 := ⟨_, ty.i126.eq, rfl⟩
attribute [instance] ty.s126
@[reducible] def ty.u126 := @Ut.mk Try.prog 126 _ Try.underlying126
attribute [instance] ty.u126
theorem ty.a126 : AggT Try.prog 126 4 := AggT.of Try.underlying126 rfl ty.i126.eq rfl
attribute [instance] ty.a126
theorem ty.i127 : Inf Try.prog 127 Try.t127 := ⟨by kernel_rfl⟩
attribute [instance] ty.i127
theorem ty.s127 : Sz Try.prog 127 4 := ⟨_, ty.i127.eq, rfl⟩
attribute [instance] ty.s127
@[reducible] def ty.u127 := @Ut.mk Try.prog 127 _ Try.underlying127
attribute [instance] ty.u127
theorem ty.a127 : AggT Try.prog 127 4 := AggT.of Try.underlying127 rfl ty.i127.eq rfl
attribute [instance] ty.a127
theorem ty.i128 : Inf Try.prog 128 Try.t128 := ⟨by kernel_rfl⟩
attribute [instance] ty.i128
theorem ty.s128 : Sz Try.prog 128 0 := ⟨_, ty.i128.eq, rfl⟩
attribute [instance] ty.s128
@[reducible] def ty.u128 := @Ut.mk Try.prog 128 _ Try.underlying128
attribute [instance] ty.u128
theorem ty.a128 : AggT Try.prog 128 0 := AggT.of Try.underlying128 rfl ty.i128.eq rfl
attribute [instance] ty.a128
theorem ty.i129 : Inf Try.prog 129 Try.t129 := ⟨by kernel_rfl⟩
attribute [instance] ty.i129
theorem ty.s129 : Sz Try.prog 129 0 := ⟨_, ty.i129.eq, rfl⟩
attribute [instance] ty.s129
@[reducible] def ty.u129 := @Ut.mk Try.prog 129 _ Try.underlying129
attribute [instance] ty.u129
theorem ty.a129 : AggT Try.prog 129 0 := AggT.of Try.underlying129 rfl ty.i129.eq rfl
attribute [instance] ty.a129
theorem ty.i130 : Inf Try.prog 130 Try.t130 := ⟨by kernel_rfl⟩
attribute [instance] ty.i130
theorem ty.s130 : Sz Try.prog 130 0 := ⟨_, ty.i130.eq, rfl⟩
attribute [instance] ty.s130
@[reducible] def ty.u130 := @Ut.mk Try.prog 130 _ Try.underlying130
attribute [instance] ty.u130
theorem ty.a130 : AggT Try.prog 130 0 := AggT.of Try.underlying130 rfl ty.i130.eq rfl
attribute [instance] ty.a130
theorem ty.i131 : Inf Try.prog 131 Try.t131 := ⟨by kernel_rfl⟩
attribute [instance] ty.i131
theorem ty.s131 : Sz Try.prog 131 1 := ⟨_, ty.i131.eq, rfl⟩
attribute [instance] ty.s131
@[reducible] def ty.u131 := @Ut.mk Try.prog 131 _ Try.underlying131
attribute [instance] ty.u131
theorem ty.c131 : CelT Try.prog 131 := CelT.of Try.underlying131 rfl
attribute [instance] ty.c131
theorem ty.i132 : Inf Try.prog 132 Try.t132 := ⟨by kernel_rfl⟩
attribute [instance] ty.i132
theorem ty.s132 : Sz Try.prog 132 1 := ⟨_, ty.i132.eq, rfl⟩
attribute [instance] ty.s132
@[reducible] def ty.u132 := @Ut.mk Try.prog 132 _ Try.underlying132
attribute [instance] ty.u132
theorem ty.c132 : CelT Try.prog 132 := CelT.of Try.underlying132 rfl
attribute [instance] ty.c132
theorem ty.i133 : Inf Try.prog 133 Try.t133 := ⟨by kernel_rfl⟩
attribute [instance] ty.i133
theorem ty.s133 : Sz Try.prog 133 1 := ⟨_, ty.i133.eq, rfl⟩
attribute [instance] ty.s133
@[reducible] def ty.u133 := @Ut.mk Try.prog 133 _ Try.underlying133
attribute [instance] ty.u133
theorem ty.c133 : CelT Try.prog 133 := CelT.of Try.underlying133 rfl
attribute [instance] ty.c133
theorem ty.i134 : Inf Try.prog 134 Try.t134 := ⟨by kernel_rfl⟩
attribute [instance] ty.i134
theorem ty.s134 : Sz Try.prog 134 1 := ⟨_, ty.i134.eq, rfl⟩
attribute [instance] ty.s134
@[reducible] def ty.u134 := @Ut.mk Try.prog 134 _ Try.underlying134
attribute [instance] ty.u134
theorem ty.c134 : CelT Try.prog 134 := CelT.of Try.underlying134 rfl
attribute [instance] ty.c134
theorem ty.i135 : Inf Try.prog 135 Try.t135 := ⟨by kernel_rfl⟩
attribute [instance] ty.i135
theorem ty.s135 : Sz Try.prog 135 1 := ⟨_, ty.i135.eq, rfl⟩
attribute [instance] ty.s135
@[reducible] def ty.u135 := @Ut.mk Try.prog 135 _ Try.underlying135
attribute [instance] ty.u135
theorem ty.c135 : CelT Try.prog 135 := CelT.of Try.underlying135 rfl
attribute [instance] ty.c135
theorem ty.i136 : Inf Try.prog 136 Try.t136 := ⟨by kernel_rfl⟩
attribute [instance] ty.i136
theorem ty.s136 : Sz Try.prog 136 1 := ⟨_, ty.i136.eq, rfl⟩
attribute [instance] ty.s136
@[reducible] def ty.u136 := @Ut.mk Try.prog 136 _ Try.underlying136
attribute [instance] ty.u136
theorem ty.c136 : CelT Try.prog 136 := CelT.of Try.underlying136 rfl
attribute [instance] ty.c136
theorem ty.i137 : Inf Try.prog 137 Try.t137 := ⟨by kernel_rfl⟩
attribute [instance] ty.i137
theorem ty.s137 : Sz Try.prog 137 11 := ⟨_, ty.i137.eq, rfl⟩
attribute [instance] ty.s137
@[reducible] def ty.u137 := @Ut.mk Try.prog 137 _ Try.underlying137
attribute [instance] ty.u137
theorem ty.a137 : AggT Try.prog 137 11 := AggT.of Try.underlying137 rfl ty.i137.eq rfl
attribute [instance] ty.a137
theorem ty.i138 : Inf Try.prog 138 Try.t138 := ⟨by kernel_rfl⟩
attribute [instance] ty.i138
theorem ty.s138 : Sz Try.prog 138 11 := ⟨_, ty.i138.eq, rfl⟩
attribute [instance] ty.s138
@[reducible] def ty.u138 := @Ut.mk Try.prog 138 _ Try.underlying138
attribute [instance] ty.u138
theorem ty.a138 : AggT Try.prog 138 11 := AggT.of Try.underlying138 rfl ty.i138.eq rfl
attribute [instance] ty.a138
theorem ty.i139 : Inf Try.prog 139 Try.t139 := ⟨by kernel_rfl⟩
attribute [instance] ty.i139
theorem ty.s139 : Sz Try.prog 139 1 := ⟨_, ty.i139.eq, rfl⟩
attribute [instance] ty.s139
@[reducible] def ty.u139 := @Ut.mk Try.prog 139 _ Try.underlying139
attribute [instance] ty.u139
theorem ty.c139 : CelT Try.prog 139 := CelT.of Try.underlying139 rfl
attribute [instance] ty.c139
theorem ty.f7_0 : Fld Try.prog 7 0 0 2 := Fld.mk _ _ _ Try.underlying7 rfl rfl rfl ty.i2.eq (by decide)
attribute [instance] ty.f7_0
theorem ty.f7_1 : Fld Try.prog 7 1 1 3 := Fld.mk _ _ _ Try.underlying7 rfl rfl rfl ty.i3.eq (by decide)
attribute [instance] ty.f7_1
theorem ty.f7_2 : Fld Try.prog 7 2 2 4 := Fld.mk _ _ _ Try.underlying7 rfl rfl rfl ty.i4.eq (by decide)
attribute [instance] ty.f7_2
theorem ty.f7_3 : Fld Try.prog 7 3 3 6 := Fld.mk _ _ _ Try.underlying7 rfl rfl rfl ty.i6.eq (by decide)
attribute [instance] ty.f7_3
theorem ty.f8_0 : Fld Try.prog 8 0 0 2 := Fld.mk _ _ _ Try.underlying8 rfl rfl rfl ty.i2.eq (by decide)
attribute [instance] ty.f8_0
theorem ty.f8_1 : Fld Try.prog 8 1 1 3 := Fld.mk _ _ _ Try.underlying8 rfl rfl rfl ty.i3.eq (by decide)
attribute [instance] ty.f8_1
theorem ty.f8_2 : Fld Try.prog 8 2 2 4 := Fld.mk _ _ _ Try.underlying8 rfl rfl rfl ty.i4.eq (by decide)
attribute [instance] ty.f8_2
theorem ty.f8_3 : Fld Try.prog 8 3 3 6 := Fld.mk _ _ _ Try.underlying8 rfl rfl rfl ty.i6.eq (by decide)
attribute [instance] ty.f8_3
theorem ty.f13_0 : Fld Try.prog 13 0 0 9 := Fld.mk _ _ _ Try.underlying13 rfl rfl rfl ty.i9.eq (by decide)
attribute [instance] ty.f13_0
theorem ty.f13_1 : Fld Try.prog 13 1 1 12 := Fld.mk _ _ _ Try.underlying13 rfl rfl rfl ty.i12.eq (by decide)
attribute [instance] ty.f13_1
theorem ty.f14_0 : Fld Try.prog 14 0 0 9 := Fld.mk _ _ _ Try.underlying14 rfl rfl rfl ty.i9.eq (by decide)
attribute [instance] ty.f14_0
theorem ty.f14_1 : Fld Try.prog 14 1 1 12 := Fld.mk _ _ _ Try.underlying14 rfl rfl rfl ty.i12.eq (by decide)
attribute [instance] ty.f14_1
theorem ty.f18_0 : Fld Try.prog 18 0 0 17 := Fld.mk _ _ _ Try.underlying18 rfl rfl rfl ty.i17.eq (by decide)
attribute [instance] ty.f18_0
theorem ty.f19_0 : Fld Try.prog 19 0 0 17 := Fld.mk _ _ _ Try.underlying19 rfl rfl rfl ty.i17.eq (by decide)
attribute [instance] ty.f19_0
theorem ty.b28 : BArr Try.prog 28 4 := BArr.of Try.underlying28 Try.underlying5 ⟨_, rfl⟩ (by kernel_rfl) (by kernel_rfl) (by kernel_rfl)
attribute [instance] ty.b28
theorem ty.f30_0 : Fld Try.prog 30 0 0 29 := Fld.mk _ _ _ Try.underlying30 rfl rfl rfl ty.i29.eq (by decide)
attribute [instance] ty.f30_0
theorem ty.f31_0 : Fld Try.prog 31 0 0 29 := Fld.mk _ _ _ Try.underlying31 rfl rfl rfl ty.i29.eq (by decide)
attribute [instance] ty.f31_0
theorem ty.f34_0 : Fld Try.prog 34 0 0 3 := Fld.mk _ _ _ Try.underlying34 rfl rfl rfl ty.i3.eq (by decide)
attribute [instance] ty.f34_0
theorem ty.f34_1 : Fld Try.prog 34 1 1 3 := Fld.mk _ _ _ Try.underlying34 rfl rfl rfl ty.i3.eq (by decide)
attribute [instance] ty.f34_1
theorem ty.f34_2 : Fld Try.prog 34 2 2 33 := Fld.mk _ _ _ Try.underlying34 rfl rfl rfl ty.i33.eq (by decide)
attribute [instance] ty.f34_2
theorem ty.f35_0 : Fld Try.prog 35 0 0 3 := Fld.mk _ _ _ Try.underlying35 rfl rfl rfl ty.i3.eq (by decide)
attribute [instance] ty.f35_0
theorem ty.f35_1 : Fld Try.prog 35 1 1 3 := Fld.mk _ _ _ Try.underlying35 rfl rfl rfl ty.i3.eq (by decide)
attribute [instance] ty.f35_1
theorem ty.f35_2 : Fld Try.prog 35 2 2 33 := Fld.mk _ _ _ Try.underlying35 rfl rfl rfl ty.i33.eq (by decide)
attribute [instance] ty.f35_2
theorem ty.f46_0 : Fld Try.prog 46 0 0 3 := Fld.mk _ _ _ Try.underlying46 rfl rfl rfl ty.i3.eq (by decide)
attribute [instance] ty.f46_0
theorem ty.f46_1 : Fld Try.prog 46 1 1 3 := Fld.mk _ _ _ Try.underlying46 rfl rfl rfl ty.i3.eq (by decide)
attribute [instance] ty.f46_1
theorem ty.f46_2 : Fld Try.prog 46 2 2 44 := Fld.mk _ _ _ Try.underlying46 rfl rfl rfl ty.i44.eq (by decide)
attribute [instance] ty.f46_2
theorem ty.f46_3 : Fld Try.prog 46 3 3 45 := Fld.mk _ _ _ Try.underlying46 rfl rfl rfl ty.i45.eq (by decide)
attribute [instance] ty.f46_3
theorem ty.f47_0 : Fld Try.prog 47 0 0 3 := Fld.mk _ _ _ Try.underlying47 rfl rfl rfl ty.i3.eq (by decide)
attribute [instance] ty.f47_0
theorem ty.f47_1 : Fld Try.prog 47 1 1 3 := Fld.mk _ _ _ Try.underlying47 rfl rfl rfl ty.i3.eq (by decide)
attribute [instance] ty.f47_1
theorem ty.f47_2 : Fld Try.prog 47 2 2 44 := Fld.mk _ _ _ Try.underlying47 rfl rfl rfl ty.i44.eq (by decide)
attribute [instance] ty.f47_2
theorem ty.f47_3 : Fld Try.prog 47 3 3 45 := Fld.mk _ _ _ Try.underlying47 rfl rfl rfl ty.i45.eq (by decide)
attribute [instance] ty.f47_3
theorem ty.b52 : BArr Try.prog 52 2 := BArr.of Try.underlying52 Try.underlying5 ⟨_, rfl⟩ (by kernel_rfl) (by kernel_rfl) (by kernel_rfl)
attribute [instance] ty.b52
theorem ty.b53 : BArr Try.prog 53 3 := BArr.of Try.underlying53 Try.underlying5 ⟨_, rfl⟩ (by kernel_rfl) (by kernel_rfl) (by kernel_rfl)
attribute [instance] ty.b53
theorem ty.f57_0 : Fld Try.prog 57 0 0 5 := Fld.mk _ _ _ Try.underlying57 rfl rfl rfl ty.i5.eq (by decide)
attribute [instance] ty.f57_0
theorem ty.f57_1 : Fld Try.prog 57 1 1 3 := Fld.mk _ _ _ Try.underlying57 rfl rfl rfl ty.i3.eq (by decide)
attribute [instance] ty.f57_1
theorem ty.f57_2 : Fld Try.prog 57 2 2 3 := Fld.mk _ _ _ Try.underlying57 rfl rfl rfl ty.i3.eq (by decide)
attribute [instance] ty.f57_2
theorem ty.f57_3 : Fld Try.prog 57 3 3 9 := Fld.mk _ _ _ Try.underlying57 rfl rfl rfl ty.i9.eq (by decide)
attribute [instance] ty.f57_3
theorem ty.f57_4 : Fld Try.prog 57 4 4 29 := Fld.mk _ _ _ Try.underlying57 rfl rfl rfl ty.i29.eq (by decide)
attribute [instance] ty.f57_4
theorem ty.f58_0 : Fld Try.prog 58 0 0 5 := Fld.mk _ _ _ Try.underlying58 rfl rfl rfl ty.i5.eq (by decide)
attribute [instance] ty.f58_0
theorem ty.f58_1 : Fld Try.prog 58 1 1 3 := Fld.mk _ _ _ Try.underlying58 rfl rfl rfl ty.i3.eq (by decide)
attribute [instance] ty.f58_1
theorem ty.f58_2 : Fld Try.prog 58 2 2 3 := Fld.mk _ _ _ Try.underlying58 rfl rfl rfl ty.i3.eq (by decide)
attribute [instance] ty.f58_2
theorem ty.f58_3 : Fld Try.prog 58 3 3 9 := Fld.mk _ _ _ Try.underlying58 rfl rfl rfl ty.i9.eq (by decide)
attribute [instance] ty.f58_3
theorem ty.f58_4 : Fld Try.prog 58 4 4 29 := Fld.mk _ _ _ Try.underlying58 rfl rfl rfl ty.i29.eq (by decide)
attribute [instance] ty.f58_4
theorem ty.f71_0 : Fld Try.prog 71 0 0 3 := Fld.mk _ _ _ Try.underlying71 rfl rfl rfl ty.i3.eq (by decide)
attribute [instance] ty.f71_0
theorem ty.f71_1 : Fld Try.prog 71 1 1 3 := Fld.mk _ _ _ Try.underlying71 rfl rfl rfl ty.i3.eq (by decide)
attribute [instance] ty.f71_1
theorem ty.f71_2 : Fld Try.prog 71 2 2 3 := Fld.mk _ _ _ Try.underlying71 rfl rfl rfl ty.i3.eq (by decide)
attribute [instance] ty.f71_2
theorem ty.f71_3 : Fld Try.prog 71 3 3 3 := Fld.mk _ _ _ Try.underlying71 rfl rfl rfl ty.i3.eq (by decide)
attribute [instance] ty.f71_3
theorem ty.f71_4 : Fld Try.prog 71 4 4 68 := Fld.mk _ _ _ Try.underlying71 rfl rfl rfl ty.i68.eq (by decide)
attribute [instance] ty.f71_4
theorem ty.f71_5 : Fld Try.prog 71 5 5 70 := Fld.mk _ _ _ Try.underlying71 rfl rfl rfl ty.i70.eq (by decide)
attribute [instance] ty.f71_5
theorem ty.f72_0 : Fld Try.prog 72 0 0 3 := Fld.mk _ _ _ Try.underlying72 rfl rfl rfl ty.i3.eq (by decide)
attribute [instance] ty.f72_0
theorem ty.f72_1 : Fld Try.prog 72 1 1 3 := Fld.mk _ _ _ Try.underlying72 rfl rfl rfl ty.i3.eq (by decide)
attribute [instance] ty.f72_1
theorem ty.f72_2 : Fld Try.prog 72 2 2 3 := Fld.mk _ _ _ Try.underlying72 rfl rfl rfl ty.i3.eq (by decide)
attribute [instance] ty.f72_2
theorem ty.f72_3 : Fld Try.prog 72 3 3 3 := Fld.mk _ _ _ Try.underlying72 rfl rfl rfl ty.i3.eq (by decide)
attribute [instance] ty.f72_3
theorem ty.f72_4 : Fld Try.prog 72 4 4 68 := Fld.mk _ _ _ Try.underlying72 rfl rfl rfl ty.i68.eq (by decide)
attribute [instance] ty.f72_4
theorem ty.f72_5 : Fld Try.prog 72 5 5 70 := Fld.mk _ _ _ Try.underlying72 rfl rfl rfl ty.i70.eq (by decide)
attribute [instance] ty.f72_5
theorem ty.f76_0 : Fld Try.prog 76 0 0 35 := Fld.mk _ _ _ Try.underlying76 rfl rfl rfl ty.i35.eq (by decide)
attribute [instance] ty.f76_0
theorem ty.f76_1 : Fld Try.prog 76 1 3 3 := Fld.mk _ _ _ Try.underlying76 rfl rfl rfl ty.i3.eq (by decide)
attribute [instance] ty.f76_1
theorem ty.f76_2 : Fld Try.prog 76 2 4 3 := Fld.mk _ _ _ Try.underlying76 rfl rfl rfl ty.i3.eq (by decide)
attribute [instance] ty.f76_2
theorem ty.f77_0 : Fld Try.prog 77 0 0 35 := Fld.mk _ _ _ Try.underlying77 rfl rfl rfl ty.i35.eq (by decide)
attribute [instance] ty.f77_0
theorem ty.f77_1 : Fld Try.prog 77 1 3 3 := Fld.mk _ _ _ Try.underlying77 rfl rfl rfl ty.i3.eq (by decide)
attribute [instance] ty.f77_1
theorem ty.f77_2 : Fld Try.prog 77 2 4 3 := Fld.mk _ _ _ Try.underlying77 rfl rfl rfl ty.i3.eq (by decide)
attribute [instance] ty.f77_2
theorem ty.f97_0 : Fld Try.prog 97 0 0 3 := Fld.mk _ _ _ Try.underlying97 rfl rfl rfl ty.i3.eq (by decide)
attribute [instance] ty.f97_0
theorem ty.f97_1 : Fld Try.prog 97 1 1 3 := Fld.mk _ _ _ Try.underlying97 rfl rfl rfl ty.i3.eq (by decide)
attribute [instance] ty.f97_1
theorem ty.f97_2 : Fld Try.prog 97 2 2 9 := Fld.mk _ _ _ Try.underlying97 rfl rfl rfl ty.i9.eq (by decide)
attribute [instance] ty.f97_2
theorem ty.f97_3 : Fld Try.prog 97 3 3 3 := Fld.mk _ _ _ Try.underlying97 rfl rfl rfl ty.i3.eq (by decide)
attribute [instance] ty.f97_3
theorem ty.f98_0 : Fld Try.prog 98 0 0 3 := Fld.mk _ _ _ Try.underlying98 rfl rfl rfl ty.i3.eq (by decide)
attribute [instance] ty.f98_0
theorem ty.f98_1 : Fld Try.prog 98 1 1 3 := Fld.mk _ _ _ Try.underlying98 rfl rfl rfl ty.i3.eq (by decide)
attribute [instance] ty.f98_1
theorem ty.f98_2 : Fld Try.prog 98 2 2 9 := Fld.mk _ _ _ Try.underlying98 rfl rfl rfl ty.i9.eq (by decide)
attribute [instance] ty.f98_2
theorem ty.f98_3 : Fld Try.prog 98 3 3 3 := Fld.mk _ _ _ Try.underlying98 rfl rfl rfl ty.i3.eq (by decide)
attribute [instance] ty.f98_3
theorem ty.f126_0 : Fld Try.prog 126 0 0 17 := Fld.mk _ _ _ Try.underlying126 rfl rfl rfl ty.i17.eq (by decide)
attribute [instance] ty.f126_0
theorem ty.f126_1 : Fld Try.prog 126 1 1 17 := Fld.mk _ _ _ Try.underlying126 rfl rfl rfl ty.i17.eq (by decide)
attribute [instance] ty.f126_1
theorem ty.f126_2 : Fld Try.prog 126 2 2 17 := Fld.mk _ _ _ Try.underlying126 rfl rfl rfl ty.i17.eq (by decide)
attribute [instance] ty.f126_2
theorem ty.f126_3 : Fld Try.prog 126 3 3 9 := Fld.mk _ _ _ Try.underlying126 rfl rfl rfl ty.i9.eq (by decide)
attribute [instance] ty.f126_3
theorem ty.f127_0 : Fld Try.prog 127 0 0 17 := Fld.mk _ _ _ Try.underlying127 rfl rfl rfl ty.i17.eq (by decide)
attribute [instance] ty.f127_0
theorem ty.f127_1 : Fld Try.prog 127 1 1 17 := Fld.mk _ _ _ Try.underlying127 rfl rfl rfl ty.i17.eq (by decide)
attribute [instance] ty.f127_1
theorem ty.f127_2 : Fld Try.prog 127 2 2 17 := Fld.mk _ _ _ Try.underlying127 rfl rfl rfl ty.i17.eq (by decide)
attribute [instance] ty.f127_2
theorem ty.f127_3 : Fld Try.prog 127 3 3 9 := Fld.mk _ _ _ Try.underlying127 rfl rfl rfl ty.i9.eq (by decide)
attribute [instance] ty.f127_3
theorem ty.f137_0 : Fld Try.prog 137 0 0 12 := Fld.mk _ _ _ Try.underlying137 rfl rfl rfl ty.i12.eq (by decide)
attribute [instance] ty.f137_0
theorem ty.f137_1 : Fld Try.prog 137 1 1 12 := Fld.mk _ _ _ Try.underlying137 rfl rfl rfl ty.i12.eq (by decide)
attribute [instance] ty.f137_1
theorem ty.f137_2 : Fld Try.prog 137 2 2 113 := Fld.mk _ _ _ Try.underlying137 rfl rfl rfl ty.i113.eq (by decide)
attribute [instance] ty.f137_2
theorem ty.f137_3 : Fld Try.prog 137 3 3 131 := Fld.mk _ _ _ Try.underlying137 rfl rfl rfl ty.i131.eq (by decide)
attribute [instance] ty.f137_3
theorem ty.f137_4 : Fld Try.prog 137 4 4 5 := Fld.mk _ _ _ Try.underlying137 rfl rfl rfl ty.i5.eq (by decide)
attribute [instance] ty.f137_4
theorem ty.f137_5 : Fld Try.prog 137 5 5 5 := Fld.mk _ _ _ Try.underlying137 rfl rfl rfl ty.i5.eq (by decide)
attribute [instance] ty.f137_5
theorem ty.f137_6 : Fld Try.prog 137 6 6 132 := Fld.mk _ _ _ Try.underlying137 rfl rfl rfl ty.i132.eq (by decide)
attribute [instance] ty.f137_6
theorem ty.f137_7 : Fld Try.prog 137 7 7 133 := Fld.mk _ _ _ Try.underlying137 rfl rfl rfl ty.i133.eq (by decide)
attribute [instance] ty.f137_7
theorem ty.f137_8 : Fld Try.prog 137 8 8 134 := Fld.mk _ _ _ Try.underlying137 rfl rfl rfl ty.i134.eq (by decide)
attribute [instance] ty.f137_8
theorem ty.f137_9 : Fld Try.prog 137 9 9 135 := Fld.mk _ _ _ Try.underlying137 rfl rfl rfl ty.i135.eq (by decide)
attribute [instance] ty.f137_9
theorem ty.f137_10 : Fld Try.prog 137 10 10 136 := Fld.mk _ _ _ Try.underlying137 rfl rfl rfl ty.i136.eq (by decide)
attribute [instance] ty.f137_10
theorem ty.f138_0 : Fld Try.prog 138 0 0 12 := Fld.mk _ _ _ Try.underlying138 rfl rfl rfl ty.i12.eq (by decide)
attribute [instance] ty.f138_0
theorem ty.f138_1 : Fld Try.prog 138 1 1 12 := Fld.mk _ _ _ Try.underlying138 rfl rfl rfl ty.i12.eq (by decide)
attribute [instance] ty.f138_1
theorem ty.f138_2 : Fld Try.prog 138 2 2 113 := Fld.mk _ _ _ Try.underlying138 rfl rfl rfl ty.i113.eq (by decide)
attribute [instance] ty.f138_2
theorem ty.f138_3 : Fld Try.prog 138 3 3 131 := Fld.mk _ _ _ Try.underlying138 rfl rfl rfl ty.i131.eq (by decide)
attribute [instance] ty.f138_3
theorem ty.f138_4 : Fld Try.prog 138 4 4 5 := Fld.mk _ _ _ Try.underlying138 rfl rfl rfl ty.i5.eq (by decide)
attribute [instance] ty.f138_4
theorem ty.f138_5 : Fld Try.prog 138 5 5 5 := Fld.mk _ _ _ Try.underlying138 rfl rfl rfl ty.i5.eq (by decide)
attribute [instance] ty.f138_5
theorem ty.f138_6 : Fld Try.prog 138 6 6 132 := Fld.mk _ _ _ Try.underlying138 rfl rfl rfl ty.i132.eq (by decide)
attribute [instance] ty.f138_6
theorem ty.f138_7 : Fld Try.prog 138 7 7 133 := Fld.mk _ _ _ Try.underlying138 rfl rfl rfl ty.i133.eq (by decide)
attribute [instance] ty.f138_7
theorem ty.f138_8 : Fld Try.prog 138 8 8 134 := Fld.mk _ _ _ Try.underlying138 rfl rfl rfl ty.i134.eq (by decide)
attribute [instance] ty.f138_8
theorem ty.f138_9 : Fld Try.prog 138 9 9 135 := Fld.mk _ _ _ Try.underlying138 rfl rfl rfl ty.i135.eq (by decide)
attribute [instance] ty.f138_9
theorem ty.f138_10 : Fld Try.prog 138 10 10 136 := Fld.mk _ _ _ Try.underlying138 rfl rfl rfl ty.i136.eq (by decide)
attribute [instance] ty.f138_10
theorem fn.i3 : Fnc Try.prog 3 := ⟨fun w args => by kernel_rfl⟩
attribute [instance] fn.i3
theorem fn.i4 : Fnc Try.prog 4 := ⟨fun w args => by kernel_rfl⟩
attribute [instance] fn.i4
theorem fn.i5 : Fnc Try.prog 5 := ⟨fun w args => by kernel_rfl⟩
attribute [instance] fn.i5
theorem fn.i6 : Fnc Try.prog 6 := ⟨fun w args => by kernel_rfl⟩
attribute [instance] fn.i6
theorem fn.i7 : Fnc Try.prog 7 := ⟨fun w args => by kernel_rfl⟩
attribute [instance] fn.i7
theorem fn.i8 : Fnc Try.prog 8 := ⟨fun w args => by kernel_rfl⟩
attribute [instance] fn.i8
theorem fn.i9 : Fnc Try.prog 9 := ⟨fun w args => by kernel_rfl⟩
attribute [instance] fn.i9
theorem fn.i10 : Fnc Try.prog 10 := ⟨fun w args => by kernel_rfl⟩
attribute [instance] fn.i10
theorem fn.i11 : Fnc Try.prog 11 := ⟨fun w args => by kernel_rfl⟩
attribute [instance] fn.i11
theorem fn.i12 : Fnc Try.prog 12 := ⟨fun w args => by kernel_rfl⟩
attribute [instance] fn.i12
theorem fn.i13 : Fnc Try.prog 13 := ⟨fun w args => by kernel_rfl⟩
attribute [instance] fn.i13
theorem fn.i14 : Fnc Try.prog 14 := ⟨fun w args => by kernel_rfl⟩
attribute [instance] fn.i14
theorem fn.i15 : Fnc Try.prog 15 := ⟨fun w args => by kernel_rfl⟩
attribute [instance] fn.i15
theorem fn.i16 : Fnc Try.prog 16 := ⟨fun w args => by kernel_rfl⟩
attribute [instance] fn.i16
theorem fn.i17 : Fnc Try.prog 17 := ⟨fun w args => by kernel_rfl⟩
attribute [instance] fn.i17
theorem fn.i18 : Fnc Try.prog 18 := ⟨fun w args => by kernel_rfl⟩
attribute [instance] fn.i18
theorem fn.i19 : Fnc Try.prog 19 := ⟨fun w args => by kernel_rfl⟩
attribute [instance] fn.i19
theorem fn.i20 : Fnc Try.prog 20 := ⟨fun w args => by kernel_rfl⟩
attribute [instance] fn.i20
theorem fn.i21 : Fnc Try.prog 21 := ⟨fun w args => by kernel_rfl⟩
attribute [instance] fn.i21
theorem fn.i22 : Fnc Try.prog 22 := ⟨fun w args => by kernel_rfl⟩
attribute [instance] fn.i22
theorem fn.i23 : Fnc Try.prog 23 := ⟨fun w args => by kernel_rfl⟩
attribute [instance] fn.i23
theorem fn.i24 : Fnc Try.prog 24 := ⟨fun w args => by kernel_rfl⟩
attribute [instance] fn.i24
theorem fn.i25 : Fnc Try.prog 25 := ⟨fun w args => by kernel_rfl⟩
attribute [instance] fn.i25
theorem fn.i26 : Fnc Try.prog 26 := ⟨fun w args => by kernel_rfl⟩
attribute [instance] fn.i26
theorem fn.i27 : Fnc Try.prog 27 := ⟨fun w args => by kernel_rfl⟩
attribute [instance] fn.i27
theorem fn.i28 : Fnc Try.prog 28 := ⟨fun w args => by kernel_rfl⟩
attribute [instance] fn.i28
theorem fn.i29 : Fnc Try.prog 29 := ⟨fun w args => by kernel_rfl⟩
attribute [instance] fn.i29
theorem fn.i30 : Fnc Try.prog 30 := ⟨fun w args => by kernel_rfl⟩
attribute [instance] fn.i30
theorem fn.i31 : Fnc Try.prog 31 := ⟨fun w args => by kernel_rfl⟩
attribute [instance] fn.i31
theorem fn.i32 : Fnc Try.prog 32 := ⟨fun w args => by kernel_rfl⟩
attribute [instance] fn.i32
theorem fn.i33 : Fnc Try.prog 33 := ⟨fun w args => by kernel_rfl⟩
attribute [instance] fn.i33
theorem fn.i34 : Fnc Try.prog 34 := ⟨fun w args => by kernel_rfl⟩
attribute [instance] fn.i34
theorem fn.i35 : Fnc Try.prog 35 := ⟨fun w args => by kernel_rfl⟩
attribute [instance] fn.i35
theorem fn.i36 : Fnc Try.prog 36 := ⟨fun w args => by kernel_rfl⟩
attribute [instance] fn.i36
theorem fn.i37 : Fnc Try.prog 37 := ⟨fun w args => by kernel_rfl⟩
attribute [instance] fn.i37
theorem fn.i38 : Fnc Try.prog 38 := ⟨fun w args => by kernel_rfl⟩
attribute [instance] fn.i38
theorem fn.i39 : Fnc Try.prog 39 := ⟨fun w args => by kernel_rfl⟩
attribute [instance] fn.i39
theorem fn.i40 : Fnc Try.prog 40 := ⟨fun w args => by kernel_rfl⟩
attribute [instance] fn.i40
theorem fn.i41 : Fnc Try.prog 41 := ⟨fun w args => by kernel_rfl⟩
attribute [instance] fn.i41
theorem fn.i42 : Fnc Try.prog 42 := ⟨fun w args => by kernel_rfl⟩
attribute [instance] fn.i42
theorem fn.i43 : Fnc Try.prog 43 := ⟨fun w args => by kernel_rfl⟩
attribute [instance] fn.i43
theorem fn.i44 : Fnc Try.prog 44 := ⟨fun w args => by kernel_rfl⟩
attribute [instance] fn.i44
theorem fn.i45 : Fnc Try.prog 45 := ⟨fun w args => by kernel_rfl⟩
attribute [instance] fn.i45
theorem fn.i46 : Fnc Try.prog 46 := ⟨fun w args => by kernel_rfl⟩
attribute [instance] fn.i46
theorem fn.i47 : Fnc Try.prog 47 := ⟨fun w args => by kernel_rfl⟩
attribute [instance] fn.i47
theorem fn.i48 : Fnc Try.prog 48 := ⟨fun w args => by kernel_rfl⟩
attribute [instance] fn.i48
theorem fn.i49 : Fnc Try.prog 49 := ⟨fun w args => by kernel_rfl⟩
attribute [instance] fn.i49
theorem fn.i50 : Fnc Try.prog 50 := ⟨fun w args => by kernel_rfl⟩
attribute [instance] fn.i50
theorem fn.i51 : Fnc Try.prog 51 := ⟨fun w args => by kernel_rfl⟩
attribute [instance] fn.i51
theorem fn.i52 : Fnc Try.prog 52 := ⟨fun w args => by kernel_rfl⟩
attribute [instance] fn.i52
theorem fn.i53 : Fnc Try.prog 53 := ⟨fun w args => by kernel_rfl⟩
attribute [instance] fn.i53
theorem fn.i54 : Fnc Try.prog 54 := ⟨fun w args => by kernel_rfl⟩
attribute [instance] fn.i54
theorem fn.i55 : Fnc Try.prog 55 := ⟨fun w args => by kernel_rfl⟩
attribute [instance] fn.i55
theorem fn.i56 : Fnc Try.prog 56 := ⟨fun w args => by kernel_rfl⟩
attribute [instance] fn.i56
theorem fn.i57 : Fnc Try.prog 57 := ⟨fun w args => by kernel_rfl⟩
attribute [instance] fn.i57
theorem fn.i58 : Fnc Try.prog 58 := ⟨fun w args => by kernel_rfl⟩
attribute [instance] fn.i58
theorem fn.i59 : Fnc Try.prog 59 := ⟨fun w args => by kernel_rfl⟩
attribute [instance] fn.i59
theorem fn.i60 : Fnc Try.prog 60 := ⟨fun w args => by kernel_rfl⟩
attribute [instance] fn.i60
theorem fn.i61 : Fnc Try.prog 61 := ⟨fun w args => by kernel_rfl⟩
attribute [instance] fn.i61
theorem fn.i62 : Fnc Try.prog 62 := ⟨fun w args => by kernel_rfl⟩
attribute [instance] fn.i62
theorem fn.i63 : Fnc Try.prog 63 := ⟨fun w args => by kernel_rfl⟩
attribute [instance] fn.i63
theorem mixed : Try.prog.follows .mixedOrders = true := by kernel_rfl
end Go.Proofs.Ytfelaicoedlejaa
