/-
  The facts on this seat's types and functions, printed by a program.
-/
import Derived.Test.YtpnenekgldggbaaSl
import Derived.KernelRfl
namespace Go.Proofs.Ytpnenekgldggbaa
open Go.Proofs
set_option linter.unusedVariables false

theorem ty.i0 : Inf Try.prog 0 Try.t0 := ⟨by kernel_rfl⟩
attribute [instance] ty.i0
theorem ty.s0 : Sz Try.prog 0 1 := ⟨_, ty.i0.eq, rfl⟩
attribute [instance] ty.s0
@[reducible] def ty.u0 := @Ut.mk Try.prog 0 _ Try.underlying0
attribute [instance] ty.u0
theorem ty.c0 : CelT Try.prog 0 := CelT.of Try.underlying0 rfl
attribute [instance] ty.c0
theorem ty.i1 : Inf Try.prog 1 Try.t1 := ⟨by kernel_rfl⟩
attribute [instance] ty.i1
theorem ty.s1 : Sz Try.prog 1 1 := ⟨_, ty.i1.eq, rfl⟩
attribute [instance] ty.s1
@[reducible] def ty.u1 := @Ut.mk Try.prog 1 _ Try.underlying1
attribute [instance] ty.u1
theorem ty.c1 : CelT Try.prog 1 := CelT.of Try.underlying1 rfl
attribute [instance] ty.c1
theorem ty.i2 : Inf Try.prog 2 Try.t2 := ⟨by kernel_rfl⟩
attribute [instance] ty.i2
theorem ty.s2 : Sz Try.prog 2 1 := ⟨_, ty.i2.eq, rfl⟩
attribute [instance] ty.s2
@[reducible] def ty.u2 := @Ut.mk Try.prog 2 _ Try.underlying2
attribute [instance] ty.u2
theorem ty.c2 : CelT Try.prog 2 := CelT.of Try.underlying2 rfl
attribute [instance] ty.c2
theorem ty.i3 : Inf Try.prog 3 Try.t3 := ⟨by kernel_rfl⟩
attribute [instance] ty.i3
theorem ty.s3 : Sz Try.prog 3 1 := ⟨_, ty.i3.eq, rfl⟩
attribute [instance] ty.s3
@[reducible] def ty.u3 := @Ut.mk Try.prog 3 _ Try.underlying3
attribute [instance] ty.u3
theorem ty.c3 : CelT Try.prog 3 := CelT.of Try.underlying3 rfl
attribute [instance] ty.c3
theorem ty.i4 : Inf Try.prog 4 Try.t4 := ⟨by kernel_rfl⟩
attribute [instance] ty.i4
theorem ty.s4 : Sz Try.prog 4 1 := ⟨_, ty.i4.eq, rfl⟩
attribute [instance] ty.s4
@[reducible] def ty.u4 := @Ut.mk Try.prog 4 _ Try.underlying4
attribute [instance] ty.u4
theorem ty.c4 : CelT Try.prog 4 := CelT.of Try.underlying4 rfl
attribute [instance] ty.c4
theorem ty.i5 : Inf Try.prog 5 Try.t5 := ⟨by kernel_rfl⟩
attribute [instance] ty.i5
theorem ty.s5 : Sz Try.prog 5 1 := ⟨_, ty.i5.eq, rfl⟩
attribute [instance] ty.s5
@[reducible] def ty.u5 := @Ut.mk Try.prog 5 _ Try.underlying5
attribute [instance] ty.u5
theorem ty.c5 : CelT Try.prog 5 := CelT.of Try.underlying5 rfl
attribute [instance] ty.c5
theorem ty.i6 : Inf Try.prog 6 Try.t6 := ⟨by kernel_rfl⟩
attribute [instance] ty.i6
theorem ty.s6 : Sz Try.prog 6 1 := ⟨_, ty.i6.eq, rfl⟩
attribute [instance] ty.s6
@[reducible] def ty.u6 := @Ut.mk Try.prog 6 _ Try.underlying6
attribute [instance] ty.u6
theorem ty.c6 : CelT Try.prog 6 := CelT.of Try.underlying6 rfl
attribute [instance] ty.c6
theorem ty.i7 : Inf Try.prog 7 Try.t7 := ⟨by kernel_rfl⟩
attribute [instance] ty.i7
theorem ty.s7 : Sz Try.prog 7 4 := ⟨_, ty.i7.eq, rfl⟩
attribute [instance] ty.s7
@[reducible] def ty.u7 := @Ut.mk Try.prog 7 _ Try.underlying7
attribute [instance] ty.u7
theorem ty.a7 : AggT Try.prog 7 4 := AggT.of Try.underlying7 rfl ty.i7.eq rfl
attribute [instance] ty.a7
theorem ty.i8 : Inf Try.prog 8 Try.t8 := ⟨by kernel_rfl⟩
attribute [instance] ty.i8
theorem ty.s8 : Sz Try.prog 8 4 := ⟨_, ty.i8.eq, rfl⟩
attribute [instance] ty.s8
@[reducible] def ty.u8 := @Ut.mk Try.prog 8 _ Try.underlying8
attribute [instance] ty.u8
theorem ty.a8 : AggT Try.prog 8 4 := AggT.of Try.underlying8 rfl ty.i8.eq rfl
attribute [instance] ty.a8
theorem ty.i9 : Inf Try.prog 9 Try.t9 := ⟨by kernel_rfl⟩
attribute [instance] ty.i9
theorem ty.s9 : Sz Try.prog 9 1 := ⟨_, ty.i9.eq, rfl⟩
attribute [instance] ty.s9
@[reducible] def ty.u9 := @Ut.mk Try.prog 9 _ Try.underlying9
attribute [instance] ty.u9
theorem ty.c9 : CelT Try.prog 9 := CelT.of Try.underlying9 rfl
attribute [instance] ty.c9
theorem ty.i10 : Inf Try.prog 10 Try.t10 := ⟨by kernel_rfl⟩
attribute [instance] ty.i10
theorem ty.s10 : Sz Try.prog 10 1 := ⟨_, ty.i10.eq, rfl⟩
attribute [instance] ty.s10
@[reducible] def ty.u10 := @Ut.mk Try.prog 10 _ Try.underlying10
attribute [instance] ty.u10
theorem ty.c10 : CelT Try.prog 10 := CelT.of Try.underlying10 rfl
attribute [instance] ty.c10
theorem ty.i11 : Inf Try.prog 11 Try.t11 := ⟨by kernel_rfl⟩
attribute [instance] ty.i11
theorem ty.s11 : Sz Try.prog 11 1 := ⟨_, ty.i11.eq, rfl⟩
attribute [instance] ty.s11
@[reducible] def ty.u11 := @Ut.mk Try.prog 11 _ Try.underlying11
attribute [instance] ty.u11
theorem ty.c11 : CelT Try.prog 11 := CelT.of Try.underlying11 rfl
attribute [instance] ty.c11
theorem ty.i12 : Inf Try.prog 12 Try.t12 := ⟨by kernel_rfl⟩
attribute [instance] ty.i12
theorem ty.s12 : Sz Try.prog 12 1 := ⟨_, ty.i12.eq, rfl⟩
attribute [instance] ty.s12
@[reducible] def ty.u12 := @Ut.mk Try.prog 12 _ Try.underlying12
attribute [instance] ty.u12
theorem ty.c12 : CelT Try.prog 12 := CelT.of Try.underlying12 rfl
attribute [instance] ty.c12
theorem ty.i13 : Inf Try.prog 13 Try.t13 := ⟨by kernel_rfl⟩
attribute [instance] ty.i13
theorem ty.s13 : Sz Try.prog 13 2 := ⟨_, ty.i13.eq, rfl⟩
attribute [instance] ty.s13
@[reducible] def ty.u13 := @Ut.mk Try.prog 13 _ Try.underlying13
attribute [instance] ty.u13
theorem ty.a13 : AggT Try.prog 13 2 := AggT.of Try.underlying13 rfl ty.i13.eq rfl
attribute [instance] ty.a13
theorem ty.i14 : Inf Try.prog 14 Try.t14 := ⟨by kernel_rfl⟩
attribute [instance] ty.i14
theorem ty.s14 : Sz Try.prog 14 2 := ⟨_, ty.i14.eq, rfl⟩
attribute [instance] ty.s14
@[reducible] def ty.u14 := @Ut.mk Try.prog 14 _ Try.underlying14
attribute [instance] ty.u14
theorem ty.a14 : AggT Try.prog 14 2 := AggT.of Try.underlying14 rfl ty.i14.eq rfl
attribute [instance] ty.a14
theorem ty.i15 : Inf Try.prog 15 Try.t15 := ⟨by kernel_rfl⟩
attribute [instance] ty.i15
theorem ty.s15 : Sz Try.prog 15 1 := ⟨_, ty.i15.eq, rfl⟩
attribute [instance] ty.s15
@[reducible] def ty.u15 := @Ut.mk Try.prog 15 _ Try.underlying15
attribute [instance] ty.u15
theorem ty.c15 : CelT Try.prog 15 := CelT.of Try.underlying15 rfl
attribute [instance] ty.c15
theorem ty.i16 : Inf Try.prog 16 Try.t16 := ⟨by kernel_rfl⟩
attribute [instance] ty.i16
theorem ty.s16 : Sz Try.prog 16 1 := ⟨_, ty.i16.eq, rfl⟩
attribute [instance] ty.s16
@[reducible] def ty.u16 := @Ut.mk Try.prog 16 _ Try.underlying16
attribute [instance] ty.u16
theorem ty.c16 : CelT Try.prog 16 := CelT.of Try.underlying16 rfl
attribute [instance] ty.c16
theorem ty.i17 : Inf Try.prog 17 Try.t17 := ⟨by kernel_rfl⟩
attribute [instance] ty.i17
theorem ty.s17 : Sz Try.prog 17 1 := ⟨_, ty.i17.eq, rfl⟩
attribute [instance] ty.s17
@[reducible] def ty.u17 := @Ut.mk Try.prog 17 _ Try.underlying17
attribute [instance] ty.u17
theorem ty.c17 : CelT Try.prog 17 := CelT.of Try.underlying17 rfl
attribute [instance] ty.c17
theorem ty.i18 : Inf Try.prog 18 Try.t18 := ⟨by kernel_rfl⟩
attribute [instance] ty.i18
theorem ty.s18 : Sz Try.prog 18 1 := ⟨_, ty.i18.eq, rfl⟩
attribute [instance] ty.s18
@[reducible] def ty.u18 := @Ut.mk Try.prog 18 _ Try.underlying18
attribute [instance] ty.u18
theorem ty.a18 : AggT Try.prog 18 1 := AggT.of Try.underlying18 rfl ty.i18.eq rfl
attribute [instance] ty.a18
theorem ty.i19 : Inf Try.prog 19 Try.t19 := ⟨by kernel_rfl⟩
attribute [instance] ty.i19
theorem ty.s19 : Sz Try.prog 19 1 := ⟨_, ty.i19.eq, rfl⟩
attribute [instance] ty.s19
@[reducible] def ty.u19 := @Ut.mk Try.prog 19 _ Try.underlying19
attribute [instance] ty.u19
theorem ty.a19 : AggT Try.prog 19 1 := AggT.of Try.underlying19 rfl ty.i19.eq rfl
attribute [instance] ty.a19
theorem ty.i20 : Inf Try.prog 20 Try.t20 := ⟨by kernel_rfl⟩
attribute [instance] ty.i20
theorem ty.s20 : Sz Try.prog 20 1 := ⟨_, ty.i20.eq, rfl⟩
attribute [instance] ty.s20
@[reducible] def ty.u20 := @Ut.mk Try.prog 20 _ Try.underlying20
attribute [instance] ty.u20
theorem ty.c20 : CelT Try.prog 20 := CelT.of Try.underlying20 rfl
attribute [instance] ty.c20
theorem ty.i21 : Inf Try.prog 21 Try.t21 := ⟨by kernel_rfl⟩
attribute [instance] ty.i21
theorem ty.s21 : Sz Try.prog 21 1 := ⟨_, ty.i21.eq, rfl⟩
attribute [instance] ty.s21
@[reducible] def ty.u21 := @Ut.mk Try.prog 21 _ Try.underlying21
attribute [instance] ty.u21
theorem ty.c21 : CelT Try.prog 21 := CelT.of Try.underlying21 rfl
attribute [instance] ty.c21
theorem ty.i22 : Inf Try.prog 22 Try.t22 := ⟨by kernel_rfl⟩
attribute [instance] ty.i22
theorem ty.s22 : Sz Try.prog 22 1 := ⟨_, ty.i22.eq, rfl⟩
attribute [instance] ty.s22
@[reducible] def ty.u22 := @Ut.mk Try.prog 22 _ Try.underlying22
attribute [instance] ty.u22
theorem ty.c22 : CelT Try.prog 22 := CelT.of Try.underlying22 rfl
attribute [instance] ty.c22
theorem ty.i23 : Inf Try.prog 23 Try.t23 := ⟨by kernel_rfl⟩
attribute [instance] ty.i23
theorem ty.s23 : Sz Try.prog 23 1 := ⟨_, ty.i23.eq, rfl⟩
attribute [instance] ty.s23
@[reducible] def ty.u23 := @Ut.mk Try.prog 23 _ Try.underlying23
attribute [instance] ty.u23
theorem ty.c23 : CelT Try.prog 23 := CelT.of Try.underlying23 rfl
attribute [instance] ty.c23
theorem ty.i24 : Inf Try.prog 24 Try.t24 := ⟨by kernel_rfl⟩
attribute [instance] ty.i24
theorem ty.s24 : Sz Try.prog 24 1 := ⟨_, ty.i24.eq, rfl⟩
attribute [instance] ty.s24
@[reducible] def ty.u24 := @Ut.mk Try.prog 24 _ Try.underlying24
attribute [instance] ty.u24
theorem ty.c24 : CelT Try.prog 24 := CelT.of Try.underlying24 rfl
attribute [instance] ty.c24
theorem ty.i25 : Inf Try.prog 25 Try.t25 := ⟨by kernel_rfl⟩
attribute [instance] ty.i25
theorem ty.s25 : Sz Try.prog 25 1 := ⟨_, ty.i25.eq, rfl⟩
attribute [instance] ty.s25
@[reducible] def ty.u25 := @Ut.mk Try.prog 25 _ Try.underlying25
attribute [instance] ty.u25
theorem ty.c25 : CelT Try.prog 25 := CelT.of Try.underlying25 rfl
attribute [instance] ty.c25
theorem ty.i26 : Inf Try.prog 26 Try.t26 := ⟨by kernel_rfl⟩
attribute [instance] ty.i26
theorem ty.s26 : Sz Try.prog 26 1 := ⟨_, ty.i26.eq, rfl⟩
attribute [instance] ty.s26
@[reducible] def ty.u26 := @Ut.mk Try.prog 26 _ Try.underlying26
attribute [instance] ty.u26
theorem ty.c26 : CelT Try.prog 26 := CelT.of Try.underlying26 rfl
attribute [instance] ty.c26
theorem ty.i27 : Inf Try.prog 27 Try.t27 := ⟨by kernel_rfl⟩
attribute [instance] ty.i27
theorem ty.s27 : Sz Try.prog 27 1 := ⟨_, ty.i27.eq, rfl⟩
attribute [instance] ty.s27
@[reducible] def ty.u27 := @Ut.mk Try.prog 27 _ Try.underlying27
attribute [instance] ty.u27
theorem ty.c27 : CelT Try.prog 27 := CelT.of Try.underlying27 rfl
attribute [instance] ty.c27
theorem ty.i28 : Inf Try.prog 28 Try.t28 := ⟨by kernel_rfl⟩
attribute [instance] ty.i28
theorem ty.s28 : Sz Try.prog 28 8 := ⟨_, ty.i28.eq, rfl⟩
attribute [instance] ty.s28
@[reducible] def ty.u28 := @Ut.mk Try.prog 28 _ Try.underlying28
attribute [instance] ty.u28
theorem ty.a28 : AggT Try.prog 28 8 := AggT.of Try.underlying28 rfl ty.i28.eq rfl
attribute [instance] ty.a28
theorem ty.i29 : Inf Try.prog 29 Try.t29 := ⟨by kernel_rfl⟩
attribute [instance] ty.i29
theorem ty.s29 : Sz Try.prog 29 8 := ⟨_, ty.i29.eq, rfl⟩
attribute [instance] ty.s29
@[reducible] def ty.u29 := @Ut.mk Try.prog 29 _ Try.underlying29
attribute [instance] ty.u29
theorem ty.a29 : AggT Try.prog 29 8 := AggT.of Try.underlying29 rfl ty.i29.eq rfl
attribute [instance] ty.a29
theorem ty.i30 : Inf Try.prog 30 Try.t30 := ⟨by kernel_rfl⟩
attribute [instance] ty.i30
theorem ty.s30 : Sz Try.prog 30 1 := ⟨_, ty.i30.eq, rfl⟩
attribute [instance] ty.s30
@[reducible] def ty.u30 := @Ut.mk Try.prog 30 _ Try.underlying30
attribute [instance] ty.u30
theorem ty.c30 : CelT Try.prog 30 := CelT.of Try.underlying30 rfl
attribute [instance] ty.c30
theorem ty.i31 : Inf Try.prog 31 Try.t31 := ⟨by kernel_rfl⟩
attribute [instance] ty.i31
theorem ty.s31 : Sz Try.prog 31 1 := ⟨_, ty.i31.eq, rfl⟩
attribute [instance] ty.s31
@[reducible] def ty.u31 := @Ut.mk Try.prog 31 _ Try.underlying31
attribute [instance] ty.u31
theorem ty.c31 : CelT Try.prog 31 := CelT.of Try.underlying31 rfl
attribute [instance] ty.c31
theorem ty.i32 : Inf Try.prog 32 Try.t32 := ⟨by kernel_rfl⟩
attribute [instance] ty.i32
theorem ty.s32 : Sz Try.prog 32 1 := ⟨_, ty.i32.eq, rfl⟩
attribute [instance] ty.s32
@[reducible] def ty.u32 := @Ut.mk Try.prog 32 _ Try.underlying32
attribute [instance] ty.u32
theorem ty.c32 : CelT Try.prog 32 := CelT.of Try.underlying32 rfl
attribute [instance] ty.c32
theorem ty.i33 : Inf Try.prog 33 Try.t33 := ⟨by kernel_rfl⟩
attribute [instance] ty.i33
theorem ty.s33 : Sz Try.prog 33 1 := ⟨_, ty.i33.eq, rfl⟩
attribute [instance] ty.s33
@[reducible] def ty.u33 := @Ut.mk Try.prog 33 _ Try.underlying33
attribute [instance] ty.u33
theorem ty.c33 : CelT Try.prog 33 := CelT.of Try.underlying33 rfl
attribute [instance] ty.c33
theorem ty.i34 : Inf Try.prog 34 Try.t34 := ⟨by kernel_rfl⟩
attribute [instance] ty.i34
theorem ty.s34 : Sz Try.prog 34 2 := ⟨_, ty.i34.eq, rfl⟩
attribute [instance] ty.s34
@[reducible] def ty.u34 := @Ut.mk Try.prog 34 _ Try.underlying34
attribute [instance] ty.u34
theorem ty.a34 : AggT Try.prog 34 2 := AggT.of Try.underlying34 rfl ty.i34.eq rfl
attribute [instance] ty.a34
theorem ty.i35 : Inf Try.prog 35 Try.t35 := ⟨by kernel_rfl⟩
attribute [instance] ty.i35
theorem ty.s35 : Sz Try.prog 35 2 := ⟨_, ty.i35.eq, rfl⟩
attribute [instance] ty.s35
@[reducible] def ty.u35 := @Ut.mk Try.prog 35 _ Try.underlying35
attribute [instance] ty.u35
theorem ty.a35 : AggT Try.prog 35 2 := AggT.of Try.underlying35 rfl ty.i35.eq rfl
attribute [instance] ty.a35
theorem ty.i36 : Inf Try.prog 36 Try.t36 := ⟨by kernel_rfl⟩
attribute [instance] ty.i36
theorem ty.s36 : Sz Try.prog 36 1 := ⟨_, ty.i36.eq, rfl⟩
attribute [instance] ty.s36
@[reducible] def ty.u36 := @Ut.mk Try.prog 36 _ Try.underlying36
attribute [instance] ty.u36
theorem ty.c36 : CelT Try.prog 36 := CelT.of Try.underlying36 rfl
attribute [instance] ty.c36
theorem ty.i37 : Inf Try.prog 37 Try.t37 := ⟨by kernel_rfl⟩
attribute [instance] ty.i37
theorem ty.s37 : Sz Try.prog 37 1 := ⟨_, ty.i37.eq, rfl⟩
attribute [instance] ty.s37
@[reducible] def ty.u37 := @Ut.mk Try.prog 37 _ Try.underlying37
attribute [instance] ty.u37
theorem ty.c37 : CelT Try.prog 37 := CelT.of Try.underlying37 rfl
attribute [instance] ty.c37
theorem ty.i38 : Inf Try.prog 38 Try.t38 := ⟨by kernel_rfl⟩
attribute [instance] ty.i38
theorem ty.s38 : Sz Try.prog 38 1 := ⟨_, ty.i38.eq, rfl⟩
attribute [instance] ty.s38
@[reducible] def ty.u38 := @Ut.mk Try.prog 38 _ Try.underlying38
attribute [instance] ty.u38
theorem ty.c38 : CelT Try.prog 38 := CelT.of Try.underlying38 rfl
attribute [instance] ty.c38
theorem ty.i39 : Inf Try.prog 39 Try.t39 := ⟨by kernel_rfl⟩
attribute [instance] ty.i39
theorem ty.s39 : Sz Try.prog 39 1 := ⟨_, ty.i39.eq, rfl⟩
attribute [instance] ty.s39
@[reducible] def ty.u39 := @Ut.mk Try.prog 39 _ Try.underlying39
attribute [instance] ty.u39
theorem ty.c39 : CelT Try.prog 39 := CelT.of Try.underlying39 rfl
attribute [instance] ty.c39
theorem ty.i40 : Inf Try.prog 40 Try.t40 := ⟨by kernel_rfl⟩
attribute [instance] ty.i40
theorem ty.s40 : Sz Try.prog 40 1 := ⟨_, ty.i40.eq, rfl⟩
attribute [instance] ty.s40
@[reducible] def ty.u40 := @Ut.mk Try.prog 40 _ Try.underlying40
attribute [instance] ty.u40
theorem ty.c40 : CelT Try.prog 40 := CelT.of Try.underlying40 rfl
attribute [instance] ty.c40
theorem ty.i41 : Inf Try.prog 41 Try.t41 := ⟨by kernel_rfl⟩
attribute [instance] ty.i41
theorem ty.s41 : Sz Try.prog 41 10 := ⟨_, ty.i41.eq, rfl⟩
attribute [instance] ty.s41
@[reducible] def ty.u41 := @Ut.mk Try.prog 41 _ Try.underlying41
attribute [instance] ty.u41
theorem ty.a41 : AggT Try.prog 41 10 := AggT.of Try.underlying41 rfl ty.i41.eq rfl
attribute [instance] ty.a41
theorem ty.i42 : Inf Try.prog 42 Try.t42 := ⟨by kernel_rfl⟩
attribute [instance] ty.i42
theorem ty.s42 : Sz Try.prog 42 10 := ⟨_, ty.i42.eq, rfl⟩
attribute [instance] ty.s42
@[reducible] def ty.u42 := @Ut.mk Try.prog 42 _ Try.underlying42
attribute [instance] ty.u42
theorem ty.a42 : AggT Try.prog 42 10 := AggT.of Try.underlying42 rfl ty.i42.eq rfl
attribute [instance] ty.a42
theorem ty.i43 : Inf Try.prog 43 Try.t43 := ⟨by kernel_rfl⟩
attribute [instance] ty.i43
theorem ty.s43 : Sz Try.prog 43 1 := ⟨_, ty.i43.eq, rfl⟩
attribute [instance] ty.s43
@[reducible] def ty.u43 := @Ut.mk Try.prog 43 _ Try.underlying43
attribute [instance] ty.u43
theorem ty.c43 : CelT Try.prog 43 := CelT.of Try.underlying43 rfl
attribute [instance] ty.c43
theorem ty.i44 : Inf Try.prog 44 Try.t44 := ⟨by kernel_rfl⟩
attribute [instance] ty.i44
theorem ty.s44 : Sz Try.prog 44 1 := ⟨_, ty.i44.eq, rfl⟩
attribute [instance] ty.s44
@[reducible] def ty.u44 := @Ut.mk Try.prog 44 _ Try.underlying44
attribute [instance] ty.u44
theorem ty.c44 : CelT Try.prog 44 := CelT.of Try.underlying44 rfl
attribute [instance] ty.c44
theorem ty.i45 : Inf Try.prog 45 Try.t45 := ⟨by kernel_rfl⟩
attribute [instance] ty.i45
theorem ty.s45 : Sz Try.prog 45 1 := ⟨_, ty.i45.eq, rfl⟩
attribute [instance] ty.s45
@[reducible] def ty.u45 := @Ut.mk Try.prog 45 _ Try.underlying45
attribute [instance] ty.u45
theorem ty.c45 : CelT Try.prog 45 := CelT.of Try.underlying45 rfl
attribute [instance] ty.c45
theorem ty.i46 : Inf Try.prog 46 Try.t46 := ⟨by kernel_rfl⟩
attribute [instance] ty.i46
theorem ty.s46 : Sz Try.prog 46 1 := ⟨_, ty.i46.eq, rfl⟩
attribute [instance] ty.s46
@[reducible] def ty.u46 := @Ut.mk Try.prog 46 _ Try.underlying46
attribute [instance] ty.u46
theorem ty.c46 : CelT Try.prog 46 := CelT.of Try.underlying46 rfl
attribute [instance] ty.c46
theorem ty.i47 : Inf Try.prog 47 Try.t47 := ⟨by kernel_rfl⟩
attribute [instance] ty.i47
theorem ty.s47 : Sz Try.prog 47 1 := ⟨_, ty.i47.eq, rfl⟩
attribute [instance] ty.s47
@[reducible] def ty.u47 := @Ut.mk Try.prog 47 _ Try.underlying47
attribute [instance] ty.u47
theorem ty.c47 : CelT Try.prog 47 := CelT.of Try.underlying47 rfl
attribute [instance] ty.c47
theorem ty.i48 : Inf Try.prog 48 Try.t48 := ⟨by kernel_rfl⟩
attribute [instance] ty.i48
theorem ty.s48 : Sz Try.prog 48 1 := ⟨_, ty.i48.eq, rfl⟩
attribute [instance] ty.s48
@[reducible] def ty.u48 := @Ut.mk Try.prog 48 _ Try.underlying48
attribute [instance] ty.u48
theorem ty.c48 : CelT Try.prog 48 := CelT.of Try.underlying48 rfl
attribute [instance] ty.c48
theorem ty.i49 : Inf Try.prog 49 Try.t49 := ⟨by kernel_rfl⟩
attribute [instance] ty.i49
theorem ty.s49 : Sz Try.prog 49 1 := ⟨_, ty.i49.eq, rfl⟩
attribute [instance] ty.s49
@[reducible] def ty.u49 := @Ut.mk Try.prog 49 _ Try.underlying49
attribute [instance] ty.u49
theorem ty.c49 : CelT Try.prog 49 := CelT.of Try.underlying49 rfl
attribute [instance] ty.c49
theorem ty.i50 : Inf Try.prog 50 Try.t50 := ⟨by kernel_rfl⟩
attribute [instance] ty.i50
theorem ty.s50 : Sz Try.prog 50 1 := ⟨_, ty.i50.eq, rfl⟩
attribute [instance] ty.s50
@[reducible] def ty.u50 := @Ut.mk Try.prog 50 _ Try.underlying50
attribute [instance] ty.u50
theorem ty.c50 : CelT Try.prog 50 := CelT.of Try.underlying50 rfl
attribute [instance] ty.c50
theorem ty.i51 : Inf Try.prog 51 Try.t51 := ⟨by kernel_rfl⟩
attribute [instance] ty.i51
theorem ty.s51 : Sz Try.prog 51 1 := ⟨_, ty.i51.eq, rfl⟩
attribute [instance] ty.s51
@[reducible] def ty.u51 := @Ut.mk Try.prog 51 _ Try.underlying51
attribute [instance] ty.u51
theorem ty.c51 : CelT Try.prog 51 := CelT.of Try.underlying51 rfl
attribute [instance] ty.c51
theorem ty.i52 : Inf Try.prog 52 Try.t52 := ⟨by kernel_rfl⟩
attribute [instance] ty.i52
theorem ty.s52 : Sz Try.prog 52 1 := ⟨_, ty.i52.eq, rfl⟩
attribute [instance] ty.s52
@[reducible] def ty.u52 := @Ut.mk Try.prog 52 _ Try.underlying52
attribute [instance] ty.u52
theorem ty.c52 : CelT Try.prog 52 := CelT.of Try.underlying52 rfl
attribute [instance] ty.c52
theorem ty.i53 : Inf Try.prog 53 Try.t53 := ⟨by kernel_rfl⟩
attribute [instance] ty.i53
theorem ty.s53 : Sz Try.prog 53 1 := ⟨_, ty.i53.eq, rfl⟩
attribute [instance] ty.s53
@[reducible] def ty.u53 := @Ut.mk Try.prog 53 _ Try.underlying53
attribute [instance] ty.u53
theorem ty.c53 : CelT Try.prog 53 := CelT.of Try.underlying53 rfl
attribute [instance] ty.c53
theorem ty.i54 : Inf Try.prog 54 Try.t54 := ⟨by kernel_rfl⟩
attribute [instance] ty.i54
theorem ty.s54 : Sz Try.prog 54 1 := ⟨_, ty.i54.eq, rfl⟩
attribute [instance] ty.s54
@[reducible] def ty.u54 := @Ut.mk Try.prog 54 _ Try.underlying54
attribute [instance] ty.u54
theorem ty.c54 : CelT Try.prog 54 := CelT.of Try.underlying54 rfl
attribute [instance] ty.c54
theorem ty.i55 : Inf Try.prog 55 Try.t55 := ⟨by kernel_rfl⟩
attribute [instance] ty.i55
theorem ty.s55 : Sz Try.prog 55 16 := ⟨_, ty.i55.eq, rfl⟩
attribute [instance] ty.s55
@[reducible] def ty.u55 := @Ut.mk Try.prog 55 _ Try.underlying55
attribute [instance] ty.u55
theorem ty.a55 : AggT Try.prog 55 16 := AggT.of Try.underlying55 rfl ty.i55.eq rfl
attribute [instance] ty.a55
theorem ty.i56 : Inf Try.prog 56 Try.t56 := ⟨by kernel_rfl⟩
attribute [instance] ty.i56
theorem ty.s56 : Sz Try.prog 56 16 := ⟨_, ty.i56.eq, rfl⟩
attribute [instance] ty.s56
@[reducible] def ty.u56 := @Ut.mk Try.prog 56 _ Try.underlying56
attribute [instance] ty.u56
theorem ty.a56 : AggT Try.prog 56 16 := AggT.of Try.underlying56 rfl ty.i56.eq rfl
attribute [instance] ty.a56
theorem ty.i57 : Inf Try.prog 57 Try.t57 := ⟨by kernel_rfl⟩
attribute [instance] ty.i57
theorem ty.s57 : Sz Try.prog 57 1 := ⟨_, ty.i57.eq, rfl⟩
attribute [instance] ty.s57
@[reducible] def ty.u57 := @Ut.mk Try.prog 57 _ Try.underlying57
attribute [instance] ty.u57
theorem ty.c57 : CelT Try.prog 57 := CelT.of Try.underlying57 rfl
attribute [instance] ty.c57
theorem ty.i58 : Inf Try.prog 58 Try.t58 := ⟨by kernel_rfl⟩
attribute [instance] ty.i58
theorem ty.s58 : Sz Try.prog 58 1 := ⟨_, ty.i58.eq, rfl⟩
attribute [instance] ty.s58
@[reducible] def ty.u58 := @Ut.mk Try.prog 58 _ Try.underlying58
attribute [instance] ty.u58
theorem ty.c58 : CelT Try.prog 58 := CelT.of Try.underlying58 rfl
attribute [instance] ty.c58
theorem ty.i59 : Inf Try.prog 59 Try.t59 := ⟨by kernel_rfl⟩
attribute [instance] ty.i59
theorem ty.s59 : Sz Try.prog 59 1 := ⟨_, ty.i59.eq, rfl⟩
attribute [instance] ty.s59
@[reducible] def ty.u59 := @Ut.mk Try.prog 59 _ Try.underlying59
attribute [instance] ty.u59
theorem ty.c59 : CelT Try.prog 59 := CelT.of Try.underlying59 rfl
attribute [instance] ty.c59
theorem ty.i60 : Inf Try.prog 60 Try.t60 := ⟨by kernel_rfl⟩
attribute [instance] ty.i60
theorem ty.s60 : Sz Try.prog 60 1 := ⟨_, ty.i60.eq, rfl⟩
attribute [instance] ty.s60
@[reducible] def ty.u60 := @Ut.mk Try.prog 60 _ Try.underlying60
attribute [instance] ty.u60
theorem ty.c60 : CelT Try.prog 60 := CelT.of Try.underlying60 rfl
attribute [instance] ty.c60
theorem ty.i61 : Inf Try.prog 61 Try.t61 := ⟨by kernel_rfl⟩
attribute [instance] ty.i61
theorem ty.s61 : Sz Try.prog 61 1 := ⟨_, ty.i61.eq, rfl⟩
attribute [instance] ty.s61
@[reducible] def ty.u61 := @Ut.mk Try.prog 61 _ Try.underlying61
attribute [instance] ty.u61
theorem ty.c61 : CelT Try.prog 61 := CelT.of Try.underlying61 rfl
attribute [instance] ty.c61
theorem ty.i62 : Inf Try.prog 62 Try.t62 := ⟨by kernel_rfl⟩
attribute [instance] ty.i62
theorem ty.s62 : Sz Try.prog 62 1 := ⟨_, ty.i62.eq, rfl⟩
attribute [instance] ty.s62
@[reducible] def ty.u62 := @Ut.mk Try.prog 62 _ Try.underlying62
attribute [instance] ty.u62
theorem ty.c62 : CelT Try.prog 62 := CelT.of Try.underlying62 rfl
attribute [instance] ty.c62
theorem ty.i63 : Inf Try.prog 63 Try.t63 := ⟨by kernel_rfl⟩
attribute [instance] ty.i63
theorem ty.s63 : Sz Try.prog 63 1 := ⟨_, ty.i63.eq, rfl⟩
attribute [instance] ty.s63
@[reducible] def ty.u63 := @Ut.mk Try.prog 63 _ Try.underlying63
attribute [instance] ty.u63
theorem ty.c63 : CelT Try.prog 63 := CelT.of Try.underlying63 rfl
attribute [instance] ty.c63
theorem ty.i64 : Inf Try.prog 64 Try.t64 := ⟨by kernel_rfl⟩
attribute [instance] ty.i64
theorem ty.s64 : Sz Try.prog 64 1 := ⟨_, ty.i64.eq, rfl⟩
attribute [instance] ty.s64
@[reducible] def ty.u64 := @Ut.mk Try.prog 64 _ Try.underlying64
attribute [instance] ty.u64
theorem ty.c64 : CelT Try.prog 64 := CelT.of Try.underlying64 rfl
attribute [instance] ty.c64
theorem ty.i65 : Inf Try.prog 65 Try.t65 := ⟨by kernel_rfl⟩
attribute [instance] ty.i65
theorem ty.s65 : Sz Try.prog 65 1 := ⟨_, ty.i65.eq, rfl⟩
attribute [instance] ty.s65
@[reducible] def ty.u65 := @Ut.mk Try.prog 65 _ Try.underlying65
attribute [instance] ty.u65
theorem ty.c65 : CelT Try.prog 65 := CelT.of Try.underlying65 rfl
attribute [instance] ty.c65
theorem ty.i66 : Inf Try.prog 66 Try.t66 := ⟨by kernel_rfl⟩
attribute [instance] ty.i66
theorem ty.s66 : Sz Try.prog 66 1 := ⟨_, ty.i66.eq, rfl⟩
attribute [instance] ty.s66
@[reducible] def ty.u66 := @Ut.mk Try.prog 66 _ Try.underlying66
attribute [instance] ty.u66
theorem ty.c66 : CelT Try.prog 66 := CelT.of Try.underlying66 rfl
attribute [instance] ty.c66
theorem ty.i67 : Inf Try.prog 67 Try.t67 := ⟨by kernel_rfl⟩
attribute [instance] ty.i67
theorem ty.s67 : Sz Try.prog 67 1 := ⟨_, ty.i67.eq, rfl⟩
attribute [instance] ty.s67
@[reducible] def ty.u67 := @Ut.mk Try.prog 67 _ Try.underlying67
attribute [instance] ty.u67
theorem ty.c67 : CelT Try.prog 67 := CelT.of Try.underlying67 rfl
attribute [instance] ty.c67
theorem ty.i68 : Inf Try.prog 68 Try.t68 := ⟨by kernel_rfl⟩
attribute [instance] ty.i68
theorem ty.s68 : Sz Try.prog 68 9 := ⟨_, ty.i68.eq, rfl⟩
attribute [instance] ty.s68
@[reducible] def ty.u68 := @Ut.mk Try.prog 68 _ Try.underlying68
attribute [instance] ty.u68
theorem ty.a68 : AggT Try.prog 68 9 := AggT.of Try.underlying68 rfl ty.i68.eq rfl
attribute [instance] ty.a68
theorem ty.i69 : Inf Try.prog 69 Try.t69 := ⟨by kernel_rfl⟩
attribute [instance] ty.i69
theorem ty.s69 : Sz Try.prog 69 9 := ⟨_, ty.i69.eq, rfl⟩
attribute [instance] ty.s69
@[reducible] def ty.u69 := @Ut.mk Try.prog 69 _ Try.underlying69
attribute [instance] ty.u69
theorem ty.a69 : AggT Try.prog 69 9 := AggT.of Try.underlying69 rfl ty.i69.eq rfl
attribute [instance] ty.a69
theorem ty.i70 : Inf Try.prog 70 Try.t70 := ⟨by kernel_rfl⟩
attribute [instance] ty.i70
theorem ty.s70 : Sz Try.prog 70 1 := ⟨_, ty.i70.eq, rfl⟩
attribute [instance] ty.s70
@[reducible] def ty.u70 := @Ut.mk Try.prog 70 _ Try.underlying70
attribute [instance] ty.u70
theorem ty.c70 : CelT Try.prog 70 := CelT.of Try.underlying70 rfl
attribute [instance] ty.c70
theorem ty.i71 : Inf Try.prog 71 Try.t71 := ⟨by kernel_rfl⟩
attribute [instance] ty.i71
theorem ty.s71 : Sz Try.prog 71 18 := ⟨_, ty.i71.eq, rfl⟩
attribute [instance] ty.s71
@[reducible] def ty.u71 := @Ut.mk Try.prog 71 _ Try.underlying71
attribute [instance] ty.u71
theorem ty.a71 : AggT Try.prog 71 18 := AggT.of Try.underlying71 rfl ty.i71.eq rfl
attribute [instance] ty.a71
theorem ty.i72 : Inf Try.prog 72 Try.t72 := ⟨by kernel_rfl⟩
attribute [instance] ty.i72
theorem ty.s72 : Sz Try.prog 72 18 := ⟨_, ty.i72.eq, rfl⟩
attribute [instance] ty.s72
@[reducible] def ty.u72 := @Ut.mk Try.prog 72 _ Try.underlying72
attribute [instance] ty.u72
theorem ty.a72 : AggT Try.prog 72 18 := AggT.of Try.underlying72 rfl ty.i72.eq rfl
attribute [instance] ty.a72
theorem ty.i73 : Inf Try.prog 73 Try.t73 := ⟨by kernel_rfl⟩
attribute [instance] ty.i73
theorem ty.s73 : Sz Try.prog 73 1 := ⟨_, ty.i73.eq, rfl⟩
attribute [instance] ty.s73
@[reducible] def ty.u73 := @Ut.mk Try.prog 73 _ Try.underlying73
attribute [instance] ty.u73
theorem ty.c73 : CelT Try.prog 73 := CelT.of Try.underlying73 rfl
attribute [instance] ty.c73
theorem ty.i74 : Inf Try.prog 74 Try.t74 := ⟨by kernel_rfl⟩
attribute [instance] ty.i74
theorem ty.s74 : Sz Try.prog 74 1 := ⟨_, ty.i74.eq, rfl⟩
attribute [instance] ty.s74
@[reducible] def ty.u74 := @Ut.mk Try.prog 74 _ Try.underlying74
attribute [instance] ty.u74
theorem ty.c74 : CelT Try.prog 74 := CelT.of Try.underlying74 rfl
attribute [instance] ty.c74
theorem ty.i75 : Inf Try.prog 75 Try.t75 := ⟨by kernel_rfl⟩
attribute [instance] ty.i75
theorem ty.s75 : Sz Try.prog 75 1 := ⟨_, ty.i75.eq, rfl⟩
attribute [instance] ty.s75
@[reducible] def ty.u75 := @Ut.mk Try.prog 75 _ Try.underlying75
attribute [instance] ty.u75
theorem ty.c75 : CelT Try.prog 75 := CelT.of Try.underlying75 rfl
attribute [instance] ty.c75
theorem ty.i76 : Inf Try.prog 76 Try.t76 := ⟨by kernel_rfl⟩
attribute [instance] ty.i76
theorem ty.s76 : Sz Try.prog 76 1 := ⟨_, ty.i76.eq, rfl⟩
attribute [instance] ty.s76
@[reducible] def ty.u76 := @Ut.mk Try.prog 76 _ Try.underlying76
attribute [instance] ty.u76
theorem ty.c76 : CelT Try.prog 76 := CelT.of Try.underlying76 rfl
attribute [instance] ty.c76
theorem ty.i77 : Inf Try.prog 77 Try.t77 := ⟨by kernel_rfl⟩
attribute [instance] ty.i77
theorem ty.s77 : Sz Try.prog 77 1 := ⟨_, ty.i77.eq, rfl⟩
attribute [instance] ty.s77
@[reducible] def ty.u77 := @Ut.mk Try.prog 77 _ Try.underlying77
attribute [instance] ty.u77
theorem ty.c77 : CelT Try.prog 77 := CelT.of Try.underlying77 rfl
attribute [instance] ty.c77
theorem ty.i78 : Inf Try.prog 78 Try.t78 := ⟨by kernel_rfl⟩
attribute [instance] ty.i78
theorem ty.s78 : Sz Try.prog 78 1 := ⟨_, ty.i78.eq, rfl⟩
attribute [instance] ty.s78
@[reducible] def ty.u78 := @Ut.mk Try.prog 78 _ Try.underlying78
attribute [instance] ty.u78
theorem ty.c78 : CelT Try.prog 78 := CelT.of Try.underlying78 rfl
attribute [instance] ty.c78
theorem ty.i79 : Inf Try.prog 79 Try.t79 := ⟨by kernel_rfl⟩
attribute [instance] ty.i79
theorem ty.s79 : Sz Try.prog 79 1 := ⟨_, ty.i79.eq, rfl⟩
attribute [instance] ty.s79
@[reducible] def ty.u79 := @Ut.mk Try.prog 79 _ Try.underlying79
attribute [instance] ty.u79
theorem ty.c79 : CelT Try.prog 79 := CelT.of Try.underlying79 rfl
attribute [instance] ty.c79
theorem ty.i80 : Inf Try.prog 80 Try.t80 := ⟨by kernel_rfl⟩
attribute [instance] ty.i80
theorem ty.s80 : Sz Try.prog 80 4 := ⟨_, ty.i80.eq, rfl⟩
attribute [instance] ty.s80
@[reducible] def ty.u80 := @Ut.mk Try.prog 80 _ Try.underlying80
attribute [instance] ty.u80
theorem ty.a80 : AggT Try.prog 80 4 := AggT.of Try.underlying80 rfl ty.i80.eq rfl
attribute [instance] ty.a80
theorem ty.i81 : Inf Try.prog 81 Try.t81 := ⟨by kernel_rfl⟩
attribute [instance] ty.i81
theorem ty.s81 : Sz Try.prog 81 4 := ⟨_, ty.i81.eq, rfl⟩
attribute [instance] ty.s81
@[reducible] def ty.u81 := @Ut.mk Try.prog 81 _ Try.underlying81
attribute [instance] ty.u81
theorem ty.a81 : AggT Try.prog 81 4 := AggT.of Try.underlying81 rfl ty.i81.eq rfl
attribute [instance] ty.a81
theorem ty.i82 : Inf Try.prog 82 Try.t82 := ⟨by kernel_rfl⟩
attribute [instance] ty.i82
theorem ty.s82 : Sz Try.prog 82 0 := ⟨_, ty.i82.eq, rfl⟩
attribute [instance] ty.s82
@[reducible] def ty.u82 := @Ut.mk Try.prog 82 _ Try.underlying82
attribute [instance] ty.u82
theorem ty.a82 : AggT Try.prog 82 0 := AggT.of Try.underlying82 rfl ty.i82.eq rfl
attribute [instance] ty.a82
theorem ty.i83 : Inf Try.prog 83 Try.t83 := ⟨by kernel_rfl⟩
attribute [instance] ty.i83
theorem ty.s83 : Sz Try.prog 83 0 := ⟨_, ty.i83.eq, rfl⟩
attribute [instance] ty.s83
@[reducible] def ty.u83 := @Ut.mk Try.prog 83 _ Try.underlying83
attribute [instance] ty.u83
theorem ty.a83 : AggT Try.prog 83 0 := AggT.of Try.underlying83 rfl ty.i83.eq rfl
attribute [instance] ty.a83
theorem ty.i84 : Inf Try.prog 84 Try.t84 := ⟨by kernel_rfl⟩
attribute [instance] ty.i84
theorem ty.s84 : Sz Try.prog 84 0 := ⟨_, ty.i84.eq, rfl⟩
attribute [instance] ty.s84
@[reducible] def ty.u84 := @Ut.mk Try.prog 84 _ Try.underlying84
attribute [instance] ty.u84
theorem ty.a84 : AggT Try.prog 84 0 := AggT.of Try.underlying84 rfl ty.i84.eq rfl
attribute [instance] ty.a84
theorem ty.i85 : Inf Try.prog 85 Try.t85 := ⟨by kernel_rfl⟩
attribute [instance] ty.i85
theorem ty.s85 : Sz Try.prog 85 1 := ⟨_, ty.i85.eq, rfl⟩
attribute [instance] ty.s85
@[reducible] def ty.u85 := @Ut.mk Try.prog 85 _ Try.underlying85
attribute [instance] ty.u85
theorem ty.c85 : CelT Try.prog 85 := CelT.of Try.underlying85 rfl
attribute [instance] ty.c85
theorem ty.i86 : Inf Try.prog 86 Try.t86 := ⟨by kernel_rfl⟩
attribute [instance] ty.i86
theorem ty.s86 : Sz Try.prog 86 1 := ⟨_, ty.i86.eq, rfl⟩
attribute [instance] ty.s86
@[reducible] def ty.u86 := @Ut.mk Try.prog 86 _ Try.underlying86
attribute [instance] ty.u86
theorem ty.c86 : CelT Try.prog 86 := CelT.of Try.underlying86 rfl
attribute [instance] ty.c86
theorem ty.i87 : Inf Try.prog 87 Try.t87 := ⟨by kernel_rfl⟩
attribute [instance] ty.i87
theorem ty.s87 : Sz Try.prog 87 1 := ⟨_, ty.i87.eq, rfl⟩
attribute [instance] ty.s87
@[reducible] def ty.u87 := @Ut.mk Try.prog 87 _ Try.underlying87
attribute [instance] ty.u87
theorem ty.c87 : CelT Try.prog 87 := CelT.of Try.underlying87 rfl
attribute [instance] ty.c87
theorem ty.i88 : Inf Try.prog 88 Try.t88 := ⟨by kernel_rfl⟩
attribute [instance] ty.i88
theorem ty.s88 : Sz Try.prog 88 1 := ⟨_, ty.i88.eq, rfl⟩
attribute [instance] ty.s88
@[reducible] def ty.u88 := @Ut.mk Try.prog 88 _ Try.underlying88
attribute [instance] ty.u88
theorem ty.c88 : CelT Try.prog 88 := CelT.of Try.underlying88 rfl
attribute [instance] ty.c88
theorem ty.i89 : Inf Try.prog 89 Try.t89 := ⟨by kernel_rfl⟩
attribute [instance] ty.i89
theorem ty.s89 : Sz Try.prog 89 1 := ⟨_, ty.i89.eq, rfl⟩
attribute [instance] ty.s89
@[reducible] def ty.u89 := @Ut.mk Try.prog 89 _ Try.underlying89
attribute [instance] ty.u89
theorem ty.c89 : CelT Try.prog 89 := CelT.of Try.underlying89 rfl
attribute [instance] ty.c89
theorem ty.i90 : Inf Try.prog 90 Try.t90 := ⟨by kernel_rfl⟩
attribute [instance] ty.i90
theorem ty.s90 : Sz Try.prog 90 1 := ⟨_, ty.i90.eq, rfl⟩
attribute [instance] ty.s90
@[reducible] def ty.u90 := @Ut.mk Try.prog 90 _ Try.underlying90
attribute [instance] ty.u90
theorem ty.c90 : CelT Try.prog 90 := CelT.of Try.underlying90 rfl
attribute [instance] ty.c90
theorem ty.i91 : Inf Try.prog 91 Try.t91 := ⟨by kernel_rfl⟩
attribute [instance] ty.i91
theorem ty.s91 : Sz Try.prog 91 1 := ⟨_, ty.i91.eq, rfl⟩
attribute [instance] ty.s91
@[reducible] def ty.u91 := @Ut.mk Try.prog 91 _ Try.underlying91
attribute [instance] ty.u91
theorem ty.c91 : CelT Try.prog 91 := CelT.of Try.underlying91 rfl
attribute [instance] ty.c91
theorem ty.i92 : Inf Try.prog 92 Try.t92 := ⟨by kernel_rfl⟩
attribute [instance] ty.i92
theorem ty.s92 : Sz Try.prog 92 1 := ⟨_, ty.i92.eq, rfl⟩
attribute [instance] ty.s92
@[reducible] def ty.u92 := @Ut.mk Try.prog 92 _ Try.underlying92
attribute [instance] ty.u92
theorem ty.c92 : CelT Try.prog 92 := CelT.of Try.underlying92 rfl
attribute [instance] ty.c92
theorem ty.i93 : Inf Try.prog 93 Try.t93 := ⟨by kernel_rfl⟩
attribute [instance] ty.i93
theorem ty.s93 : Sz Try.prog 93 11 := ⟨_, ty.i93.eq, rfl⟩
attribute [instance] ty.s93
@[reducible] def ty.u93 := @Ut.mk Try.prog 93 _ Try.underlying93
attribute [instance] ty.u93
theorem ty.a93 : AggT Try.prog 93 11 := AggT.of Try.underlying93 rfl ty.i93.eq rfl
attribute [instance] ty.a93
theorem ty.i94 : Inf Try.prog 94 Try.t94 := ⟨by kernel_rfl⟩
attribute [instance] ty.i94
theorem ty.s94 : Sz Try.prog 94 11 := ⟨_, ty.i94.eq, rfl⟩
attribute [instance] ty.s94
@[reducible] def ty.u94 := @Ut.mk Try.prog 94 _ Try.underlying94
attribute [instance] ty.u94
theorem ty.a94 : AggT Try.prog 94 11 := AggT.of Try.underlying94 rfl ty.i94.eq rfl
attribute [instance] ty.a94
theorem ty.i95 : Inf Try.prog 95 Try.t95 := ⟨by kernel_rfl⟩
attribute [instance] ty.i95
theorem ty.s95 : Sz Try.prog 95 1 := ⟨_, ty.i95.eq, rfl⟩
attribute [instance] ty.s95
@[reducible] def ty.u95 := @Ut.mk Try.prog 95 _ Try.underlying95
attribute [instance] ty.u95
theorem ty.c95 : CelT Try.prog 95 := CelT.of Try.underlying95 rfl
attribute [instance] ty.c95
theorem ty.f7_0 : Fld Try.prog 7 0 0 2 := Fld.mk _ _ _ Try.underlying7 rfl rfl rfl ty.i2.eq (by decide)
attribute [instance] ty.f7_0
theorem ty.f7_1 : Fld Try.prog 7 1 1 3 := Fld.mk _ _ _ Try.underlying7 rfl rfl rfl ty.i3.eq (by decide)
attribute [instance] ty.f7_1
theorem ty.f7_2 : Fld Try.prog 7 2 2 4 := Fld.mk _ _ _ Try.underlying7 rfl rfl rfl ty.i4.eq (by decide)
attribute [instance] ty.f7_2
theorem ty.f7_3 : Fld Try.prog 7 3 3 6 := Fld.mk _ _ _ Try.underlying7 rfl rfl rfl ty.i6.eq (by decide)
attribute [instance] ty.f7_3
theorem ty.f8_0 : Fld Try.prog 8 0 0 2 := Fld.mk _ _ _ Try.underlying8 rfl rfl rfl ty.i2.eq (by decide)
attribute [instance] ty.f8_0
theorem ty.f8_1 : Fld Try.prog 8 1 1 3 := Fld.mk _ _ _ Try.underlying8 rfl rfl rfl ty.i3.eq (by decide)
attribute [instance] ty.f8_1
theorem ty.f8_2 : Fld Try.prog 8 2 2 4 := Fld.mk _ _ _ Try.underlying8 rfl rfl rfl ty.i4.eq (by decide)
attribute [instance] ty.f8_2
theorem ty.f8_3 : Fld Try.prog 8 3 3 6 := Fld.mk _ _ _ Try.underlying8 rfl rfl rfl ty.i6.eq (by decide)
attribute [instance] ty.f8_3
theorem ty.f13_0 : Fld Try.prog 13 0 0 9 := Fld.mk _ _ _ Try.underlying13 rfl rfl rfl ty.i9.eq (by decide)
attribute [instance] ty.f13_0
theorem ty.f13_1 : Fld Try.prog 13 1 1 12 := Fld.mk _ _ _ Try.underlying13 rfl rfl rfl ty.i12.eq (by decide)
attribute [instance] ty.f13_1
theorem ty.f14_0 : Fld Try.prog 14 0 0 9 := Fld.mk _ _ _ Try.underlying14 rfl rfl rfl ty.i9.eq (by decide)
attribute [instance] ty.f14_0
theorem ty.f14_1 : Fld Try.prog 14 1 1 12 := Fld.mk _ _ _ Try.underlying14 rfl rfl rfl ty.i12.eq (by decide)
attribute [instance] ty.f14_1
theorem ty.f18_0 : Fld Try.prog 18 0 0 17 := Fld.mk _ _ _ Try.underlying18 rfl rfl rfl ty.i17.eq (by decide)
attribute [instance] ty.f18_0
theorem ty.f19_0 : Fld Try.prog 19 0 0 17 := Fld.mk _ _ _ Try.underlying19 rfl rfl rfl ty.i17.eq (by decide)
attribute [instance] ty.f19_0
theorem ty.b28 : BArr Try.prog 28 8 := BArr.of Try.underlying28 Try.underlying5 ⟨_, rfl⟩ (by kernel_rfl) (by kernel_rfl) (by kernel_rfl)
attribute [instance] ty.b28
theorem ty.b29 : BArr Try.prog 29 8 := BArr.of Try.underlying29 Try.underlying5 ⟨_, rfl⟩ (by kernel_rfl) (by kernel_rfl) (by kernel_rfl)
attribute [instance] ty.b29
theorem ty.f34_0 : Fld Try.prog 34 0 0 5 := Fld.mk _ _ _ Try.underlying34 rfl rfl rfl ty.i5.eq (by decide)
attribute [instance] ty.f34_0
theorem ty.f34_1 : Fld Try.prog 34 1 1 5 := Fld.mk _ _ _ Try.underlying34 rfl rfl rfl ty.i5.eq (by decide)
attribute [instance] ty.f34_1
theorem ty.f35_0 : Fld Try.prog 35 0 0 5 := Fld.mk _ _ _ Try.underlying35 rfl rfl rfl ty.i5.eq (by decide)
attribute [instance] ty.f35_0
theorem ty.f35_1 : Fld Try.prog 35 1 1 5 := Fld.mk _ _ _ Try.underlying35 rfl rfl rfl ty.i5.eq (by decide)
attribute [instance] ty.f35_1
theorem ty.f41_0 : Fld Try.prog 41 0 0 3 := Fld.mk _ _ _ Try.underlying41 rfl rfl rfl ty.i3.eq (by decide)
attribute [instance] ty.f41_0
theorem ty.f41_1 : Fld Try.prog 41 1 1 40 := Fld.mk _ _ _ Try.underlying41 rfl rfl rfl ty.i40.eq (by decide)
attribute [instance] ty.f41_1
theorem ty.f41_2 : Fld Try.prog 41 2 2 28 := Fld.mk _ _ _ Try.underlying41 rfl rfl rfl ty.i28.eq (by decide)
attribute [instance] ty.f41_2
theorem ty.f42_0 : Fld Try.prog 42 0 0 3 := Fld.mk _ _ _ Try.underlying42 rfl rfl rfl ty.i3.eq (by decide)
attribute [instance] ty.f42_0
theorem ty.f42_1 : Fld Try.prog 42 1 1 40 := Fld.mk _ _ _ Try.underlying42 rfl rfl rfl ty.i40.eq (by decide)
attribute [instance] ty.f42_1
theorem ty.f42_2 : Fld Try.prog 42 2 2 28 := Fld.mk _ _ _ Try.underlying42 rfl rfl rfl ty.i28.eq (by decide)
attribute [instance] ty.f42_2
theorem ty.f55_0 : Fld Try.prog 55 0 0 28 := Fld.mk _ _ _ Try.underlying55 rfl rfl rfl ty.i28.eq (by decide)
attribute [instance] ty.f55_0
theorem ty.f55_1 : Fld Try.prog 55 1 8 28 := Fld.mk _ _ _ Try.underlying55 rfl rfl rfl ty.i28.eq (by decide)
attribute [instance] ty.f55_1
theorem ty.f56_0 : Fld Try.prog 56 0 0 28 := Fld.mk _ _ _ Try.underlying56 rfl rfl rfl ty.i28.eq (by decide)
attribute [instance] ty.f56_0
theorem ty.f56_1 : Fld Try.prog 56 1 8 28 := Fld.mk _ _ _ Try.underlying56 rfl rfl rfl ty.i28.eq (by decide)
attribute [instance] ty.f56_1
theorem ty.f68_0 : Fld Try.prog 68 0 0 29 := Fld.mk _ _ _ Try.underlying68 rfl rfl rfl ty.i29.eq (by decide)
attribute [instance] ty.f68_0
theorem ty.f68_1 : Fld Try.prog 68 1 8 3 := Fld.mk _ _ _ Try.underlying68 rfl rfl rfl ty.i3.eq (by decide)
attribute [instance] ty.f68_1
theorem ty.f69_0 : Fld Try.prog 69 0 0 29 := Fld.mk _ _ _ Try.underlying69 rfl rfl rfl ty.i29.eq (by decide)
attribute [instance] ty.f69_0
theorem ty.f69_1 : Fld Try.prog 69 1 8 3 := Fld.mk _ _ _ Try.underlying69 rfl rfl rfl ty.i3.eq (by decide)
attribute [instance] ty.f69_1
theorem ty.f71_0 : Fld Try.prog 71 0 0 29 := Fld.mk _ _ _ Try.underlying71 rfl rfl rfl ty.i29.eq (by decide)
attribute [instance] ty.f71_0
theorem ty.f71_1 : Fld Try.prog 71 1 8 29 := Fld.mk _ _ _ Try.underlying71 rfl rfl rfl ty.i29.eq (by decide)
attribute [instance] ty.f71_1
theorem ty.f71_2 : Fld Try.prog 71 2 16 3 := Fld.mk _ _ _ Try.underlying71 rfl rfl rfl ty.i3.eq (by decide)
attribute [instance] ty.f71_2
theorem ty.f71_3 : Fld Try.prog 71 3 17 70 := Fld.mk _ _ _ Try.underlying71 rfl rfl rfl ty.i70.eq (by decide)
attribute [instance] ty.f71_3
theorem ty.f72_0 : Fld Try.prog 72 0 0 29 := Fld.mk _ _ _ Try.underlying72 rfl rfl rfl ty.i29.eq (by decide)
attribute [instance] ty.f72_0
theorem ty.f72_1 : Fld Try.prog 72 1 8 29 := Fld.mk _ _ _ Try.underlying72 rfl rfl rfl ty.i29.eq (by decide)
attribute [instance] ty.f72_1
theorem ty.f72_2 : Fld Try.prog 72 2 16 3 := Fld.mk _ _ _ Try.underlying72 rfl rfl rfl ty.i3.eq (by decide)
attribute [instance] ty.f72_2
theorem ty.f72_3 : Fld Try.prog 72 3 17 70 := Fld.mk _ _ _ Try.underlying72 rfl rfl rfl ty.i70.eq (by decide)
attribute [instance] ty.f72_3
theorem ty.f80_0 : Fld Try.prog 80 0 0 17 := Fld.mk _ _ _ Try.underlying80 rfl rfl rfl ty.i17.eq (by decide)
attribute [instance] ty.f80_0
theorem ty.f80_1 : Fld Try.prog 80 1 1 17 := Fld.mk _ _ _ Try.underlying80 rfl rfl rfl ty.i17.eq (by decide)
attribute [instance] ty.f80_1
theorem ty.f80_2 : Fld Try.prog 80 2 2 17 := Fld.mk _ _ _ Try.underlying80 rfl rfl rfl ty.i17.eq (by decide)
attribute [instance] ty.f80_2
theorem ty.f80_3 : Fld Try.prog 80 3 3 9 := Fld.mk _ _ _ Try.underlying80 rfl rfl rfl ty.i9.eq (by decide)
attribute [instance] ty.f80_3
theorem ty.f81_0 : Fld Try.prog 81 0 0 17 := Fld.mk _ _ _ Try.underlying81 rfl rfl rfl ty.i17.eq (by decide)
attribute [instance] ty.f81_0
theorem ty.f81_1 : Fld Try.prog 81 1 1 17 := Fld.mk _ _ _ Try.underlying81 rfl rfl rfl ty.i17.eq (by decide)
attribute [instance] ty.f81_1
theorem ty.f81_2 : Fld Try.prog 81 2 2 17 := Fld.mk _ _ _ Try.underlying81 rfl rfl rfl ty.i17.eq (by decide)
attribute [instance] ty.f81_2
theorem ty.f81_3 : Fld Try.prog 81 3 3 9 := Fld.mk _ _ _ Try.underlying81 rfl rfl rfl ty.i9.eq (by decide)
attribute [instance] ty.f81_3
theorem ty.f93_0 : Fld Try.prog 93 0 0 12 := Fld.mk _ _ _ Try.underlying93 rfl rfl rfl ty.i12.eq (by decide)
attribute [instance] ty.f93_0
theorem ty.f93_1 : Fld Try.prog 93 1 1 12 := Fld.mk _ _ _ Try.underlying93 rfl rfl rfl ty.i12.eq (by decide)
attribute [instance] ty.f93_1
theorem ty.f93_2 : Fld Try.prog 93 2 2 86 := Fld.mk _ _ _ Try.underlying93 rfl rfl rfl ty.i86.eq (by decide)
attribute [instance] ty.f93_2
theorem ty.f93_3 : Fld Try.prog 93 3 3 87 := Fld.mk _ _ _ Try.underlying93 rfl rfl rfl ty.i87.eq (by decide)
attribute [instance] ty.f93_3
theorem ty.f93_4 : Fld Try.prog 93 4 4 5 := Fld.mk _ _ _ Try.underlying93 rfl rfl rfl ty.i5.eq (by decide)
attribute [instance] ty.f93_4
theorem ty.f93_5 : Fld Try.prog 93 5 5 5 := Fld.mk _ _ _ Try.underlying93 rfl rfl rfl ty.i5.eq (by decide)
attribute [instance] ty.f93_5
theorem ty.f93_6 : Fld Try.prog 93 6 6 88 := Fld.mk _ _ _ Try.underlying93 rfl rfl rfl ty.i88.eq (by decide)
attribute [instance] ty.f93_6
theorem ty.f93_7 : Fld Try.prog 93 7 7 89 := Fld.mk _ _ _ Try.underlying93 rfl rfl rfl ty.i89.eq (by decide)
attribute [instance] ty.f93_7
theorem ty.f93_8 : Fld Try.prog 93 8 8 90 := Fld.mk _ _ _ Try.underlying93 rfl rfl rfl ty.i90.eq (by decide)
attribute [instance] ty.f93_8
theorem ty.f93_9 : Fld Try.prog 93 9 9 91 := Fld.mk _ _ _ Try.underlying93 rfl rfl rfl ty.i91.eq (by decide)
attribute [instance] ty.f93_9
theorem ty.f93_10 : Fld Try.prog 93 10 10 92 := Fld.mk _ _ _ Try.underlying93 rfl rfl rfl ty.i92.eq (by decide)
attribute [instance] ty.f93_10
theorem ty.f94_0 : Fld Try.prog 94 0 0 12 := Fld.mk _ _ _ Try.underlying94 rfl rfl rfl ty.i12.eq (by decide)
attribute [instance] ty.f94_0
theorem ty.f94_1 : Fld Try.prog 94 1 1 12 := Fld.mk _ _ _ Try.underlying94 rfl rfl rfl ty.i12.eq (by decide)
attribute [instance] ty.f94_1
theorem ty.f94_2 : Fld Try.prog 94 2 2 86 := Fld.mk _ _ _ Try.underlying94 rfl rfl rfl ty.i86.eq (by decide)
attribute [instance] ty.f94_2
theorem ty.f94_3 : Fld Try.prog 94 3 3 87 := Fld.mk _ _ _ Try.underlying94 rfl rfl rfl ty.i87.eq (by decide)
attribute [instance] ty.f94_3
theorem ty.f94_4 : Fld Try.prog 94 4 4 5 := Fld.mk _ _ _ Try.underlying94 rfl rfl rfl ty.i5.eq (by decide)
attribute [instance] ty.f94_4
theorem ty.f94_5 : Fld Try.prog 94 5 5 5 := Fld.mk _ _ _ Try.underlying94 rfl rfl rfl ty.i5.eq (by decide)
attribute [instance] ty.f94_5
theorem ty.f94_6 : Fld Try.prog 94 6 6 88 := Fld.mk _ _ _ Try.underlying94 rfl rfl rfl ty.i88.eq (by decide)
attribute [instance] ty.f94_6
theorem ty.f94_7 : Fld Try.prog 94 7 7 89 := Fld.mk _ _ _ Try.underlying94 rfl rfl rfl ty.i89.eq (by decide)
attribute [instance] ty.f94_7
theorem ty.f94_8 : Fld Try.prog 94 8 8 90 := Fld.mk _ _ _ Try.underlying94 rfl rfl rfl ty.i90.eq (by decide)
attribute [instance] ty.f94_8
theorem ty.f94_9 : Fld Try.prog 94 9 9 91 := Fld.mk _ _ _ Try.underlying94 rfl rfl rfl ty.i91.eq (by decide)
attribute [instance] ty.f94_9
theorem ty.f94_10 : Fld Try.prog 94 10 10 92 := Fld.mk _ _ _ Try.underlying94 rfl rfl rfl ty.i92.eq (by decide)
attribute [instance] ty.f94_10
theorem fn.i3 : Fnc Try.prog 3 := ⟨fun w args => by kernel_rfl⟩
attribute [instance] fn.i3
theorem fn.i4 : Fnc Try.prog 4 := ⟨fun w args => by kernel_rfl⟩
attribute [instance] fn.i4
theorem fn.i5 : Fnc Try.prog 5 := ⟨fun w args => by kernel_rfl⟩
attribute [instance] fn.i5
theorem fn.i6 : Fnc Try.prog 6 := ⟨fun w args => by kernel_rfl⟩
attribute [instance] fn.i6
theorem fn.i7 : Fnc Try.prog 7 := ⟨fun w args => by kernel_rfl⟩
attribute [instance] fn.i7
theorem fn.i8 : Fnc Try.prog 8 := ⟨fun w args => by kernel_rfl⟩
attribute [instance] fn.i8
theorem fn.i9 : Fnc Try.prog 9 := ⟨fun w args => by kernel_rfl⟩
attribute [instance] fn.i9
theorem fn.i10 : Fnc Try.prog 10 := ⟨fun w args => by kernel_rfl⟩
attribute [instance] fn.i10
theorem fn.i11 : Fnc Try.prog 11 := ⟨fun w args => by kernel_rfl⟩
attribute [instance] fn.i11
theorem fn.i12 : Fnc Try.prog 12 := ⟨fun w args => by kernel_rfl⟩
attribute [instance] fn.i12
theorem fn.i13 : Fnc Try.prog 13 := ⟨fun w args => by kernel_rfl⟩
attribute [instance] fn.i13
theorem fn.i14 : Fnc Try.prog 14 := ⟨fun w args => by kernel_rfl⟩
attribute [instance] fn.i14
theorem fn.i15 : Fnc Try.prog 15 := ⟨fun w args => by kernel_rfl⟩
attribute [instance] fn.i15
theorem fn.i16 : Fnc Try.prog 16 := ⟨fun w args => by kernel_rfl⟩
attribute [instance] fn.i16
theorem fn.i17 : Fnc Try.prog 17 := ⟨fun w args => by kernel_rfl⟩
attribute [instance] fn.i17
theorem fn.i18 : Fnc Try.prog 18 := ⟨fun w args => by kernel_rfl⟩
attribute [instance] fn.i18
theorem fn.i19 : Fnc Try.prog 19 := ⟨fun w args => by kernel_rfl⟩
attribute [instance] fn.i19
theorem fn.i20 : Fnc Try.prog 20 := ⟨fun w args => by kernel_rfl⟩
attribute [instance] fn.i20
theorem fn.i21 : Fnc Try.prog 21 := ⟨fun w args => by kernel_rfl⟩
attribute [instance] fn.i21
theorem fn.i22 : Fnc Try.prog 22 := ⟨fun w args => by kernel_rfl⟩
attribute [instance] fn.i22
theorem fn.i23 : Fnc Try.prog 23 := ⟨fun w args => by kernel_rfl⟩
attribute [instance] fn.i23
theorem fn.i24 : Fnc Try.prog 24 := ⟨fun w args => by kernel_rfl⟩
attribute [instance] fn.i24
theorem fn.i25 : Fnc Try.prog 25 := ⟨fun w args => by kernel_rfl⟩
attribute [instance] fn.i25
theorem fn.i26 : Fnc Try.prog 26 := ⟨fun w args => by kernel_rfl⟩
attribute [instance] fn.i26
theorem fn.i27 : Fnc Try.prog 27 := ⟨fun w args => by kernel_rfl⟩
attribute [instance] fn.i27
theorem fn.i28 : Fnc Try.prog 28 := ⟨fun w args => by kernel_rfl⟩
attribute [instance] fn.i28
theorem fn.i29 : Fnc Try.prog 29 := ⟨fun w args => by kernel_rfl⟩
attribute [instance] fn.i29
theorem fn.i30 : Fnc Try.prog 30 := ⟨fun w args => by kernel_rfl⟩
attribute [instance] fn.i30
theorem fn.i31 : Fnc Try.prog 31 := ⟨fun w args => by kernel_rfl⟩
attribute [instance] fn.i31
theorem fn.i32 : Fnc Try.prog 32 := ⟨fun w args => by kernel_rfl⟩
attribute [instance] fn.i32
theorem fn.i33 : Fnc Try.prog 33 := ⟨fun w args => by kernel_rfl⟩
attribute [instance] fn.i33
theorem fn.i34 : Fnc Try.prog 34 := ⟨fun w args => by kernel_rfl⟩
attribute [instance] fn.i34
theorem fn.i35 : Fnc Try.prog 35 := ⟨fun w args => by kernel_rfl⟩
attribute [instance] fn.i35
theorem fn.i36 : Fnc Try.prog 36 := ⟨fun w args => by kernel_rfl⟩
attribute [instance] fn.i36
theorem fn.i37 : Fnc Try.prog 37 := ⟨fun w args => by kernel_rfl⟩
attribute [instance] fn.i37
theorem mixed : Try.prog.follows .mixedOrders = true := by kernel_rfl
end Go.Proofs.Ytpnenekgldggbaa
