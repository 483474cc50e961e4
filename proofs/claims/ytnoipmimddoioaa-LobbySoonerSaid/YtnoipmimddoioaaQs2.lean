import Derived.Test.YtnoipmimddoioaaQs1
/-
  The facts on this seat's types and functions, printed by a program.
-/
namespace Go.Proofs.Ytnoipmimddoioaa
open Go.Proofs
set_option linter.unusedVariables false

theorem ty.i0 : Inf Try.prog 0 Try.t0 := ⟨by kernel_rfl⟩
attribute [instance] ty.i0
theorem ty.s0 : Sz Try.prog 0 1 := ⟨_, ty.i0.eq, rfl⟩
attribute [instance] ty.s0
@[reducible] def ty.u0 := @Ut.mk Try.prog 0 _ Try.underlying0
attribute [instance] ty.u0
theorem ty.c0 : CelT Try.prog 0 := CelT.of Try.underlying0 rfl
attribute [instance] ty.c0
theorem ty.i1 : Inf Try.prog 1 Try.t1 := ⟨by kernel_rfl⟩
attribute [instance] ty.i1
theorem ty.s1 : Sz Try.prog 1 1 := ⟨_, ty.i1.eq, rfl⟩
attribute [instance] ty.s1
@[reducible] def ty.u1 := @Ut.mk Try.prog 1 _ Try.underlying1
attribute [instance] ty.u1
theorem ty.c1 : CelT Try.prog 1 := CelT.of Try.underlying1 rfl
attribute [instance] ty.c1
theorem ty.i2 : Inf Try.prog 2 Try.t2 := ⟨by kernel_rfl⟩
attribute [instance] ty.i2
theorem ty.s2 : Sz Try.prog 2 1 := ⟨_, ty.i2.eq, rfl⟩
attribute [instance] ty.s2
@[reducible] def ty.u2 := @Ut.mk Try.prog 2 _ Try.underlying2
attribute [instance] ty.u2
theorem ty.c2 : CelT Try.prog 2 := CelT.of Try.underlying2 rfl
attribute [instance] ty.c2
theorem ty.i3 : Inf Try.prog 3 Try.t3 := ⟨by kernel_rfl⟩
attribute [instance] ty.i3
theorem ty.s3 : Sz Try.prog 3 1 := ⟨_, ty.i3.eq, rfl⟩
attribute [instance] ty.s3
@[reducible] def ty.u3 := @Ut.mk Try.prog 3 _ Try.underlying3
attribute [instance] ty.u3
theorem ty.c3 : CelT Try.prog 3 := CelT.of Try.underlying3 rfl
attribute [instance] ty.c3
theorem ty.i4 : Inf Try.prog 4 Try.t4 := ⟨by kernel_rfl⟩
attribute [instance] ty.i4
theorem ty.s4 : Sz Try.prog 4 1 := ⟨_, ty.i4.eq, rfl⟩
attribute [instance] ty.s4
@[reducible] def ty.u4 := @Ut.mk Try.prog 4 _ Try.underlying4
attribute [instance] ty.u4
theorem ty.c4 : CelT Try.prog 4 := CelT.of Try.underlying4 rfl
attribute [instance] ty.c4
theorem ty.i5 : Inf Try.prog 5 Try.t5 := ⟨by kernel_rfl⟩
attribute [instance] ty.i5
theorem ty.s5 : Sz Try.prog 5 1 := ⟨_, ty.i5.eq, rfl⟩
attribute [instance] ty.s5
@[reducible] def ty.u5 := @Ut.mk Try.prog 5 _ Try.underlying5
attribute [instance] ty.u5
theorem ty.c5 : CelT Try.prog 5 := CelT.of Try.underlying5 rfl
attribute [instance] ty.c5
theorem ty.i6 : Inf Try.prog 6 Try.t6 := ⟨by kernel_rfl⟩
attribute [instance] ty.i6
theorem ty.s6 : Sz Try.prog 6 1 := ⟨_, ty.i6.eq, rfl⟩
attribute [instance] ty.s6
@[reducible] def ty.u6 := @Ut.mk Try.prog 6 _ Try.underlying6
attribute [instance] ty.u6
theorem ty.c6 : CelT Try.prog 6 := CelT.of Try.underlying6 rfl
attribute [instance] ty.c6
theorem ty.i7 : Inf Try.prog 7 Try.t7 := ⟨by kernel_rfl⟩
attribute [instance] ty.i7
theorem ty.s7 : Sz Try.prog 7 4 := ⟨_, ty.i7.eq, rfl⟩
attribute [instance] ty.s7
@[reducible] def ty.u7 := @Ut.mk Try.prog 7 _ Try.underlying7
attribute [instance] ty.u7
theorem ty.a7 : AggT Try.prog 7 4 := AggT.of Try.underlying7 rfl ty.i7.eq rfl
attribute [instance] ty.a7
theorem ty.i8 : Inf Try.prog 8 Try.t8 := ⟨by kernel_rfl⟩
attribute [instance] ty.i8
theorem ty.s8 : Sz Try.prog 8 4 := ⟨_, ty.i8.eq, rfl⟩
attribute [instance] ty.s8
@[reducible] def ty.u8 := @Ut.mk Try.prog 8 _ Try.underlying8
attribute [instance] ty.u8
theorem ty.a8 : AggT Try.prog 8 4 := AggT.of Try.underlying8 rfl ty.i8.eq rfl
attribute [instance] ty.a8
theorem ty.i9 : Inf Try.prog 9 Try.t9 := ⟨by kernel_rfl⟩
attribute [instance] ty.i9
theorem ty.s9 : Sz Try.prog 9 1 := ⟨_, ty.i9.eq, rfl⟩
attribute [instance] ty.s9
@[reducible] def ty.u9 := @Ut.mk Try.prog 9 _ Try.underlying9
attribute [instance] ty.u9
theorem ty.c9 : CelT Try.prog 9 := CelT.of Try.underlying9 rfl
attribute [instance] ty.c9
theorem ty.i10 : Inf Try.prog 10 Try.t10 := ⟨by kernel_rfl⟩
attribute [instance] ty.i10
theorem ty.s10 : Sz Try.prog 10 1 := ⟨_, ty.i10.eq, rfl⟩
attribute [instance] ty.s10
@[reducible] def ty.u10 := @Ut.mk Try.prog 10 _ Try.underlying10
attribute [instance] ty.u10
theorem ty.c10 : CelT Try.prog 10 := CelT.of Try.underlying10 rfl
attribute [instance] ty.c10
theorem ty.i11 : Inf Try.prog 11 Try.t11 := ⟨by kernel_rfl⟩
attribute [instance] ty.i11
theorem ty.s11 : Sz Try.prog 11 1 := ⟨_, ty.i11.eq, rfl⟩
attribute [instance] ty.s11
@[reducible] def ty.u11 := @Ut.mk Try.prog 11 _ Try.underlying11
attribute [instance] ty.u11
theorem ty.c11 : CelT Try.prog 11 := CelT.of Try.underlying11 rfl
attribute [instance] ty.c11
theorem ty.i12 : Inf Try.prog 12 Try.t12 := ⟨by kernel_rfl⟩
attribute [instance] ty.i12
theorem ty.s12 : Sz Try.prog 12 1 := ⟨_, ty.i12.eq, rfl⟩
attribute [instance] ty.s12
@[reducible] def ty.u12 := @Ut.mk Try.prog 12 _ Try.underlying12
attribute [instance] ty.u12
theorem ty.c12 : CelT Try.prog 12 := CelT.of Try.underlying12 rfl
attribute [instance] ty.c12
theorem ty.i13 : Inf Try.prog 13 Try.t13 := ⟨by kernel_rfl⟩
attribute [instance] ty.i13
theorem ty.s13 : Sz Try.prog 13 2 := ⟨_, ty.i13.eq, rfl⟩
attribute [instance] ty.s13
@[reducible] def ty.u13 := @Ut.mk Try.prog 13 _ Try.underlying13
attribute [instance] ty.u13
theorem ty.a13 : AggT Try.prog 13 2 := AggT.of Try.underlying13 rfl ty.i13.eq rfl
attribute [instance] ty.a13
theorem ty.i14 : Inf Try.prog 14 Try.t14 := ⟨by kernel_rfl⟩
attribute [instance] ty.i14
theorem ty.s14 : Sz Try.prog 14 2 := ⟨_, ty.i14.eq, rfl⟩
attribute [instance] ty.s14
@[reducible] def ty.u14 := @Ut.mk Try.prog 14 _ Try.underlying14
attribute [instance] ty.u14
theorem ty.a14 : AggT Try.prog 14 2 := AggT.of Try.underlying14 rfl ty.i14.eq rfl
attribute [instance] ty.a14
theorem ty.i15 : Inf Try.prog 15 Try.t15 := ⟨by kernel_rfl⟩
attribute [instance] ty.i15
theorem ty.s15 : Sz Try.prog 15 1 := ⟨_, ty.i15.eq, rfl⟩
attribute [instance] ty.s15
@[reducible] def ty.u15 := @Ut.mk Try.prog 15 _ Try.underlying15
attribute [instance] ty.u15
theorem ty.c15 : CelT Try.prog 15 := CelT.of Try.underlying15 rfl
attribute [instance] ty.c15
theorem ty.i16 : Inf Try.prog 16 Try.t16 := ⟨by kernel_rfl⟩
attribute [instance] ty.i16
theorem ty.s16 : Sz Try.prog 16 1 := ⟨_, ty.i16.eq, rfl⟩
attribute [instance] ty.s16
@[reducible] def ty.u16 := @Ut.mk Try.prog 16 _ Try.underlying16
attribute [instance] ty.u16
theorem ty.c16 : CelT Try.prog 16 := CelT.of Try.underlying16 rfl
attribute [instance] ty.c16
theorem ty.i17 : Inf Try.prog 17 Try.t17 := ⟨by kernel_rfl⟩
attribute [instance] ty.i17
theorem ty.s17 : Sz Try.prog 17 1 := ⟨_, ty.i17.eq, rfl⟩
attribute [instance] ty.s17
@[reducible] def ty.u17 := @Ut.mk Try.prog 17 _ Try.underlying17
attribute [instance] ty.u17
theorem ty.c17 : CelT Try.prog 17 := CelT.of Try.underlying17 rfl
attribute [instance] ty.c17
theorem ty.i18 : Inf Try.prog 18 Try.t18 := ⟨by kernel_rfl⟩
attribute [instance] ty.i18
theorem ty.s18 : Sz Try.prog 18 1 := ⟨_, ty.i18.eq, rfl⟩
attribute [instance] ty.s18
@[reducible] def ty.u18 := @Ut.mk Try.prog 18 _ Try.underlying18
attribute [instance] ty.u18
theorem ty.a18 : AggT Try.prog 18 1 := AggT.of Try.underlying18 rfl ty.i18.eq rfl
attribute [instance] ty.a18
theorem ty.i19 : Inf Try.prog 19 Try.t19 := ⟨by kernel_rfl⟩
attribute [instance] ty.i19
theorem ty.s19 : Sz Try.prog 19 1 := ⟨_, ty.i19.eq, rfl⟩
attribute [instance] ty.s19
@[reducible] def ty.u19 := @Ut.mk Try.prog 19 _ Try.underlying19
attribute [instance] ty.u19
theorem ty.a19 : AggT Try.prog 19 1 := AggT.of Try.underlying19 rfl ty.i19.eq rfl
attribute [instance] ty.a19
theorem ty.i20 : Inf Try.prog 20 Try.t20 := ⟨by kernel_rfl⟩
attribute [instance] ty.i20
theorem ty.s20 : Sz Try.prog 20 1 := ⟨_, ty.i20.eq, rfl⟩
attribute [instance] ty.s20
@[reducible] def ty.u20 := @Ut.mk Try.prog 20 _ Try.underlying20
attribute [instance] ty.u20
theorem ty.c20 : CelT Try.prog 20 := CelT.of Try.underlying20 rfl
attribute [instance] ty.c20
theorem ty.i21 : Inf Try.prog 21 Try.t21 := ⟨by kernel_rfl⟩
attribute [instance] ty.i21
theorem ty.s21 : Sz Try.prog 21 1 := ⟨_, ty.i21.eq, rfl⟩
attribute [instance] ty.s21
@[reducible] def ty.u21 := @Ut.mk Try.prog 21 _ Try.underlying21
attribute [instance] ty.u21
theorem ty.c21 : CelT Try.prog 21 := CelT.of Try.underlying21 rfl
attribute [instance] ty.c21
theorem ty.i22 : Inf Try.prog 22 Try.t22 := ⟨by kernel_rfl⟩
attribute [instance] ty.i22
theorem ty.s22 : Sz Try.prog 22 1 := ⟨_, ty.i22.eq, rfl⟩
attribute [instance] ty.s22
@[reducible] def ty.u22 := @Ut.mk Try.prog 22 _ Try.underlying22
attribute [instance] ty.u22
theorem ty.c22 : CelT Try.prog 22 := CelT.of Try.underlying22 rfl
attribute [instance] ty.c22
theorem ty.i23 : Inf Try.prog 23 Try.t23 := ⟨by kernel_rfl⟩
attribute [instance] ty.i23
theorem ty.s23 : Sz Try.prog 23 8 := ⟨_, ty.i23.eq, rfl⟩
attribute [instance] ty.s23
@[reducible] def ty.u23 := @Ut.mk Try.prog 23 _ Try.underlying23
attribute [instance] ty.u23
theorem ty.a23 : AggT Try.prog 23 8 := AggT.of Try.underlying23 rfl ty.i23.eq rfl
attribute [instance] ty.a23
theorem ty.i24 : Inf Try.prog 24 Try.t24 := ⟨by kernel_rfl⟩
attribute [instance] ty.i24
theorem ty.s24 : Sz Try.prog 24 8 := ⟨_, ty.i24.eq, rfl⟩
attribute [instance] ty.s24
@[reducible] def ty.u24 := @Ut.mk Try.prog 24 _ Try.underlying24
attribute [instance] ty.u24
theorem ty.a24 : AggT Try.prog 24 8 := AggT.of Try.underlying24 rfl ty.i24.eq rfl
attribute [instance] ty.a24
theorem ty.i25 : Inf Try.prog 25 Try.t25 := ⟨by kernel_rfl⟩
attribute [instance] ty.i25
theorem ty.s25 : Sz Try.prog 25 1 := ⟨_, ty.i25.eq, rfl⟩
attribute [instance] ty.s25
@[reducible] def ty.u25 := @Ut.mk Try.prog 25 _ Try.underlying25
attribute [instance] ty.u25
theorem ty.c25 : CelT Try.prog 25 := CelT.of Try.underlying25 rfl
attribute [instance] ty.c25
theorem ty.i26 : Inf Try.prog 26 Try.t26 := ⟨by kernel_rfl⟩
attribute [instance] ty.i26
theorem ty.s26 : Sz Try.prog 26 11 := ⟨_, ty.i26.eq, rfl⟩
attribute [instance] ty.s26
@[reducible] def ty.u26 := @Ut.mk Try.prog 26 _ Try.underlying26
attribute [instance] ty.u26
theorem ty.a26 : AggT Try.prog 26 11 := AggT.of Try.underlying26 rfl ty.i26.eq rfl
attribute [instance] ty.a26
theorem ty.i27 : Inf Try.prog 27 Try.t27 := ⟨by kernel_rfl⟩
attribute [instance] ty.i27
theorem ty.s27 : Sz Try.prog 27 11 := ⟨_, ty.i27.eq, rfl⟩
attribute [instance] ty.s27
@[reducible] def ty.u27 := @Ut.mk Try.prog 27 _ Try.underlying27
attribute [instance] ty.u27
theorem ty.a27 : AggT Try.prog 27 11 := AggT.of Try.underlying27 rfl ty.i27.eq rfl
attribute [instance] ty.a27
theorem ty.i28 : Inf Try.prog 28 Try.t28 := ⟨by kernel_rfl⟩
attribute [instance] ty.i28
theorem ty.s28 : Sz Try.prog 28 1 := ⟨_, ty.i28.eq, rfl⟩
attribute [instance] ty.s28
@[reducible] def ty.u28 := @Ut.mk Try.prog 28 _ Try.underlying28
attribute [instance] ty.u28
theorem ty.c28 : CelT Try.prog 28 := CelT.of Try.underlying28 rfl
attribute [instance] ty.c28
theorem ty.i29 : Inf Try.prog 29 Try.t29 := ⟨by kernel_rfl⟩
attribute [instance] ty.i29
theorem ty.s29 : Sz Try.prog 29 1 := ⟨_, ty.i29.eq, rfl⟩
attribute [instance] ty.s29
@[reducible] def ty.u29 := @Ut.mk Try.prog 29 _ Try.underlying29
attribute [instance] ty.u29
theorem ty.c29 : CelT Try.prog 29 := CelT.of Try.underlying29 rfl
attribute [instance] ty.c29
theorem ty.i30 : Inf Try.prog 30 Try.t30 := ⟨by kernel_rfl⟩
attribute [instance] ty.i30
theorem ty.s30 : Sz Try.prog 30 1 := ⟨_, ty.i30.eq, rfl⟩
attribute [instance] ty.s30
@[reducible] def ty.u30 := @Ut.mk Try.prog 30 _ Try.underlying30
attribute [instance] ty.u30
theorem ty.c30 : CelT Try.prog 30 := CelT.of Try.underlying30 rfl
attribute [instance] ty.c30
theorem ty.i31 : Inf Try.prog 31 Try.t31 := ⟨by kernel_rfl⟩
attribute [instance] ty.i31
theorem ty.s31 : Sz Try.prog 31 1 := ⟨_, ty.i31.eq, rfl⟩
attribute [instance] ty.s31
@[reducible] def ty.u31 := @Ut.mk Try.prog 31 _ Try.underlying31
attribute [instance] ty.u31
theorem ty.c31 : CelT Try.prog 31 := CelT.of Try.underlying31 rfl
attribute [instance] ty.c31
theorem ty.i32 : Inf Try.prog 32 Try.t32 := ⟨by kernel_rfl⟩
attribute [instance] ty.i32
theorem ty.s32 : Sz Try.prog 32 1 := ⟨_, ty.i32.eq, rfl⟩
attribute [instance] ty.s32
@[reducible] def ty.u32 := @Ut.mk Try.prog 32 _ Try.underlying32
attribute [instance] ty.u32
theorem ty.c32 : CelT Try.prog 32 := CelT.of Try.underlying32 rfl
attribute [instance] ty.c32
theorem ty.i33 : Inf Try.prog 33 Try.t33 := ⟨by kernel_rfl⟩
attribute [instance] ty.i33
theorem ty.s33 : Sz Try.prog 33 1 := ⟨_, ty.i33.eq, rfl⟩
attribute [instance] ty.s33
@[reducible] def ty.u33 := @Ut.mk Try.prog 33 _ Try.underlying33
attribute [instance] ty.u33
theorem ty.c33 : CelT Try.prog 33 := CelT.of Try.underlying33 rfl
attribute [instance] ty.c33
theorem ty.i34 : Inf Try.prog 34 Try.t34 := ⟨by kernel_rfl⟩
attribute [instance] ty.i34
theorem ty.s34 : Sz Try.prog 34 21 := ⟨_, ty.i34.eq, rfl⟩
attribute [instance] ty.s34
@[reducible] def ty.u34 := @Ut.mk Try.prog 34 _ Try.underlying34
attribute [instance] ty.u34
theorem ty.a34 : AggT Try.prog 34 21 := AggT.of Try.underlying34 rfl ty.i34.eq rfl
attribute [instance] ty.a34
theorem ty.i35 : Inf Try.prog 35 Try.t35 := ⟨by kernel_rfl⟩
attribute [instance] ty.i35
theorem ty.s35 : Sz Try.prog 35 21 := ⟨_, ty.i35.eq, rfl⟩
attribute [instance] ty.s35
@[reducible] def ty.u35 := @Ut.mk Try.prog 35 _ Try.underlying35
attribute [instance] ty.u35
theorem ty.a35 : AggT Try.prog 35 21 := AggT.of Try.underlying35 rfl ty.i35.eq rfl
attribute [instance] ty.a35
theorem ty.i36 : Inf Try.prog 36 Try.t36 := ⟨by kernel_rfl⟩
attribute [instance] ty.i36
theorem ty.s36 : Sz Try.prog 36 1 := ⟨_, ty.i36.eq, rfl⟩
attribute [instance] ty.s36
@[reducible] def ty.u36 := @Ut.mk Try.prog 36 _ Try.underlying36
attribute [instance] ty.u36
theorem ty.c36 : CelT Try.prog 36 := CelT.of Try.underlying36 rfl
attribute [instance] ty.c36
theorem ty.i37 : Inf Try.prog 37 Try.t37 := ⟨by kernel_rfl⟩
attribute [instance] ty.i37
theorem ty.s37 : Sz Try.prog 37 1 := ⟨_, ty.i37.eq, rfl⟩
attribute [instance] ty.s37
@[reducible] def ty.u37 := @Ut.mk Try.prog 37 _ Try.underlying37
attribute [instance] ty.u37
theorem ty.c37 : CelT Try.prog 37 := CelT.of Try.underlying37 rfl
attribute [instance] ty.c37
theorem ty.i38 : Inf Try.prog 38 Try.t38 := ⟨by kernel_rfl⟩
attribute [instance] ty.i38
theorem ty.s38 : Sz Try.prog 38 11 := ⟨_, ty.i38.eq, rfl⟩
attribute [instance] ty.s38
@[reducible] def ty.u38 := @Ut.mk Try.prog 38 _ Try.underlying38
attribute [instance] ty.u38
theorem ty.a38 : AggT Try.prog 38 11 := AggT.of Try.underlying38 rfl ty.i38.eq rfl
attribute [instance] ty.a38
theorem ty.i39 : Inf Try.prog 39 Try.t39 := ⟨by kernel_rfl⟩
attribute [instance] ty.i39
theorem ty.s39 : Sz Try.prog 39 11 := ⟨_, ty.i39.eq, rfl⟩
attribute [instance] ty.s39
@[reducible] def ty.u39 := @Ut.mk Try.prog 39 _ Try.underlying39
attribute [instance] ty.u39
theorem ty.a39 : AggT Try.prog 39 11 := AggT.of Try.underlying39 rfl ty.i39.eq rfl
attribute [instance] ty.a39
theorem ty.i40 : Inf Try.prog 40 Try.t40 := ⟨by kernel_rfl⟩
attribute [instance] ty.i40
theorem ty.s40 : Sz Try.prog 40 1 := ⟨_, ty.i40.eq, rfl⟩
attribute [instance] ty.s40
@[reducible] def ty.u40 := @Ut.mk Try.prog 40 _ Try.underlying40
attribute [instance] ty.u40
theorem ty.c40 : CelT Try.prog 40 := CelT.of Try.underlying40 rfl
attribute [instance] ty.c40
theorem ty.i41 : Inf Try.prog 41 Try.t41 := ⟨by kernel_rfl⟩
attribute [instance] ty.i41
theorem ty.s41 : Sz Try.prog 41 1 := ⟨_, ty.i41.eq, rfl⟩
attribute [instance] ty.s41
@[reducible] def ty.u41 := @Ut.mk Try.prog 41 _ Try.underlying41
attribute [instance] ty.u41
theorem ty.c41 : CelT Try.prog 41 := CelT.of Try.underlying41 rfl
attribute [instance] ty.c41
theorem ty.i42 : Inf Try.prog 42 Try.t42 := ⟨by kernel_rfl⟩
attribute [instance] ty.i42
theorem ty.s42 : Sz Try.prog 42 1 := ⟨_, ty.i42.eq, rfl⟩
attribute [instance] ty.s42
@[reducible] def ty.u42 := @Ut.mk Try.prog 42 _ Try.underlying42
attribute [instance] ty.u42
theorem ty.c42 : CelT Try.prog 42 := CelT.of Try.underlying42 rfl
attribute [instance] ty.c42
theorem ty.i43 : Inf Try.prog 43 Try.t43 := ⟨by kernel_rfl⟩
attribute [instance] ty.i43
theorem ty.s43 : Sz Try.prog 43 1 := ⟨_, ty.i43.eq, rfl⟩
attribute [instance] ty.s43
@[reducible] def ty.u43 := @Ut.mk Try.prog 43 _ Try.underlying43
attribute [instance] ty.u43
theorem ty.c43 : CelT Try.prog 43 := CelT.of Try.underlying43 rfl
attribute [instance] ty.c43
theorem ty.i44 : Inf Try.prog 44 Try.t44 := ⟨by kernel_rfl⟩
attribute [instance] ty.i44
theorem ty.s44 : Sz Try.prog 44 1 := ⟨_, ty.i44.eq, rfl⟩
attribute [instance] ty.s44
@[reducible] def ty.u44 := @Ut.mk Try.prog 44 _ Try.underlying44
attribute [instance] ty.u44
theorem ty.c44 : CelT Try.prog 44 := CelT.of Try.underlying44 rfl
attribute [instance] ty.c44
theorem ty.i45 : Inf Try.prog 45 Try.t45 := ⟨by kernel_rfl⟩
attribute [instance] ty.i45
theorem ty.s45 : Sz Try.prog 45 1 := ⟨_, ty.i45.eq, rfl⟩
attribute [instance] ty.s45
@[reducible] def ty.u45 := @Ut.mk Try.prog 45 _ Try.underlying45
attribute [instance] ty.u45
theorem ty.c45 : CelT Try.prog 45 := CelT.of Try.underlying45 rfl
attribute [instance] ty.c45
theorem ty.i46 : Inf Try.prog 46 Try.t46 := ⟨by kernel_rfl⟩
attribute [instance] ty.i46
theorem ty.s46 : Sz Try.prog 46 21 := ⟨_, ty.i46.eq, rfl⟩
attribute [instance] ty.s46
@[reducible] def ty.u46 := @Ut.mk Try.prog 46 _ Try.underlying46
attribute [instance] ty.u46
theorem ty.a46 : AggT Try.prog 46 21 := AggT.of Try.underlying46 rfl ty.i46.eq rfl
attribute [instance] ty.a46
theorem ty.i47 : Inf Try.prog 47 Try.t47 := ⟨by kernel_rfl⟩
attribute [instance] ty.i47
theorem ty.s47 : Sz Try.prog 47 21 := ⟨_, ty.i47.eq, rfl⟩
attribute [instance] ty.s47
@[reducible] def ty.u47 := @Ut.mk Try.prog 47 _ Try.underlying47
attribute [instance] ty.u47
theorem ty.a47 : AggT Try.prog 47 21 := AggT.of Try.underlying47 rfl ty.i47.eq rfl
attribute [instance] ty.a47
theorem ty.i48 : Inf Try.prog 48 Try.t48 := ⟨by kernel_rfl⟩
attribute [instance] ty.i48
theorem ty.s48 : Sz Try.prog 48 1 := ⟨_, ty.i48.eq, rfl⟩
attribute [instance] ty.s48
@[reducible] def ty.u48 := @Ut.mk Try.prog 48 _ Try.underlying48
attribute [instance] ty.u48
theorem ty.c48 : CelT Try.prog 48 := CelT.of Try.underlying48 rfl
attribute [instance] ty.c48
theorem ty.i49 : Inf Try.prog 49 Try.t49 := ⟨by kernel_rfl⟩
attribute [instance] ty.i49
theorem ty.s49 : Sz Try.prog 49 1 := ⟨_, ty.i49.eq, rfl⟩
attribute [instance] ty.s49
@[reducible] def ty.u49 := @Ut.mk Try.prog 49 _ Try.underlying49
attribute [instance] ty.u49
theorem ty.c49 : CelT Try.prog 49 := CelT.of Try.underlying49 rfl
attribute [instance] ty.c49
theorem ty.i50 : Inf Try.prog 50 Try.t50 := ⟨by kernel_rfl⟩
attribute [instance] ty.i50
theorem ty.s50 : Sz Try.prog 50 1 := ⟨_, ty.i50.eq, rfl⟩
attribute [instance] ty.s50
@[reducible] def ty.u50 := @Ut.mk Try.prog 50 _ Try.underlying50
attribute [instance] ty.u50
theorem ty.c50 : CelT Try.prog 50 := CelT.of Try.underlying50 rfl
attribute [instance] ty.c50
theorem ty.i51 : Inf Try.prog 51 Try.t51 := ⟨by kernel_rfl⟩
attribute [instance] ty.i51
theorem ty.s51 : Sz Try.prog 51 1 := ⟨_, ty.i51.eq, rfl⟩
attribute [instance] ty.s51
@[reducible] def ty.u51 := @Ut.mk Try.prog 51 _ Try.underlying51
attribute [instance] ty.u51
theorem ty.c51 : CelT Try.prog 51 := CelT.of Try.underlying51 rfl
attribute [instance] ty.c51
theorem ty.i52 : Inf Try.prog 52 Try.t52 := ⟨by kernel_rfl⟩
attribute [instance] ty.i52
theorem ty.s52 : Sz Try.prog 52 1 := ⟨_, ty.i52.eq, rfl⟩
attribute [instance] ty.s52
@[reducible] def ty.u52 := @Ut.mk Try.prog 52 _ Try.underlying52
attribute [instance] ty.u52
theorem ty.c52 : CelT Try.prog 52 := CelT.of Try.underlying52 rfl
attribute [instance] ty.c52
theorem ty.i53 : Inf Try.prog 53 Try.t53 := ⟨by kernel_rfl⟩
attribute [instance] ty.i53
theorem ty.s53 : Sz Try.prog 53 1 := ⟨_, ty.i53.eq, rfl⟩
attribute [instance] ty.s53
@[reducible] def ty.u53 := @Ut.mk Try.prog 53 _ Try.underlying53
attribute [instance] ty.u53
theorem ty.c53 : CelT Try.prog 53 := CelT.of Try.underlying53 rfl
attribute [instance] ty.c53
theorem ty.i54 : Inf Try.prog 54 Try.t54 := ⟨by kernel_rfl⟩
attribute [instance] ty.i54
theorem ty.s54 : Sz Try.prog 54 1 := ⟨_, ty.i54.eq, rfl⟩
attribute [instance] ty.s54
@[reducible] def ty.u54 := @Ut.mk Try.prog 54 _ Try.underlying54
attribute [instance] ty.u54
theorem ty.c54 : CelT Try.prog 54 := CelT.of Try.underlying54 rfl
attribute [instance] ty.c54
theorem ty.i55 : Inf Try.prog 55 Try.t55 := ⟨by kernel_rfl⟩
attribute [instance] ty.i55
theorem ty.s55 : Sz Try.prog 55 1 := ⟨_, ty.i55.eq, rfl⟩
attribute [instance] ty.s55
@[reducible] def ty.u55 := @Ut.mk Try.prog 55 _ Try.underlying55
attribute [instance] ty.u55
theorem ty.c55 : CelT Try.prog 55 := CelT.of Try.underlying55 rfl
attribute [instance] ty.c55
theorem ty.i56 : Inf Try.prog 56 Try.t56 := ⟨by kernel_rfl⟩
attribute [instance] ty.i56
theorem ty.s56 : Sz Try.prog 56 1 := ⟨_, ty.i56.eq, rfl⟩
attribute [instance] ty.s56
@[reducible] def ty.u56 := @Ut.mk Try.prog 56 _ Try.underlying56
attribute [instance] ty.u56
theorem ty.c56 : CelT Try.prog 56 := CelT.of Try.underlying56 rfl
attribute [instance] ty.c56
theorem ty.i57 : Inf Try.prog 57 Try.t57 := ⟨by kernel_rfl⟩
attribute [instance] ty.i57
theorem ty.s57 : Sz Try.prog 57 1 := ⟨_, ty.i57.eq, rfl⟩
attribute [instance] ty.s57
@[reducible] def ty.u57 := @Ut.mk Try.prog 57 _ Try.underlying57
attribute [instance] ty.u57
theorem ty.c57 : CelT Try.prog 57 := CelT.of Try.underlying57 rfl
attribute [instance] ty.c57
theorem ty.i58 : Inf Try.prog 58 Try.t58 := ⟨by kernel_rfl⟩
attribute [instance] ty.i58
theorem ty.s58 : Sz Try.prog 58 1 := ⟨_, ty.i58.eq, rfl⟩
attribute [instance] ty.s58
@[reducible] def ty.u58 := @Ut.mk Try.prog 58 _ Try.underlying58
attribute [instance] ty.u58
theorem ty.c58 : CelT Try.prog 58 := CelT.of Try.underlying58 rfl
attribute [instance] ty.c58
theorem ty.i59 : Inf Try.prog 59 Try.t59 := ⟨by kernel_rfl⟩
attribute [instance] ty.i59
theorem ty.s59 : Sz Try.prog 59 1 := ⟨_, ty.i59.eq, rfl⟩
attribute [instance] ty.s59
@[reducible] def ty.u59 := @Ut.mk Try.prog 59 _ Try.underlying59
attribute [instance] ty.u59
theorem ty.c59 : CelT Try.prog 59 := CelT.of Try.underlying59 rfl
attribute [instance] ty.c59
theorem ty.i60 : Inf Try.prog 60 Try.t60 := ⟨by kernel_rfl⟩
attribute [instance] ty.i60
theorem ty.s60 : Sz Try.prog 60 1 := ⟨_, ty.i60.eq, rfl⟩
attribute [instance] ty.s60
@[reducible] def ty.u60 := @Ut.mk Try.prog 60 _ Try.underlying60
attribute [instance] ty.u60
theorem ty.c60 : CelT Try.prog 60 := CelT.of Try.underlying60 rfl
attribute [instance] ty.c60
theorem ty.i61 : Inf Try.prog 61 Try.t61 := ⟨by kernel_rfl⟩
attribute [instance] ty.i61
theorem ty.s61 : Sz Try.prog 61 1 := ⟨_, ty.i61.eq, rfl⟩
attribute [instance] ty.s61
@[reducible] def ty.u61 := @Ut.mk Try.prog 61 _ Try.underlying61
attribute [instance] ty.u61
theorem ty.c61 : CelT Try.prog 61 := CelT.of Try.underlying61 rfl
attribute [instance] ty.c61
theorem ty.i62 : Inf Try.prog 62 Try.t62 := ⟨by kernel_rfl⟩
attribute [instance] ty.i62
theorem ty.s62 : Sz Try.prog 62 1 := ⟨_, ty.i62.eq, rfl⟩
attribute [instance] ty.s62
@[reducible] def ty.u62 := @Ut.mk Try.prog 62 _ Try.underlying62
attribute [instance] ty.u62
theorem ty.c62 : CelT Try.prog 62 := CelT.of Try.underlying62 rfl
attribute [instance] ty.c62
theorem ty.i63 : Inf Try.prog 63 Try.t63 := ⟨by kernel_rfl⟩
attribute [instance] ty.i63
theorem ty.s63 : Sz Try.prog 63 1 := ⟨_, ty.i63.eq, rfl⟩
attribute [instance] ty.s63
@[reducible] def ty.u63 := @Ut.mk Try.prog 63 _ Try.underlying63
attribute [instance] ty.u63
theorem ty.c63 : CelT Try.prog 63 := CelT.of Try.underlying63 rfl
attribute [instance] ty.c63
theorem ty.i64 : Inf Try.prog 64 Try.t64 := ⟨by kernel_rfl⟩
attribute [instance] ty.i64
theorem ty.s64 : Sz Try.prog 64 1 := ⟨_, ty.i64.eq, rfl⟩
attribute [instance] ty.s64
@[reducible] def ty.u64 := @Ut.mk Try.prog 64 _ Try.underlying64
attribute [instance] ty.u64
theorem ty.c64 : CelT Try.prog 64 := CelT.of Try.underlying64 rfl
attribute [instance] ty.c64
theorem ty.i65 : Inf Try.prog 65 Try.t65 := ⟨by kernel_rfl⟩
attribute [instance] ty.i65
theorem ty.s65 : Sz Try.prog 65 1 := ⟨_, ty.i65.eq, rfl⟩
attribute [instance] ty.s65
@[reducible] def ty.u65 := @Ut.mk Try.prog 65 _ Try.underlying65
attribute [instance] ty.u65
theorem ty.c65 : CelT Try.prog 65 := CelT.of Try.underlying65 rfl
attribute [instance] ty.c65
theorem ty.i66 : Inf Try.prog 66 Try.t66 := ⟨by kernel_rfl⟩
attribute [instance] ty.i66
theorem ty.s66 : Sz Try.prog 66 1 := ⟨_, ty.i66.eq, rfl⟩
attribute [instance] ty.s66
@[reducible] def ty.u66 := @Ut.mk Try.prog 66 _ Try.underlying66
attribute [instance] ty.u66
theorem ty.c66 : CelT Try.prog 66 := CelT.of Try.underlying66 rfl
attribute [instance] ty.c66
theorem ty.i67 : Inf Try.prog 67 Try.t67 := ⟨by kernel_rfl⟩
attribute [instance] ty.i67
theorem ty.s67 : Sz Try.prog 67 1 := ⟨_, ty.i67.eq, rfl⟩
attribute [instance] ty.s67
@[reducible] def ty.u67 := @Ut.mk Try.prog 67 _ Try.underlying67
attribute [instance] ty.u67
theorem ty.c67 : CelT Try.prog 67 := CelT.of Try.underlying67 rfl
attribute [instance] ty.c67
theorem ty.i68 : Inf Try.prog 68 Try.t68 := ⟨by kernel_rfl⟩
attribute [instance] ty.i68
theorem ty.s68 : Sz Try.prog 68 1 := ⟨_, ty.i68.eq, rfl⟩
attribute [instance] ty.s68
@[reducible] def ty.u68 := @Ut.mk Try.prog 68 _ Try.underlying68
attribute [instance] ty.u68
theorem ty.c68 : CelT Try.prog 68 := CelT.of Try.underlying68 rfl
attribute [instance] ty.c68
theorem ty.i69 : Inf Try.prog 69 Try.t69 := ⟨by kernel_rfl⟩
attribute [instance] ty.i69
theorem ty.s69 : Sz Try.prog 69 1 := ⟨_, ty.i69.eq, rfl⟩
attribute [instance] ty.s69
@[reducible] def ty.u69 := @Ut.mk Try.prog 69 _ Try.underlying69
attribute [instance] ty.u69
theorem ty.c69 : CelT Try.prog 69 := CelT.of Try.underlying69 rfl
attribute [instance] ty.c69
theorem ty.i70 : Inf Try.prog 70 Try.t70 := ⟨by kernel_rfl⟩
attribute [instance] ty.i70
theorem ty.s70 : Sz Try.prog 70 1 := ⟨_, ty.i70.eq, rfl⟩
attribute [instance] ty.s70
@[reducible] def ty.u70 := @Ut.mk Try.prog 70 _ Try.underlying70
attribute [instance] ty.u70
theorem ty.c70 : CelT Try.prog 70 := CelT.of Try.underlying70 rfl
attribute [instance] ty.c70
theorem ty.i71 : Inf Try.prog 71 Try.t71 := ⟨by kernel_rfl⟩
attribute [instance] ty.i71
theorem ty.s71 : Sz Try.prog 71 1 := ⟨_, ty.i71.eq, rfl⟩
attribute [instance] ty.s71
@[reducible] def ty.u71 := @Ut.mk Try.prog 71 _ Try.underlying71
attribute [instance] ty.u71
theorem ty.c71 : CelT Try.prog 71 := CelT.of Try.underlying71 rfl
attribute [instance] ty.c71
theorem ty.i72 : Inf Try.prog 72 Try.t72 := ⟨by kernel_rfl⟩
attribute [instance] ty.i72
theorem ty.s72 : Sz Try.prog 72 1 := ⟨_, ty.i72.eq, rfl⟩
attribute [instance] ty.s72
@[reducible] def ty.u72 := @Ut.mk Try.prog 72 _ Try.underlying72
attribute [instance] ty.u72
theorem ty.c72 : CelT Try.prog 72 := CelT.of Try.underlying72 rfl
attribute [instance] ty.c72
theorem ty.i73 : Inf Try.prog 73 Try.t73 := ⟨by kernel_rfl⟩
attribute [instance] ty.i73
theorem ty.s73 : Sz Try.prog 73 1 := ⟨_, ty.i73.eq, rfl⟩
attribute [instance] ty.s73
@[reducible] def ty.u73 := @Ut.mk Try.prog 73 _ Try.underlying73
attribute [instance] ty.u73
theorem ty.c73 : CelT Try.prog 73 := CelT.of Try.underlying73 rfl
attribute [instance] ty.c73
theorem ty.i74 : Inf Try.prog 74 Try.t74 := ⟨by kernel_rfl⟩
attribute [instance] ty.i74
theorem ty.s74 : Sz Try.prog 74 1 := ⟨_, ty.i74.eq, rfl⟩
attribute [instance] ty.s74
@[reducible] def ty.u74 := @Ut.mk Try.prog 74 _ Try.underlying74
attribute [instance] ty.u74
theorem ty.c74 : CelT Try.prog 74 := CelT.of Try.underlying74 rfl
attribute [instance] ty.c74
theorem ty.i75 : Inf Try.prog 75 Try.t75 := ⟨by kernel_rfl⟩
attribute [instance] ty.i75
theorem ty.s75 : Sz Try.prog 75 1 := ⟨_, ty.i75.eq, rfl⟩
attribute [instance] ty.s75
@[reducible] def ty.u75 := @Ut.mk Try.prog 75 _ Try.underlying75
attribute [instance] ty.u75
theorem ty.c75 : CelT Try.prog 75 := CelT.of Try.underlying75 rfl
attribute [instance] ty.c75
theorem ty.i76 : Inf Try.prog 76 Try.t76 := ⟨by kernel_rfl⟩
attribute [instance] ty.i76
theorem ty.s76 : Sz Try.prog 76 1 := ⟨_, ty.i76.eq, rfl⟩
attribute [instance] ty.s76
@[reducible] def ty.u76 := @Ut.mk Try.prog 76 _ Try.underlying76
attribute [instance] ty.u76
theorem ty.c76 : CelT Try.prog 76 := CelT.of Try.underlying76 rfl
attribute [instance] ty.c76
theorem ty.i77 : Inf Try.prog 77 Try.t77 := ⟨by kernel_rfl⟩
attribute [instance] ty.i77
theorem ty.s77 : Sz Try.prog 77 1 := ⟨_, ty.i77.eq, rfl⟩
attribute [instance] ty.s77
@[reducible] def ty.u77 := @Ut.mk Try.prog 77 _ Try.underlying77
attribute [instance] ty.u77
theorem ty.c77 : CelT Try.prog 77 := CelT.of Try.underlying77 rfl
attribute [instance] ty.c77
theorem ty.i78 : Inf Try.prog 78 Try.t78 := ⟨by kernel_rfl⟩
attribute [instance] ty.i78
theorem ty.s78 : Sz Try.prog 78 1 := ⟨_, ty.i78.eq, rfl⟩
attribute [instance] ty.s78
@[reducible] def ty.u78 := @Ut.mk Try.prog 78 _ Try.underlying78
attribute [instance] ty.u78
theorem ty.c78 : CelT Try.prog 78 := CelT.of Try.underlying78 rfl
attribute [instance] ty.c78
theorem ty.i79 : Inf Try.prog 79 Try.t79 := ⟨by kernel_rfl⟩
attribute [instance] ty.i79
theorem ty.s79 : Sz Try.prog 79 1 := ⟨_, ty.i79.eq, rfl⟩
attribute [instance] ty.s79
@[reducible] def ty.u79 := @Ut.mk Try.prog 79 _ Try.underlying79
attribute [instance] ty.u79
theorem ty.c79 : CelT Try.prog 79 := CelT.of Try.underlying79 rfl
attribute [instance] ty.c79
theorem ty.i80 : Inf Try.prog 80 Try.t80 := ⟨by kernel_rfl⟩
attribute [instance] ty.i80
theorem ty.s80 : Sz Try.prog 80 1 := ⟨_, ty.i80.eq, rfl⟩
attribute [instance] ty.s80
@[reducible] def ty.u80 := @Ut.mk Try.prog 80 _ Try.underlying80
attribute [instance] ty.u80
theorem ty.c80 : CelT Try.prog 80 := CelT.of Try.underlying80 rfl
attribute [instance] ty.c80
theorem ty.i81 : Inf Try.prog 81 Try.t81 := ⟨by kernel_rfl⟩
attribute [instance] ty.i81
theorem ty.s81 : Sz Try.prog 81 1 := ⟨_, ty.i81.eq, rfl⟩
attribute [instance] ty.s81
@[reducible] def ty.u81 := @Ut.mk Try.prog 81 _ Try.underlying81
attribute [instance] ty.u81
theorem ty.c81 : CelT Try.prog 81 := CelT.of Try.underlying81 rfl
attribute [instance] ty.c81
theorem ty.i82 : Inf Try.prog 82 Try.t82 := ⟨by kernel_rfl⟩
attribute [instance] ty.i82
theorem ty.s82 : Sz Try.prog 82 1 := ⟨_, ty.i82.eq, rfl⟩
attribute [instance] ty.s82
@[reducible] def ty.u82 := @Ut.mk Try.prog 82 _ Try.underlying82
attribute [instance] ty.u82
theorem ty.c82 : CelT Try.prog 82 := CelT.of Try.underlying82 rfl
attribute [instance] ty.c82
theorem ty.i83 : Inf Try.prog 83 Try.t83 := ⟨by kernel_rfl⟩
attribute [instance] ty.i83
theorem ty.s83 : Sz Try.prog 83 1 := ⟨_, ty.i83.eq, rfl⟩
attribute [instance] ty.s83
@[reducible] def ty.u83 := @Ut.mk Try.prog 83 _ Try.underlying83
attribute [instance] ty.u83
theorem ty.c83 : CelT Try.prog 83 := CelT.of Try.underlying83 rfl
attribute [instance] ty.c83
theorem ty.i84 : Inf Try.prog 84 Try.t84 := ⟨by kernel_rfl⟩
attribute [instance] ty.i84
theorem ty.s84 : Sz Try.prog 84 1 := ⟨_, ty.i84.eq, rfl⟩
attribute [instance] ty.s84
@[reducible] def ty.u84 := @Ut.mk Try.prog 84 _ Try.underlying84
attribute [instance] ty.u84
theorem ty.c84 : CelT Try.prog 84 := CelT.of Try.underlying84 rfl
attribute [instance] ty.c84
theorem ty.i85 : Inf Try.prog 85 Try.t85 := ⟨by kernel_rfl⟩
attribute [instance] ty.i85
theorem ty.s85 : Sz Try.prog 85 1 := ⟨_, ty.i85.eq, rfl⟩
attribute [instance] ty.s85
@[reducible] def ty.u85 := @Ut.mk Try.prog 85 _ Try.underlying85
attribute [instance] ty.u85
theorem ty.c85 : CelT Try.prog 85 := CelT.of Try.underlying85 rfl
attribute [instance] ty.c85
theorem ty.i86 : Inf Try.prog 86 Try.t86 := ⟨by kernel_rfl⟩
attribute [instance] ty.i86
theorem ty.s86 : Sz Try.prog 86 1 := ⟨_, ty.i86.eq, rfl⟩
attribute [instance] ty.s86
@[reducible] def ty.u86 := @Ut.mk Try.prog 86 _ Try.underlying86
attribute [instance] ty.u86
theorem ty.c86 : CelT Try.prog 86 := CelT.of Try.underlying86 rfl
attribute [instance] ty.c86
theorem ty.i87 : Inf Try.prog 87 Try.t87 := ⟨by kernel_rfl⟩
attribute [instance] ty.i87
theorem ty.s87 : Sz Try.prog 87 1 := ⟨_, ty.i87.eq, rfl⟩
attribute [instance] ty.s87
@[reducible] def ty.u87 := @Ut.mk Try.prog 87 _ Try.underlying87
attribute [instance] ty.u87
theorem ty.c87 : CelT Try.prog 87 := CelT.of Try.underlying87 rfl
attribute [instance] ty.c87
theorem ty.i88 : Inf Try.prog 88 Try.t88 := ⟨by kernel_rfl⟩
attribute [instance] ty.i88
theorem ty.s88 : Sz Try.prog 88 1 := ⟨_, ty.i88.eq, rfl⟩
attribute [instance] ty.s88
@[reducible] def ty.u88 := @Ut.mk Try.prog 88 _ Try.underlying88
attribute [instance] ty.u88
theorem ty.c88 : CelT Try.prog 88 := CelT.of Try.underlying88 rfl
attribute [instance] ty.c88
theorem ty.i89 : Inf Try.prog 89 Try.t89 := ⟨by kernel_rfl⟩
attribute [instance] ty.i89
theorem ty.s89 : Sz Try.prog 89 1 := ⟨_, ty.i89.eq, rfl⟩
attribute [instance] ty.s89
@[reducible] def ty.u89 := @Ut.mk Try.prog 89 _ Try.underlying89
attribute [instance] ty.u89
theorem ty.c89 : CelT Try.prog 89 := CelT.of Try.underlying89 rfl
attribute [instance] ty.c89
theorem ty.i90 : Inf Try.prog 90 Try.t90 := ⟨by kernel_rfl⟩
attribute [instance] ty.i90
theorem ty.s90 : Sz Try.prog 90 1 := ⟨_, ty.i90.eq, rfl⟩
attribute [instance] ty.s90
@[reducible] def ty.u90 := @Ut.mk Try.prog 90 _ Try.underlying90
attribute [instance] ty.u90
theorem ty.c90 : CelT Try.prog 90 := CelT.of Try.underlying90 rfl
attribute [instance] ty.c90
theorem ty.i91 : Inf Try.prog 91 Try.t91 := ⟨by kernel_rfl⟩
attribute [instance] ty.i91
theorem ty.s91 : Sz Try.prog 91 1 := ⟨_, ty.i91.eq, rfl⟩
attribute [instance] ty.s91
@[reducible] def ty.u91 := @Ut.mk Try.prog 91 _ Try.underlying91
attribute [instance] ty.u91
theorem ty.c91 : CelT Try.prog 91 := CelT.of Try.underlying91 rfl
attribute [instance] ty.c91
theorem ty.i92 : Inf Try.prog 92 Try.t92 := ⟨by kernel_rfl⟩
attribute [instance] ty.i92
theorem ty.s92 : Sz Try.prog 92 1 := ⟨_, ty.i92.eq, rfl⟩
attribute [instance] ty.s92
@[reducible] def ty.u92 := @Ut.mk Try.prog 92 _ Try.underlying92
attribute [instance] ty.u92
theorem ty.c92 : CelT Try.prog 92 := CelT.of Try.underlying92 rfl
attribute [instance] ty.c92
theorem ty.i93 : Inf Try.prog 93 Try.t93 := ⟨by kernel_rfl⟩
attribute [instance] ty.i93
theorem ty.s93 : Sz Try.prog 93 1 := ⟨_, ty.i93.eq, rfl⟩
attribute [instance] ty.s93
@[reducible] def ty.u93 := @Ut.mk Try.prog 93 _ Try.underlying93
attribute [instance] ty.u93
theorem ty.c93 : CelT Try.prog 93 := CelT.of Try.underlying93 rfl
attribute [instance] ty.c93
theorem ty.i94 : Inf Try.prog 94 Try.t94 := ⟨by kernel_rfl⟩
attribute [instance] ty.i94
theorem ty.s94 : Sz Try.prog 94 2 := ⟨_, ty.i94.eq, rfl⟩
attribute [instance] ty.s94
@[reducible] def ty.u94 := @Ut.mk Try.prog 94 _ Try.underlying94
attribute [instance] ty.u94
theorem ty.a94 : AggT Try.prog 94 2 := AggT.of Try.underlying94 rfl ty.i94.eq rfl
attribute [instance] ty.a94
theorem ty.i95 : Inf Try.prog 95 Try.t95 := ⟨by kernel_rfl⟩
attribute [instance] ty.i95
theorem ty.s95 : Sz Try.prog 95 2 := ⟨_, ty.i95.eq, rfl⟩
attribute [instance] ty.s95
@[reducible] def ty.u95 := @Ut.mk Try.prog 95 _ Try.underlying95
attribute [instance] ty.u95
theorem ty.a95 : AggT Try.prog 95 2 := AggT.of Try.underlying95 rfl ty.i95.eq rfl
attribute [instance] ty.a95
theorem ty.i96 : Inf Try.prog 96 Try.t96 := ⟨by kernel_rfl⟩
attribute [instance] ty.i96
theorem ty.s96 : Sz Try.prog 96 1 := ⟨_, ty.i96.eq, rfl⟩
attribute [instance] ty.s96
@[reducible] def ty.u96 := @Ut.mk Try.prog 96 _ Try.underlying96
attribute [instance] ty.u96
theorem ty.c96 : CelT Try.prog 96 := CelT.of Try.underlying96 rfl
attribute [instance] ty.c96
theorem ty.i97 : Inf Try.prog 97 Try.t97 := ⟨by kernel_rfl⟩
attribute [instance] ty.i97
theorem ty.s97 : Sz Try.prog 97 1 := ⟨_, ty.i97.eq, rfl⟩
attribute [instance] ty.s97
@[reducible] def ty.u97 := @Ut.mk Try.prog 97 _ Try.underlying97
attribute [instance] ty.u97
theorem ty.c97 : CelT Try.prog 97 := CelT.of Try.underlying97 rfl
attribute [instance] ty.c97
theorem ty.i98 : Inf Try.prog 98 Try.t98 := ⟨by kernel_rfl⟩
attribute [instance] ty.i98
theorem ty.s98 : Sz Try.prog 98 1 := ⟨_, ty.i98.eq, rfl⟩
attribute [instance] ty.s98
@[reducible] def ty.u98 := @Ut.mk Try.prog 98 _ Try.underlying98
attribute [instance] ty.u98
theorem ty.c98 : CelT Try.prog 98 := CelT.of Try.underlying98 rfl
attribute [instance] ty.c98
theorem ty.i99 : Inf Try.prog 99 Try.t99 := ⟨by kernel_rfl⟩
attribute [instance] ty.i99
theorem ty.s99 : Sz Try.prog 99 1 := ⟨_, ty.i99.eq, rfl⟩
attribute [instance] ty.s99
@[reducible] def ty.u99 := @Ut.mk Try.prog 99 _ Try.underlying99
attribute [instance] ty.u99
theorem ty.c99 : CelT Try.prog 99 := CelT.of Try.underlying99 rfl
attribute [instance] ty.c99
theorem ty.i100 : Inf Try.prog 100 Try.t100 := ⟨by kernel_rfl⟩
attribute [instance] ty.i100
theorem ty.s100 : Sz Try.prog 100 1 := ⟨_, ty.i100.eq, rfl⟩
attribute [instance] ty.s100
@[reducible] def ty.u100 := @Ut.mk Try.prog 100 _ Try.underlying100
attribute [instance] ty.u100
theorem ty.c100 : CelT Try.prog 100 := CelT.of Try.underlying100 rfl
attribute [instance] ty.c100
theorem ty.i101 : Inf Try.prog 101 Try.t101 := ⟨by kernel_rfl⟩
attribute [instance] ty.i101
theorem ty.s101 : Sz Try.prog 101 1 := ⟨_, ty.i101.eq, rfl⟩
attribute [instance] ty.s101
@[reducible] def ty.u101 := @Ut.mk Try.prog 101 _ Try.underlying101
attribute [instance] ty.u101
theorem ty.c101 : CelT Try.prog 101 := CelT.of Try.underlying101 rfl
attribute [instance] ty.c101
theorem ty.i102 : Inf Try.prog 102 Try.t102 := ⟨by kernel_rfl⟩
attribute [instance] ty.i102
theorem ty.s102 : Sz Try.prog 102 1 := ⟨_, ty.i102.eq, rfl⟩
attribute [instance] ty.s102
@[reducible] def ty.u102 := @Ut.mk Try.prog 102 _ Try.underlying102
attribute [instance] ty.u102
theorem ty.c102 : CelT Try.prog 102 := CelT.of Try.underlying102 rfl
attribute [instance] ty.c102
theorem ty.i103 : Inf Try.prog 103 Try.t103 := ⟨by kernel_rfl⟩
attribute [instance] ty.i103
theorem ty.s103 : Sz Try.prog 103 1 := ⟨_, ty.i103.eq, rfl⟩
attribute [instance] ty.s103
@[reducible] def ty.u103 := @Ut.mk Try.prog 103 _ Try.underlying103
attribute [instance] ty.u103
theorem ty.c103 : CelT Try.prog 103 := CelT.of Try.underlying103 rfl
attribute [instance] ty.c103
theorem ty.i104 : Inf Try.prog 104 Try.t104 := ⟨by kernel_rfl⟩
attribute [instance] ty.i104
theorem ty.s104 : Sz Try.prog 104 1 := ⟨_, ty.i104.eq, rfl⟩
attribute [instance] ty.s104
@[reducible] def ty.u104 := @Ut.mk Try.prog 104 _ Try.underlying104
attribute [instance] ty.u104
theorem ty.c104 : CelT Try.prog 104 := CelT.of Try.underlying104 rfl
attribute [instance] ty.c104
theorem ty.i105 : Inf Try.prog 105 Try.t105 := ⟨by kernel_rfl⟩
attribute [instance] ty.i105
theorem ty.s105 : Sz Try.prog 105 1 := ⟨_, ty.i105.eq, rfl⟩
attribute [instance] ty.s105
@[reducible] def ty.u105 := @Ut.mk Try.prog 105 _ Try.underlying105
attribute [instance] ty.u105
theorem ty.c105 : CelT Try.prog 105 := CelT.of Try.underlying105 rfl
attribute [instance] ty.c105
theorem ty.i106 : Inf Try.prog 106 Try.t106 := ⟨by kernel_rfl⟩
attribute [instance] ty.i106
theorem ty.s106 : Sz Try.prog 106 1 := ⟨_, ty.i106.eq, rfl⟩
attribute [instance] ty.s106
@[reducible] def ty.u106 := @Ut.mk Try.prog 106 _ Try.underlying106
attribute [instance] ty.u106
theorem ty.c106 : CelT Try.prog 106 := CelT.of Try.underlying106 rfl
attribute [instance] ty.c106
theorem ty.i107 : Inf Try.prog 107 Try.t107 := ⟨by kernel_rfl⟩
attribute [instance] ty.i107
theorem ty.s107 : Sz Try.prog 107 1 := ⟨_, ty.i107.eq, rfl⟩
attribute [instance] ty.s107
@[reducible] def ty.u107 := @Ut.mk Try.prog 107 _ Try.underlying107
attribute [instance] ty.u107
theorem ty.c107 : CelT Try.prog 107 := CelT.of Try.underlying107 rfl
attribute [instance] ty.c107
theorem ty.i108 : Inf Try.prog 108 Try.t108 := ⟨by kernel_rfl⟩
attribute [instance] ty.i108
theorem ty.s108 : Sz Try.prog 108 1 := ⟨_, ty.i108.eq, rfl⟩
attribute [instance] ty.s108
@[reducible] def ty.u108 := @Ut.mk Try.prog 108 _ Try.underlying108
attribute [instance] ty.u108
theorem ty.c108 : CelT Try.prog 108 := CelT.of Try.underlying108 rfl
attribute [instance] ty.c108
theorem ty.i109 : Inf Try.prog 109 Try.t109 := ⟨by kernel_rfl⟩
attribute [instance] ty.i109
theorem ty.s109 : Sz Try.prog 109 1 := ⟨_, ty.i109.eq, rfl⟩
attribute [instance] ty.s109
@[reducible] def ty.u109 := @Ut.mk Try.prog 109 _ Try.underlying109
attribute [instance] ty.u109
theorem ty.c109 : CelT Try.prog 109 := CelT.of Try.underlying109 rfl
attribute [instance] ty.c109
theorem ty.i110 : Inf Try.prog 110 Try.t110 := ⟨by kernel_rfl⟩
attribute [instance] ty.i110
theorem ty.s110 : Sz Try.prog 110 4 := ⟨_, ty.i110.eq, rfl⟩
attribute [instance] ty.s110
@[reducible] def ty.u110 := @Ut.mk Try.prog 110 _ Try.underlying110
attribute [instance] ty.u110
theorem ty.a110 : AggT Try.prog 110 4 := AggT.of Try.underlying110 rfl ty.i110.eq rfl
attribute [instance] ty.a110
theorem ty.i111 : Inf Try.prog 111 Try.t111 := ⟨by kernel_rfl⟩
attribute [instance] ty.i111
theorem ty.s111 : Sz Try.prog 111 4 := ⟨_, ty.i111.eq, rfl⟩
attribute [instance] ty.s111
@[reducible] def ty.u111 := @Ut.mk Try.prog 111 _ Try.underlying111
attribute [instance] ty.u111
theorem ty.a111 : AggT Try.prog 111 4 := AggT.of Try.underlying111 rfl ty.i111.eq rfl
attribute [instance] ty.a111
theorem ty.i112 : Inf Try.prog 112 Try.t112 := ⟨by kernel_rfl⟩
attribute [instance] ty.i112
theorem ty.s112 : Sz Try.prog 112 1 := ⟨_, ty.i112.eq, rfl⟩
attribute [instance] ty.s112
@[reducible] def ty.u112 := @Ut.mk Try.prog 112 _ Try.underlying112
attribute [instance] ty.u112
theorem ty.c112 : CelT Try.prog 112 := CelT.of Try.underlying112 rfl
attribute [instance] ty.c112
theorem ty.i113 : Inf Try.prog 113 Try.t113 := ⟨by kernel_rfl⟩
attribute [instance] ty.i113
theorem ty.s113 : Sz Try.prog 113 1 := ⟨_, ty.i113.eq, rfl⟩
attribute [instance] ty.s113
@[reducible] def ty.u113 := @Ut.mk Try.prog 113 _ Try.underlying113
attribute [instance] ty.u113
theorem ty.c113 : CelT Try.prog 113 := CelT.of Try.underlying113 rfl
attribute [instance] ty.c113
theorem ty.i114 : Inf Try.prog 114 Try.t114 := ⟨by kernel_rfl⟩
attribute [instance] ty.i114
theorem ty.s114 : Sz Try.prog 114 4 := ⟨_, ty.i114.eq, rfl⟩
attribute [instance] ty.s114
@[reducible] def ty.u114 := @Ut.mk Try.prog 114 _ Try.underlying114
attribute [instance] ty.u114
theorem ty.a114 : AggT Try.prog 114 4 := AggT.of Try.underlying114 rfl ty.i114.eq rfl
attribute [instance] ty.a114
theorem ty.i115 : Inf Try.prog 115 Try.t115 := ⟨by kernel_rfl⟩
attribute [instance] ty.i115
theorem ty.s115 : Sz Try.prog 115 1 := ⟨_, ty.i115.eq, rfl⟩
attribute [instance] ty.s115
@[reducible] def ty.u115 := @Ut.mk Try.prog 115 _ Try.underlying115
attribute [instance] ty.u115
theorem ty.c115 : CelT Try.prog 115 := CelT.of Try.underlying115 rfl
attribute [instance] ty.c115
theorem ty.i116 : Inf Try.prog 116 Try.t116 := ⟨by kernel_rfl⟩
attribute [instance] ty.i116
theorem ty.s116 : Sz Try.prog 116 1 := ⟨_, ty.i116.eq, rfl⟩
attribute [instance] ty.s116
@[reducible] def ty.u116 := @Ut.mk Try.prog 116 _ Try.underlying116
attribute [instance] ty.u116
theorem ty.c116 : CelT Try.prog 116 := CelT.of Try.underlying116 rfl
attribute [instance] ty.c116
theorem ty.i117 : Inf Try.prog 117 Try.t117 := ⟨by kernel_rfl⟩
attribute [instance] ty.i117
theorem ty.s117 : Sz Try.prog 117 1 := ⟨_, ty.i117.eq, rfl⟩
attribute [instance] ty.s117
@[reducible] def ty.u117 := @Ut.mk Try.prog 117 _ Try.underlying117
attribute [instance] ty.u117
theorem ty.c117 : CelT Try.prog 117 := CelT.of Try.underlying117 rfl
attribute [instance] ty.c117
theorem ty.i118 : Inf Try.prog 118 Try.t118 := ⟨by kernel_rfl⟩
attribute [instance] ty.i118
theorem ty.s118 : Sz Try.prog 118 1 := ⟨_, ty.i118.eq, rfl⟩
attribute [instance] ty.s118
@[reducible] def ty.u118 := @Ut.mk Try.prog 118 _ Try.underlying118
attribute [instance] ty.u118
theorem ty.c118 : CelT Try.prog 118 := CelT.of Try.underlying118 rfl
attribute [instance] ty.c118
theorem ty.i119 : Inf Try.prog 119 Try.t119 := ⟨by kernel_rfl⟩
attribute [instance] ty.i119
theorem ty.s119 : Sz Try.prog 119 1 := ⟨_, ty.i119.eq, rfl⟩
attribute [instance] ty.s119
@[reducible] def ty.u119 := @Ut.mk Try.prog 119 _ Try.underlying119
attribute [instance] ty.u119
theorem ty.c119 : CelT Try.prog 119 := CelT.of Try.underlying119 rfl
attribute [instance] ty.c119
theorem ty.i120 : Inf Try.prog 120 Try.t120 := ⟨by kernel_rfl⟩
attribute [instance] ty.i120
theorem ty.s120 : Sz Try.prog 120 1 := ⟨_, ty.i120.eq, rfl⟩
attribute [instance] ty.s120
@[reducible] def ty.u120 := @Ut.mk Try.prog 120 _ Try.underlying120
attribute [instance] ty.u120
theorem ty.c120 : CelT Try.prog 120 := CelT.of Try.underlying120 rfl
attribute [instance] ty.c120
theorem ty.i121 : Inf Try.prog 121 Try.t121 := ⟨by kernel_rfl⟩
attribute [instance] ty.i121
theorem ty.s121 : Sz Try.prog 121 1 := ⟨_, ty.i121.eq, rfl⟩
attribute [instance] ty.s121
@[reducible] def ty.u121 := @Ut.mk Try.prog 121 _ Try.underlying121
attribute [instance] ty.u121
theorem ty.c121 : CelT Try.prog 121 := CelT.of Try.underlying121 rfl
attribute [instance] ty.c121
theorem ty.i122 : Inf Try.prog 122 Try.t122 := ⟨by kernel_rfl⟩
attribute [instance] ty.i122
theorem ty.s122 : Sz Try.prog 122 1 := ⟨_, ty.i122.eq, rfl⟩
attribute [instance] ty.s122
@[reducible] def ty.u122 := @Ut.mk Try.prog 122 _ Try.underlying122
attribute [instance] ty.u122
theorem ty.c122 : CelT Try.prog 122 := CelT.of Try.underlying122 rfl
attribute [instance] ty.c122
theorem ty.i123 : Inf Try.prog 123 Try.t123 := ⟨by kernel_rfl⟩
attribute [instance] ty.i123
theorem ty.s123 : Sz Try.prog 123 1 := ⟨_, ty.i123.eq, rfl⟩
attribute [instance] ty.s123
@[reducible] def ty.u123 := @Ut.mk Try.prog 123 _ Try.underlying123
attribute [instance] ty.u123
theorem ty.c123 : CelT Try.prog 123 := CelT.of Try.underlying123 rfl
attribute [instance] ty.c123
theorem ty.i124 : Inf Try.prog 124 Try.t124 := ⟨by kernel_rfl⟩
attribute [instance] ty.i124
theorem ty.s124 : Sz Try.prog 124 1 := ⟨_, ty.i124.eq, rfl⟩
attribute [instance] ty.s124
@[reducible] def ty.u124 := @Ut.mk Try.prog 124 _ Try.underlying124
attribute [instance] ty.u124
theorem ty.c124 : CelT Try.prog 124 := CelT.of Try.underlying124 rfl
attribute [instance] ty.c124
theorem ty.i125 : Inf Try.prog 125 Try.t125 := ⟨by kernel_rfl⟩
attribute [instance] ty.i125
theorem ty.s125 : Sz Try.prog 125 1 := ⟨_, ty.i125.eq, rfl⟩
attribute [instance] ty.s125
@[reducible] def ty.u125 := @Ut.mk Try.prog 125 _ Try.underlying125
attribute [instance] ty.u125
theorem ty.c125 : CelT Try.prog 125 := CelT.of Try.underlying125 rfl
attribute [instance] ty.c125
theorem ty.i126 : Inf Try.prog 126 Try.t126 := ⟨by kernel_rfl⟩
attribute [instance] ty.i126
theorem ty.s126 : Sz Try.prog 126 1 := ⟨_, ty.i126.eq, rfl⟩
attribute [instance] ty.s126
@[reducible] def ty.u126 := @Ut.mk Try.prog 126 _ Try.underlying126
attribute [instance] ty.u126
theorem ty.c126 : CelT Try.prog 126 := CelT.of Try.underlying126 rfl
attribute [instance] ty.c126
theorem ty.i127 : Inf Try.prog 127 Try.t127 := ⟨by kernel_rfl⟩
attribute [instance] ty.i127
theorem ty.s127 : Sz Try.prog 127 1 := ⟨_, ty.i127.eq, rfl⟩
attribute [instance] ty.s127
@[reducible] def ty.u127 := @Ut.mk Try.prog 127 _ Try.underlying127
attribute [instance] ty.u127
theorem ty.c127 : CelT Try.prog 127 := CelT.of Try.underlying127 rfl
attribute [instance] ty.c127
theorem ty.i128 : Inf Try.prog 128 Try.t128 := ⟨by kernel_rfl⟩
attribute [instance] ty.i128
theorem ty.s128 : Sz Try.prog 128 1 := ⟨_, ty.i128.eq, rfl⟩
attribute [instance] ty.s128
@[reducible] def ty.u128 := @Ut.mk Try.prog 128 _ Try.underlying128
attribute [instance] ty.u128
theorem ty.c128 : CelT Try.prog 128 := CelT.of Try.underlying128 rfl
attribute [instance] ty.c128
theorem ty.i129 : Inf Try.prog 129 Try.t129 := ⟨by kernel_rfl⟩
attribute [instance] ty.i129
theorem ty.s129 : Sz Try.prog 129 1 := ⟨_, ty.i129.eq, rfl⟩
attribute [instance] ty.s129
@[reducible] def ty.u129 := @Ut.mk Try.prog 129 _ Try.underlying129
attribute [instance] ty.u129
theorem ty.c129 : CelT Try.prog 129 := CelT.of Try.underlying129 rfl
attribute [instance] ty.c129
theorem ty.i130 : Inf Try.prog 130 Try.t130 := ⟨by kernel_rfl⟩
attribute [instance] ty.i130
theorem ty.s130 : Sz Try.prog 130 1 := ⟨_, ty.i130.eq, rfl⟩
attribute [instance] ty.s130
@[reducible] def ty.u130 := @Ut.mk Try.prog 130 _ Try.underlying130
attribute [instance] ty.u130
theorem ty.c130 : CelT Try.prog 130 := CelT.of Try.underlying130 rfl
attribute [instance] ty.c130
theorem ty.i131 : Inf Try.prog 131 Try.t131 := ⟨by kernel_rfl⟩
attribute [instance] ty.i131
theorem ty.s131 : Sz Try.prog 131 1 := ⟨_, ty.i131.eq, rfl⟩
attribute [instance] ty.s131
@[reducible] def ty.u131 := @Ut.mk Try.prog 131 _ Try.underlying131
attribute [instance] ty.u131
theorem ty.c131 : CelT Try.prog 131 := CelT.of Try.underlying131 rfl
attribute [instance] ty.c131
theorem ty.i132 : Inf Try.prog 132 Try.t132 := ⟨by kernel_rfl⟩
attribute [instance] ty.i132
theorem ty.s132 : Sz Try.prog 132 1 := ⟨_, ty.i132.eq, rfl⟩
attribute [instance] ty.s132
@[reducible] def ty.u132 := @Ut.mk Try.prog 132 _ Try.underlying132
attribute [instance] ty.u132
theorem ty.c132 : CelT Try.prog 132 := CelT.of Try.underlying132 rfl
attribute [instance] ty.c132
theorem ty.i133 : Inf Try.prog 133 Try.t133 := ⟨by kernel_rfl⟩
attribute [instance] ty.i133
theorem ty.s133 : Sz Try.prog 133 1 := ⟨_, ty.i133.eq, rfl⟩
attribute [instance] ty.s133
@[reducible] def ty.u133 := @Ut.mk Try.prog 133 _ Try.underlying133
attribute [instance] ty.u133
theorem ty.c133 : CelT Try.prog 133 := CelT.of Try.underlying133 rfl
attribute [instance] ty.c133
theorem ty.i134 : Inf Try.prog 134 Try.t134 := ⟨by kernel_rfl⟩
attribute [instance] ty.i134
theorem ty.s134 : Sz Try.prog 134 1 := ⟨_, ty.i134.eq, rfl⟩
attribute [instance] ty.s134
@[reducible] def ty.u134 := @Ut.mk Try.prog 134 _ Try.underlying134
attribute [instance] ty.u134
theorem ty.c134 : CelT Try.prog 134 := CelT.of Try.underlying134 rfl
attribute [instance] ty.c134
theorem ty.i135 : Inf Try.prog 135 Try.t135 := ⟨by kernel_rfl⟩
attribute [instance] ty.i135
theorem ty.s135 : Sz Try.prog 135 1 := ⟨_, ty.i135.eq, rfl⟩
attribute [instance] ty.s135
@[reducible] def ty.u135 := @Ut.mk Try.prog 135 _ Try.underlying135
attribute [instance] ty.u135
theorem ty.c135 : CelT Try.prog 135 := CelT.of Try.underlying135 rfl
attribute [instance] ty.c135
theorem ty.i136 : Inf Try.prog 136 Try.t136 := ⟨by kernel_rfl⟩
attribute [instance] ty.i136
theorem ty.s136 : Sz Try.prog 136 1 := ⟨_, ty.i136.eq, rfl⟩
attribute [instance] ty.s136
@[reducible] def ty.u136 := @Ut.mk Try.prog 136 _ Try.underlying136
attribute [instance] ty.u136
theorem ty.c136 : CelT Try.prog 136 := CelT.of Try.underlying136 rfl
attribute [instance] ty.c136
theorem ty.i137 : Inf Try.prog 137 Try.t137 := ⟨by kernel_rfl⟩
attribute [instance] ty.i137
theorem ty.s137 : Sz Try.prog 137 1 := ⟨_, ty.i137.eq, rfl⟩
attribute [instance] ty.s137
@[reducible] def ty.u137 := @Ut.mk Try.prog 137 _ Try.underlying137
attribute [instance] ty.u137
theorem ty.c137 : CelT Try.prog 137 := CelT.of Try.underlying137 rfl
attribute [instance] ty.c137
theorem ty.i138 : Inf Try.prog 138 Try.t138 := ⟨by kernel_rfl⟩
attribute [instance] ty.i138
theorem ty.s138 : Sz Try.prog 138 1 := ⟨_, ty.i138.eq, rfl⟩
attribute [instance] ty.s138
@[reducible] def ty.u138 := @Ut.mk Try.prog 138 _ Try.underlying138
attribute [instance] ty.u138
theorem ty.c138 : CelT Try.prog 138 := CelT.of Try.underlying138 rfl
attribute [instance] ty.c138
theorem ty.i139 : Inf Try.prog 139 Try.t139 := ⟨by kernel_rfl⟩
attribute [instance] ty.i139
theorem ty.s139 : Sz Try.prog 139 1 := ⟨_, ty.i139.eq, rfl⟩
attribute [instance] ty.s139
@[reducible] def ty.u139 := @Ut.mk Try.prog 139 _ Try.underlying139
attribute [instance] ty.u139
theorem ty.c139 : CelT Try.prog 139 := CelT.of Try.underlying139 rfl
attribute [instance] ty.c139
theorem ty.i140 : Inf Try.prog 140 Try.t140 := ⟨by kernel_rfl⟩
attribute [instance] ty.i140
theorem ty.s140 : Sz Try.prog 140 1 := ⟨_, ty.i140.eq, rfl⟩
attribute [instance] ty.s140
@[reducible] def ty.u140 := @Ut.mk Try.prog 140 _ Try.underlying140
attribute [instance] ty.u140
theorem ty.c140 : CelT Try.prog 140 := CelT.of Try.underlying140 rfl
attribute [instance] ty.c140
theorem ty.i141 : Inf Try.prog 141 Try.t141 := ⟨by kernel_rfl⟩
attribute [instance] ty.i141
theorem ty.s141 : Sz Try.prog 141 1 := ⟨_, ty.i141.eq, rfl⟩
attribute [instance] ty.s141
@[reducible] def ty.u141 := @Ut.mk Try.prog 141 _ Try.underlying141
attribute [instance] ty.u141
theorem ty.c141 : CelT Try.prog 141 := CelT.of Try.underlying141 rfl
attribute [instance] ty.c141
theorem ty.i142 : Inf Try.prog 142 Try.t142 := ⟨by kernel_rfl⟩
attribute [instance] ty.i142
theorem ty.s142 : Sz Try.prog 142 1 := ⟨_, ty.i142.eq, rfl⟩
attribute [instance] ty.s142
@[reducible] def ty.u142 := @Ut.mk Try.prog 142 _ Try.underlying142
attribute [instance] ty.u142
theorem ty.c142 : CelT Try.prog 142 := CelT.of Try.underlying142 rfl
attribute [instance] ty.c142
theorem ty.i143 : Inf Try.prog 143 Try.t143 := ⟨by kernel_rfl⟩
attribute [instance] ty.i143
theorem ty.s143 : Sz Try.prog 143 1 := ⟨_, ty.i143.eq, rfl⟩
attribute [instance] ty.s143
@[reducible] def ty.u143 := @Ut.mk Try.prog 143 _ Try.underlying143
attribute [instance] ty.u143
theorem ty.c143 : CelT Try.prog 143 := CelT.of Try.underlying143 rfl
attribute [instance] ty.c143
theorem ty.i144 : Inf Try.prog 144 Try.t144 := ⟨by kernel_rfl⟩
attribute [instance] ty.i144
theorem ty.s144 : Sz Try.prog 144 1 := ⟨_, ty.i144.eq, rfl⟩
attribute [instance] ty.s144
@[reducible] def ty.u144 := @Ut.mk Try.prog 144 _ Try.underlying144
attribute [instance] ty.u144
theorem ty.c144 : CelT Try.prog 144 := CelT.of Try.underlying144 rfl
attribute [instance] ty.c144
theorem ty.i145 : Inf Try.prog 145 Try.t145 := ⟨by kernel_rfl⟩
attribute [instance] ty.i145
theorem ty.s145 : Sz Try.prog 145 1 := ⟨_, ty.i145.eq, rfl⟩
attribute [instance] ty.s145
@[reducible] def ty.u145 := @Ut.mk Try.prog 145 _ Try.underlying145
attribute [instance] ty.u145
theorem ty.c145 : CelT Try.prog 145 := CelT.of Try.underlying145 rfl
attribute [instance] ty.c145
theorem ty.i146 : Inf Try.prog 146 Try.t146 := ⟨by kernel_rfl⟩
attribute [instance] ty.i146
theorem ty.s146 : Sz Try.prog 146 1 := ⟨_, ty.i146.eq, rfl⟩
attribute [instance] ty.s146
@[reducible] def ty.u146 := @Ut.mk Try.prog 146 _ Try.underlying146
attribute [instance] ty.u146
theorem ty.c146 : CelT Try.prog 146 := CelT.of Try.underlying146 rfl
attribute [instance] ty.c146
theorem ty.i147 : Inf Try.prog 147 Try.t147 := ⟨by kernel_rfl⟩
attribute [instance] ty.i147
theorem ty.s147 : Sz Try.prog 147 1 := ⟨_, ty.i147.eq, rfl⟩
attribute [instance] ty.s147
@[reducible] def ty.u147 := @Ut.mk Try.prog 147 _ Try.underlying147
attribute [instance] ty.u147
theorem ty.c147 : CelT Try.prog 147 := CelT.of Try.underlying147 rfl
attribute [instance] ty.c147
theorem ty.i148 : Inf Try.prog 148 Try.t148 := ⟨by kernel_rfl⟩
attribute [instance] ty.i148
theorem ty.s148 : Sz Try.prog 148 1 := ⟨_, ty.i148.eq, rfl⟩
attribute [instance] ty.s148
@[reducible] def ty.u148 := @Ut.mk Try.prog 148 _ Try.underlying148
attribute [instance] ty.u148
theorem ty.c148 : CelT Try.prog 148 := CelT.of Try.underlying148 rfl
attribute [instance] ty.c148
theorem ty.i149 : Inf Try.prog 149 Try.t149 := ⟨by kernel_rfl⟩
attribute [instance] ty.i149
theorem ty.s149 : Sz Try.prog 149 1 := ⟨_, ty.i149.eq, rfl⟩
attribute [instance] ty.s149
@[reducible] def ty.u149 := @Ut.mk Try.prog 149 _ Try.underlying149
attribute [instance] ty.u149
theorem ty.c149 : CelT Try.prog 149 := CelT.of Try.underlying149 rfl
attribute [instance] ty.c149
theorem ty.i150 : Inf Try.prog 150 Try.t150 := ⟨by kernel_rfl⟩
attribute [instance] ty.i150
theorem ty.s150 : Sz Try.prog 150 1 := ⟨_, ty.i150.eq, rfl⟩
attribute [instance] ty.s150
@[reducible] def ty.u150 := @Ut.mk Try.prog 150 _ Try.underlying150
attribute [instance] ty.u150
theorem ty.c150 : CelT Try.prog 150 := CelT.of Try.underlying150 rfl
attribute [instance] ty.c150
theorem ty.i151 : Inf Try.prog 151 Try.t151 := ⟨by kernel_rfl⟩
attribute [instance] ty.i151
theorem ty.s151 : Sz Try.prog 151 1 := ⟨_, ty.i151.eq, rfl⟩
attribute [instance] ty.s151
@[reducible] def ty.u151 := @Ut.mk Try.prog 151 _ Try.underlying151
attribute [instance] ty.u151
theorem ty.c151 : CelT Try.prog 151 := CelT.of Try.underlying151 rfl
attribute [instance] ty.c151
theorem ty.i152 : Inf Try.prog 152 Try.t152 := ⟨by kernel_rfl⟩
attribute [instance] ty.i152
theorem ty.s152 : Sz Try.prog 152 4 := ⟨_, ty.i152.eq, rfl⟩
attribute [instance] ty.s152
@[reducible] def ty.u152 := @Ut.mk Try.prog 152 _ Try.underlying152
attribute [instance] ty.u152
theorem ty.a152 : AggT Try.prog 152 4 := AggT.of Try.underlying152 rfl ty.i152.eq rfl
attribute [instance] ty.a152
theorem ty.i153 : Inf Try.prog 153 Try.t153 := ⟨by kernel_rfl⟩
attribute [instance] ty.i153
theorem ty.s153 : Sz Try.prog 153 4 := ⟨_, ty.i153.eq, rfl⟩
attribute [instance] ty.s153
@[reducible] def ty.u153 := @Ut.mk Try.prog 153 _ Try.underlying153
attribute [instance] ty.u153
theorem ty.a153 : AggT Try.prog 153 4 := AggT.of Try.underlying153 rfl ty.i153.eq rfl
attribute [instance] ty.a153
theorem ty.i154 : Inf Try.prog 154 Try.t154 := ⟨by kernel_rfl⟩
attribute [instance] ty.i154
theorem ty.s154 : Sz Try.prog 154 0 := ⟨_, ty.i154.eq, rfl⟩
attribute [instance] ty.s154
@[reducible] def ty.u154 := @Ut.mk Try.prog 154 _ Try.underlying154
attribute [instance] ty.u154
theorem ty.a154 : AggT Try.prog 154 0 := AggT.of Try.underlying154 rfl ty.i154.eq rfl
attribute [instance] ty.a154
theorem ty.i155 : Inf Try.prog 155 Try.t155 := ⟨by kernel_rfl⟩
attribute [instance] ty.i155
theorem ty.s155 : Sz Try.prog 155 0 := ⟨_, ty.i155.eq, rfl⟩
attribute [instance] ty.s155
@[reducible] def ty.u155 := @Ut.mk Try.prog 155 _ Try.underlying155
attribute [instance] ty.u155
theorem ty.a155 : AggT Try.prog 155 0 := AggT.of Try.underlying155 rfl ty.i155.eq rfl
attribute [instance] ty.a155
theorem ty.i156 : Inf Try.prog 156 Try.t156 := ⟨by kernel_rfl⟩
attribute [instance] ty.i156
theorem ty.s156 : Sz Try.prog 156 0 := ⟨_, ty.i156.eq, rfl⟩
attribute [instance] ty.s156
@[reducible] def ty.u156 := @Ut.mk Try.prog 156 _ Try.underlying156
attribute [instance] ty.u156
theorem ty.a156 : AggT Try.prog 156 0 := AggT.of Try.underlying156 rfl ty.i156.eq rfl
attribute [instance] ty.a156
theorem ty.i157 : Inf Try.prog 157 Try.t157 := ⟨by kernel_rfl⟩
attribute [instance] ty.i157
theorem ty.s157 : Sz Try.prog 157 1 := ⟨_, ty.i157.eq, rfl⟩
attribute [instance] ty.s157
@[reducible] def ty.u157 := @Ut.mk Try.prog 157 _ Try.underlying157
attribute [instance] ty.u157
theorem ty.c157 : CelT Try.prog 157 := CelT.of Try.underlying157 rfl
attribute [instance] ty.c157
theorem ty.i158 : Inf Try.prog 158 Try.t158 := ⟨by kernel_rfl⟩
attribute [instance] ty.i158
theorem ty.s158 : Sz Try.prog 158 1 := ⟨_, ty.i158.eq, rfl⟩
attribute [instance] ty.s158
@[reducible] def ty.u158 := @Ut.mk Try.prog 158 _ Try.underlying158
attribute [instance] ty.u158
theorem ty.c158 : CelT Try.prog 158 := CelT.of Try.underlying158 rfl
attribute [instance] ty.c158
theorem ty.i159 : Inf Try.prog 159 Try.t159 := ⟨by kernel_rfl⟩
attribute [instance] ty.i159
theorem ty.s159 : Sz Try.prog 159 1 := ⟨_, ty.i159.eq, rfl⟩
attribute [instance] ty.s159
@[reducible] def ty.u159 := @Ut.mk Try.prog 159 _ Try.underlying159
attribute [instance] ty.u159
theorem ty.c159 : CelT Try.prog 159 := CelT.of Try.underlying159 rfl
attribute [instance] ty.c159
theorem ty.i160 : Inf Try.prog 160 Try.t160 := ⟨by kernel_rfl⟩
attribute [instance] ty.i160
theorem ty.s160 : Sz Try.prog 160 1 := ⟨_, ty.i160.eq, rfl⟩
attribute [instance] ty.s160
@[reducible] def ty.u160 := @Ut.mk Try.prog 160 _ Try.underlying160
attribute [instance] ty.u160
theorem ty.c160 : CelT Try.prog 160 := CelT.of Try.underlying160 rfl
attribute [instance] ty.c160
theorem ty.i161 : Inf Try.prog 161 Try.t161 := ⟨by kernel_rfl⟩
attribute [instance] ty.i161
theorem ty.s161 : Sz Try.prog 161 1 := ⟨_, ty.i161.eq, rfl⟩
attribute [instance] ty.s161
@[reducible] def ty.u161 := @Ut.mk Try.prog 161 _ Try.underlying161
attribute [instance] ty.u161
theorem ty.c161 : CelT Try.prog 161 := CelT.of Try.underlying161 rfl
attribute [instance] ty.c161
theorem ty.i162 : Inf Try.prog 162 Try.t162 := ⟨by kernel_rfl⟩
attribute [instance] ty.i162
theorem ty.s162 : Sz Try.prog 162 1 := ⟨_, ty.i162.eq, rfl⟩
attribute [instance] ty.s162
@[reducible] def ty.u162 := @Ut.mk Try.prog 162 _ Try.underlying162
attribute [instance] ty.u162
theorem ty.c162 : CelT Try.prog 162 := CelT.of Try.underlying162 rfl
attribute [instance] ty.c162
theorem ty.i163 : Inf Try.prog 163 Try.t163 := ⟨by kernel_rfl⟩
attribute [instance] ty.i163
theorem ty.s163 : Sz Try.prog 163 1 := ⟨_, ty.i163.eq, rfl⟩
attribute [instance] ty.s163
@[reducible] def ty.u163 := @Ut.mk Try.prog 163 _ Try.underlying163
attribute [instance] ty.u163
theorem ty.c163 : CelT Try.prog 163 := CelT.of Try.underlying163 rfl
attribute [instance] ty.c163
theorem ty.i164 : Inf Try.prog 164 Try.t164 := ⟨by kernel_rfl⟩
attribute [instance] ty.i164
theorem ty.s164 : Sz Try.prog 164 11 := ⟨_, ty.i164.eq, rfl⟩
attribute [instance] ty.s164
@[reducible] def ty.u164 := @Ut.mk Try.prog 164 _ Try.underlying164
attribute [instance] ty.u164
theorem ty.a164 : AggT Try.prog 164 11 := AggT.of Try.underlying164 rfl ty.i164.eq rfl
attribute [instance] ty.a164
theorem ty.i165 : Inf Try.prog 165 Try.t165 := ⟨by kernel_rfl⟩
attribute [instance] ty.i165
theorem ty.s165 : Sz Try.prog 165 11 := ⟨_, ty.i165.eq, rfl⟩
attribute [instance] ty.s165
@[reducible] def ty.u165 := @Ut.mk Try.prog 165 _ Try.underlying165
attribute [instance] ty.u165
theorem ty.a165 : AggT Try.prog 165 11 := AggT.of Try.underlying165 rfl ty.i165.eq rfl
attribute [instance] ty.a165
theorem ty.i166 : Inf Try.prog 166 Try.t166 := ⟨by kernel_rfl⟩
attribute [instance] ty.i166
theorem ty.s166 : Sz Try.prog 166 1 := ⟨_, ty.i166.eq, rfl⟩
attribute [instance] ty.s166
@[reducible] def ty.u166 := @Ut.mk Try.prog 166 _ Try.underlying166
attribute [instance] ty.u166
theorem ty.c166 : CelT Try.prog 166 := CelT.of Try.underlying166 rfl
attribute [instance] ty.c166
theorem ty.f7_0 : Fld Try.prog 7 0 0 2 := Fld.mk _ _ _ Try.underlying7 rfl rfl rfl ty.i2.eq (by decide)
attribute [instance] ty.f7_0
theorem ty.f7_1 : Fld Try.prog 7 1 1 3 := Fld.mk _ _ _ Try.underlying7 rfl rfl rfl ty.i3.eq (by decide)
attribute [instance] ty.f7_1
theorem ty.f7_2 : Fld Try.prog 7 2 2 4 := Fld.mk _ _ _ Try.underlying7 rfl rfl rfl ty.i4.eq (by decide)
attribute [instance] ty.f7_2
theorem ty.f7_3 : Fld Try.prog 7 3 3 6 := Fld.mk _ _ _ Try.underlying7 rfl rfl rfl ty.i6.eq (by decide)
attribute [instance] ty.f7_3
theorem ty.f8_0 : Fld Try.prog 8 0 0 2 := Fld.mk _ _ _ Try.underlying8 rfl rfl rfl ty.i2.eq (by decide)
attribute [instance] ty.f8_0
theorem ty.f8_1 : Fld Try.prog 8 1 1 3 := Fld.mk _ _ _ Try.underlying8 rfl rfl rfl ty.i3.eq (by decide)
attribute [instance] ty.f8_1
theorem ty.f8_2 : Fld Try.prog 8 2 2 4 := Fld.mk _ _ _ Try.underlying8 rfl rfl rfl ty.i4.eq (by decide)
attribute [instance] ty.f8_2
theorem ty.f8_3 : Fld Try.prog 8 3 3 6 := Fld.mk _ _ _ Try.underlying8 rfl rfl rfl ty.i6.eq (by decide)
attribute [instance] ty.f8_3
theorem ty.f13_0 : Fld Try.prog 13 0 0 9 := Fld.mk _ _ _ Try.underlying13 rfl rfl rfl ty.i9.eq (by decide)
attribute [instance] ty.f13_0
theorem ty.f13_1 : Fld Try.prog 13 1 1 12 := Fld.mk _ _ _ Try.underlying13 rfl rfl rfl ty.i12.eq (by decide)
attribute [instance] ty.f13_1
theorem ty.f14_0 : Fld Try.prog 14 0 0 9 := Fld.mk _ _ _ Try.underlying14 rfl rfl rfl ty.i9.eq (by decide)
attribute [instance] ty.f14_0
theorem ty.f14_1 : Fld Try.prog 14 1 1 12 := Fld.mk _ _ _ Try.underlying14 rfl rfl rfl ty.i12.eq (by decide)
attribute [instance] ty.f14_1
theorem ty.f18_0 : Fld Try.prog 18 0 0 17 := Fld.mk _ _ _ Try.underlying18 rfl rfl rfl ty.i17.eq (by decide)
attribute [instance] ty.f18_0
theorem ty.f19_0 : Fld Try.prog 19 0 0 17 := Fld.mk _ _ _ Try.underlying19 rfl rfl rfl ty.i17.eq (by decide)
attribute [instance] ty.f19_0
theorem ty.b23 : BArr Try.prog 23 8 := BArr.of Try.underlying23 Try.underlying5 ⟨_, rfl⟩ (by kernel_rfl) (by kernel_rfl) (by kernel_rfl)
attribute [instance] ty.b23
theorem ty.b24 : BArr Try.prog 24 8 := BArr.of Try.underlying24 Try.underlying5 ⟨_, rfl⟩ (by kernel_rfl) (by kernel_rfl) (by kernel_rfl)
attribute [instance] ty.b24
theorem ty.f26_0 : Fld Try.prog 26 0 0 24 := Fld.mk _ _ _ Try.underlying26 rfl rfl rfl ty.i24.eq (by decide)
attribute [instance] ty.f26_0
theorem ty.f26_1 : Fld Try.prog 26 1 8 25 := Fld.mk _ _ _ Try.underlying26 rfl rfl rfl ty.i25.eq (by decide)
attribute [instance] ty.f26_1
theorem ty.f26_2 : Fld Try.prog 26 2 9 3 := Fld.mk _ _ _ Try.underlying26 rfl rfl rfl ty.i3.eq (by decide)
attribute [instance] ty.f26_2
theorem ty.f26_3 : Fld Try.prog 26 3 10 3 := Fld.mk _ _ _ Try.underlying26 rfl rfl rfl ty.i3.eq (by decide)
attribute [instance] ty.f26_3
theorem ty.f27_0 : Fld Try.prog 27 0 0 24 := Fld.mk _ _ _ Try.underlying27 rfl rfl rfl ty.i24.eq (by decide)
attribute [instance] ty.f27_0
theorem ty.f27_1 : Fld Try.prog 27 1 8 25 := Fld.mk _ _ _ Try.underlying27 rfl rfl rfl ty.i25.eq (by decide)
attribute [instance] ty.f27_1
theorem ty.f27_2 : Fld Try.prog 27 2 9 3 := Fld.mk _ _ _ Try.underlying27 rfl rfl rfl ty.i3.eq (by decide)
attribute [instance] ty.f27_2
theorem ty.f27_3 : Fld Try.prog 27 3 10 3 := Fld.mk _ _ _ Try.underlying27 rfl rfl rfl ty.i3.eq (by decide)
attribute [instance] ty.f27_3
theorem ty.f34_0 : Fld Try.prog 34 0 0 23 := Fld.mk _ _ _ Try.underlying34 rfl rfl rfl ty.i23.eq (by decide)
attribute [instance] ty.f34_0
theorem ty.f34_1 : Fld Try.prog 34 1 8 23 := Fld.mk _ _ _ Try.underlying34 rfl rfl rfl ty.i23.eq (by decide)
attribute [instance] ty.f34_1
theorem ty.f34_2 : Fld Try.prog 34 2 16 3 := Fld.mk _ _ _ Try.underlying34 rfl rfl rfl ty.i3.eq (by decide)
attribute [instance] ty.f34_2
theorem ty.f34_3 : Fld Try.prog 34 3 17 3 := Fld.mk _ _ _ Try.underlying34 rfl rfl rfl ty.i3.eq (by decide)
attribute [instance] ty.f34_3
theorem ty.f34_4 : Fld Try.prog 34 4 18 3 := Fld.mk _ _ _ Try.underlying34 rfl rfl rfl ty.i3.eq (by decide)
attribute [instance] ty.f34_4
theorem ty.f34_5 : Fld Try.prog 34 5 19 3 := Fld.mk _ _ _ Try.underlying34 rfl rfl rfl ty.i3.eq (by decide)
attribute [instance] ty.f34_5
theorem ty.f34_6 : Fld Try.prog 34 6 20 3 := Fld.mk _ _ _ Try.underlying34 rfl rfl rfl ty.i3.eq (by decide)
attribute [instance] ty.f34_6
theorem ty.f35_0 : Fld Try.prog 35 0 0 23 := Fld.mk _ _ _ Try.underlying35 rfl rfl rfl ty.i23.eq (by decide)
attribute [instance] ty.f35_0
theorem ty.f35_1 : Fld Try.prog 35 1 8 23 := Fld.mk _ _ _ Try.underlying35 rfl rfl rfl ty.i23.eq (by decide)
attribute [instance] ty.f35_1
theorem ty.f35_2 : Fld Try.prog 35 2 16 3 := Fld.mk _ _ _ Try.underlying35 rfl rfl rfl ty.i3.eq (by decide)
attribute [instance] ty.f35_2
theorem ty.f35_3 : Fld Try.prog 35 3 17 3 := Fld.mk _ _ _ Try.underlying35 rfl rfl rfl ty.i3.eq (by decide)
attribute [instance] ty.f35_3
theorem ty.f35_4 : Fld Try.prog 35 4 18 3 := Fld.mk _ _ _ Try.underlying35 rfl rfl rfl ty.i3.eq (by decide)
attribute [instance] ty.f35_4
theorem ty.f35_5 : Fld Try.prog 35 5 19 3 := Fld.mk _ _ _ Try.underlying35 rfl rfl rfl ty.i3.eq (by decide)
attribute [instance] ty.f35_5
theorem ty.f35_6 : Fld Try.prog 35 6 20 3 := Fld.mk _ _ _ Try.underlying35 rfl rfl rfl ty.i3.eq (by decide)
attribute [instance] ty.f35_6
theorem ty.f38_0 : Fld Try.prog 38 0 0 23 := Fld.mk _ _ _ Try.underlying38 rfl rfl rfl ty.i23.eq (by decide)
attribute [instance] ty.f38_0
theorem ty.f38_1 : Fld Try.prog 38 1 8 37 := Fld.mk _ _ _ Try.underlying38 rfl rfl rfl ty.i37.eq (by decide)
attribute [instance] ty.f38_1
theorem ty.f38_2 : Fld Try.prog 38 2 9 3 := Fld.mk _ _ _ Try.underlying38 rfl rfl rfl ty.i3.eq (by decide)
attribute [instance] ty.f38_2
theorem ty.f38_3 : Fld Try.prog 38 3 10 3 := Fld.mk _ _ _ Try.underlying38 rfl rfl rfl ty.i3.eq (by decide)
attribute [instance] ty.f38_3
theorem ty.f39_0 : Fld Try.prog 39 0 0 23 := Fld.mk _ _ _ Try.underlying39 rfl rfl rfl ty.i23.eq (by decide)
attribute [instance] ty.f39_0
theorem ty.f39_1 : Fld Try.prog 39 1 8 37 := Fld.mk _ _ _ Try.underlying39 rfl rfl rfl ty.i37.eq (by decide)
attribute [instance] ty.f39_1
theorem ty.f39_2 : Fld Try.prog 39 2 9 3 := Fld.mk _ _ _ Try.underlying39 rfl rfl rfl ty.i3.eq (by decide)
attribute [instance] ty.f39_2
theorem ty.f39_3 : Fld Try.prog 39 3 10 3 := Fld.mk _ _ _ Try.underlying39 rfl rfl rfl ty.i3.eq (by decide)
attribute [instance] ty.f39_3
theorem ty.f46_0 : Fld Try.prog 46 0 0 24 := Fld.mk _ _ _ Try.underlying46 rfl rfl rfl ty.i24.eq (by decide)
attribute [instance] ty.f46_0
theorem ty.f46_1 : Fld Try.prog 46 1 8 24 := Fld.mk _ _ _ Try.underlying46 rfl rfl rfl ty.i24.eq (by decide)
attribute [instance] ty.f46_1
theorem ty.f46_2 : Fld Try.prog 46 2 16 3 := Fld.mk _ _ _ Try.underlying46 rfl rfl rfl ty.i3.eq (by decide)
attribute [instance] ty.f46_2
theorem ty.f46_3 : Fld Try.prog 46 3 17 3 := Fld.mk _ _ _ Try.underlying46 rfl rfl rfl ty.i3.eq (by decide)
attribute [instance] ty.f46_3
theorem ty.f46_4 : Fld Try.prog 46 4 18 3 := Fld.mk _ _ _ Try.underlying46 rfl rfl rfl ty.i3.eq (by decide)
attribute [instance] ty.f46_4
theorem ty.f46_5 : Fld Try.prog 46 5 19 3 := Fld.mk _ _ _ Try.underlying46 rfl rfl rfl ty.i3.eq (by decide)
attribute [instance] ty.f46_5
theorem ty.f46_6 : Fld Try.prog 46 6 20 3 := Fld.mk _ _ _ Try.underlying46 rfl rfl rfl ty.i3.eq (by decide)
attribute [instance] ty.f46_6
theorem ty.f47_0 : Fld Try.prog 47 0 0 24 := Fld.mk _ _ _ Try.underlying47 rfl rfl rfl ty.i24.eq (by decide)
attribute [instance] ty.f47_0
theorem ty.f47_1 : Fld Try.prog 47 1 8 24 := Fld.mk _ _ _ Try.underlying47 rfl rfl rfl ty.i24.eq (by decide)
attribute [instance] ty.f47_1
theorem ty.f47_2 : Fld Try.prog 47 2 16 3 := Fld.mk _ _ _ Try.underlying47 rfl rfl rfl ty.i3.eq (by decide)
attribute [instance] ty.f47_2
theorem ty.f47_3 : Fld Try.prog 47 3 17 3 := Fld.mk _ _ _ Try.underlying47 rfl rfl rfl ty.i3.eq (by decide)
attribute [instance] ty.f47_3
theorem ty.f47_4 : Fld Try.prog 47 4 18 3 := Fld.mk _ _ _ Try.underlying47 rfl rfl rfl ty.i3.eq (by decide)
attribute [instance] ty.f47_4
theorem ty.f47_5 : Fld Try.prog 47 5 19 3 := Fld.mk _ _ _ Try.underlying47 rfl rfl rfl ty.i3.eq (by decide)
attribute [instance] ty.f47_5
theorem ty.f47_6 : Fld Try.prog 47 6 20 3 := Fld.mk _ _ _ Try.underlying47 rfl rfl rfl ty.i3.eq (by decide)
attribute [instance] ty.f47_6
theorem ty.f94_0 : Fld Try.prog 94 0 0 3 := Fld.mk _ _ _ Try.underlying94 rfl rfl rfl ty.i3.eq (by decide)
attribute [instance] ty.f94_0
theorem ty.f94_1 : Fld Try.prog 94 1 1 31 := Fld.mk _ _ _ Try.underlying94 rfl rfl rfl ty.i31.eq (by decide)
attribute [instance] ty.f94_1
theorem ty.f95_0 : Fld Try.prog 95 0 0 3 := Fld.mk _ _ _ Try.underlying95 rfl rfl rfl ty.i3.eq (by decide)
attribute [instance] ty.f95_0
theorem ty.f95_1 : Fld Try.prog 95 1 1 31 := Fld.mk _ _ _ Try.underlying95 rfl rfl rfl ty.i31.eq (by decide)
attribute [instance] ty.f95_1
theorem ty.f152_0 : Fld Try.prog 152 0 0 17 := Fld.mk _ _ _ Try.underlying152 rfl rfl rfl ty.i17.eq (by decide)
attribute [instance] ty.f152_0
theorem ty.f152_1 : Fld Try.prog 152 1 1 17 := Fld.mk _ _ _ Try.underlying152 rfl rfl rfl ty.i17.eq (by decide)
attribute [instance] ty.f152_1
theorem ty.f152_2 : Fld Try.prog 152 2 2 17 := Fld.mk _ _ _ Try.underlying152 rfl rfl rfl ty.i17.eq (by decide)
attribute [instance] ty.f152_2
theorem ty.f152_3 : Fld Try.prog 152 3 3 9 := Fld.mk _ _ _ Try.underlying152 rfl rfl rfl ty.i9.eq (by decide)
attribute [instance] ty.f152_3
theorem ty.f153_0 : Fld Try.prog 153 0 0 17 := Fld.mk _ _ _ Try.underlying153 rfl rfl rfl ty.i17.eq (by decide)
attribute [instance] ty.f153_0
theorem ty.f153_1 : Fld Try.prog 153 1 1 17 := Fld.mk _ _ _ Try.underlying153 rfl rfl rfl ty.i17.eq (by decide)
attribute [instance] ty.f153_1
theorem ty.f153_2 : Fld Try.prog 153 2 2 17 := Fld.mk _ _ _ Try.underlying153 rfl rfl rfl ty.i17.eq (by decide)
attribute [instance] ty.f153_2
theorem ty.f153_3 : Fld Try.prog 153 3 3 9 := Fld.mk _ _ _ Try.underlying153 rfl rfl rfl ty.i9.eq (by decide)
attribute [instance] ty.f153_3
theorem ty.f164_0 : Fld Try.prog 164 0 0 12 := Fld.mk _ _ _ Try.underlying164 rfl rfl rfl ty.i12.eq (by decide)
attribute [instance] ty.f164_0
theorem ty.f164_1 : Fld Try.prog 164 1 1 12 := Fld.mk _ _ _ Try.underlying164 rfl rfl rfl ty.i12.eq (by decide)
attribute [instance] ty.f164_1
theorem ty.f164_2 : Fld Try.prog 164 2 2 133 := Fld.mk _ _ _ Try.underlying164 rfl rfl rfl ty.i133.eq (by decide)
attribute [instance] ty.f164_2
theorem ty.f164_3 : Fld Try.prog 164 3 3 158 := Fld.mk _ _ _ Try.underlying164 rfl rfl rfl ty.i158.eq (by decide)
attribute [instance] ty.f164_3
theorem ty.f164_4 : Fld Try.prog 164 4 4 5 := Fld.mk _ _ _ Try.underlying164 rfl rfl rfl ty.i5.eq (by decide)
attribute [instance] ty.f164_4
theorem ty.f164_5 : Fld Try.prog 164 5 5 5 := Fld.mk _ _ _ Try.underlying164 rfl rfl rfl ty.i5.eq (by decide)
attribute [instance] ty.f164_5
theorem ty.f164_6 : Fld Try.prog 164 6 6 159 := Fld.mk _ _ _ Try.underlying164 rfl rfl rfl ty.i159.eq (by decide)
attribute [instance] ty.f164_6
theorem ty.f164_7 : Fld Try.prog 164 7 7 160 := Fld.mk _ _ _ Try.underlying164 rfl rfl rfl ty.i160.eq (by decide)
attribute [instance] ty.f164_7
theorem ty.f164_8 : Fld Try.prog 164 8 8 161 := Fld.mk _ _ _ Try.underlying164 rfl rfl rfl ty.i161.eq (by decide)
attribute [instance] ty.f164_8
theorem ty.f164_9 : Fld Try.prog 164 9 9 162 := Fld.mk _ _ _ Try.underlying164 rfl rfl rfl ty.i162.eq (by decide)
attribute [instance] ty.f164_9
theorem ty.f164_10 : Fld Try.prog 164 10 10 163 := Fld.mk _ _ _ Try.underlying164 rfl rfl rfl ty.i163.eq (by decide)
attribute [instance] ty.f164_10
theorem ty.f165_0 : Fld Try.prog 165 0 0 12 := Fld.mk _ _ _ Try.underlying165 rfl rfl rfl ty.i12.eq (by decide)
attribute [instance] ty.f165_0
theorem ty.f165_1 : Fld Try.prog 165 1 1 12 := Fld.mk _ _ _ Try.underlying165 rfl rfl rfl ty.i12.eq (by decide)
attribute [instance] ty.f165_1
theorem ty.f165_2 : Fld Try.prog 165 2 2 133 := Fld.mk _ _ _ Try.underlying165 rfl rfl rfl ty.i133.eq (by decide)
attribute [instance] ty.f165_2
theorem ty.f165_3 : Fld Try.prog 165 3 3 158 := Fld.mk _ _ _ Try.underlying165 rfl rfl rfl ty.i158.eq (by decide)
attribute [instance] ty.f165_3
theorem ty.f165_4 : Fld Try.prog 165 4 4 5 := Fld.mk _ _ _ Try.underlying165 rfl rfl rfl ty.i5.eq (by decide)
attribute [instance] ty.f165_4
theorem ty.f165_5 : Fld Try.prog 165 5 5 5 := Fld.mk _ _ _ Try.underlying165 rfl rfl rfl ty.i5.eq (by decide)
attribute [instance] ty.f165_5
theorem ty.f165_6 : Fld Try.prog 165 6 6 159 := Fld.mk _ _ _ Try.underlying165 rfl rfl rfl ty.i159.eq (by decide)
attribute [instance] ty.f165_6
theorem ty.f165_7 : Fld Try.prog 165 7 7 160 := Fld.mk _ _ _ Try.underlying165 rfl rfl rfl ty.i160.eq (by decide)
attribute [instance] ty.f165_7
theorem ty.f165_8 : Fld Try.prog 165 8 8 161 := Fld.mk _ _ _ Try.underlying165 rfl rfl rfl ty.i161.eq (by decide)
attribute [instance] ty.f165_8
theorem ty.f165_9 : Fld Try.prog 165 9 9 162 := Fld.mk _ _ _ Try.underlying165 rfl rfl rfl ty.i162.eq (by decide)
attribute [instance] ty.f165_9
theorem ty.f165_10 : Fld Try.prog 165 10 10 163 := Fld.mk _ _ _ Try.underlying165 rfl rfl rfl ty.i163.eq (by decide)
attribute [instance] ty.f165_10
theorem fn.i3 : Fnc Try.prog 3 := ⟨fun w args => by kernel_rfl⟩
attribute [instance] fn.i3
theorem fn.i4 : Fnc Try.prog 4 := ⟨fun w args => by kernel_rfl⟩
attribute [instance] fn.i4
theorem fn.i5 : Fnc Try.prog 5 := ⟨fun w args => by kernel_rfl⟩
attribute [instance] fn.i5
theorem fn.i6 : Fnc Try.prog 6 := ⟨fun w args => by kernel_rfl⟩
attribute [instance] fn.i6
theorem fn.i7 : Fnc Try.prog 7 := ⟨fun w args => by kernel_rfl⟩
attribute [instance] fn.i7
theorem fn.i8 : Fnc Try.prog 8 := ⟨fun w args => by kernel_rfl⟩
attribute [instance] fn.i8
theorem fn.i9 : Fnc Try.prog 9 := ⟨fun w args => by kernel_rfl⟩
attribute [instance] fn.i9
theorem fn.i10 : Fnc Try.prog 10 := ⟨fun w args => by kernel_rfl⟩
attribute [instance] fn.i10
theorem fn.i11 : Fnc Try.prog 11 := ⟨fun w args => by kernel_rfl⟩
attribute [instance] fn.i11
theorem fn.i12 : Fnc Try.prog 12 := ⟨fun w args => by kernel_rfl⟩
attribute [instance] fn.i12
theorem fn.i13 : Fnc Try.prog 13 := ⟨fun w args => by kernel_rfl⟩
attribute [instance] fn.i13
theorem fn.i14 : Fnc Try.prog 14 := ⟨fun w args => by kernel_rfl⟩
attribute [instance] fn.i14
theorem fn.i15 : Fnc Try.prog 15 := ⟨fun w args => by kernel_rfl⟩
attribute [instance] fn.i15
theorem fn.i16 : Fnc Try.prog 16 := ⟨fun w args => by kernel_rfl⟩
attribute [instance] fn.i16
theorem fn.i17 : Fnc Try.prog 17 := ⟨fun w args => by kernel_rfl⟩
attribute [instance] fn.i17
theorem fn.i18 : Fnc Try.prog 18 := ⟨fun w args => by kernel_rfl⟩
attribute [instance] fn.i18
theorem fn.i19 : Fnc Try.prog 19 := ⟨fun w args => by kernel_rfl⟩
attribute [instance] fn.i19
theorem fn.i20 : Fnc Try.prog 20 := ⟨fun w args => by kernel_rfl⟩
attribute [instance] fn.i20
theorem fn.i21 : Fnc Try.prog 21 := ⟨fun w args => by kernel_rfl⟩
attribute [instance] fn.i21
theorem fn.i22 : Fnc Try.prog 22 := ⟨fun w args => by kernel_rfl⟩
attribute [instance] fn.i22
theorem fn.i23 : Fnc Try.prog 23 := ⟨fun w args => by kernel_rfl⟩
attribute [instance] fn.i23
theorem fn.i24 : Fnc Try.prog 24 := ⟨fun w args => by kernel_rfl⟩
attribute [instance] fn.i24
theorem fn.i25 : Fnc Try.prog 25 := ⟨fun w args => by kernel_rfl⟩
attribute [instance] fn.i25
theorem fn.i26 : Fnc Try.prog 26 := ⟨fun w args => by kernel_rfl⟩
attribute [instance] fn.i26
theorem fn.i27 : Fnc Try.prog 27 := ⟨fun w args => by kernel_rfl⟩
attribute [instance] fn.i27
theorem fn.i28 : Fnc Try.prog 28 := ⟨fun w args => by kernel_rfl⟩
attribute [instance] fn.i28
theorem fn.i29 : Fnc Try.prog 29 := ⟨fun w args => by kernel_rfl⟩
attribute [instance] fn.i29
theorem fn.i30 : Fnc Try.prog 30 := ⟨fun w args => by kernel_rfl⟩
attribute [instance] fn.i30
theorem fn.i31 : Fnc Try.prog 31 := ⟨fun w args => by kernel_rfl⟩
attribute [instance] fn.i31
theorem fn.i32 : Fnc Try.prog 32 := ⟨fun w args => by kernel_rfl⟩
attribute [instance] fn.i32
theorem fn.i33 : Fnc Try.prog 33 := ⟨fun w args => by kernel_rfl⟩
attribute [instance] fn.i33
theorem fn.i34 : Fnc Try.prog 34 := ⟨fun w args => by kernel_rfl⟩
attribute [instance] fn.i34
theorem fn.i35 : Fnc Try.prog 35 := ⟨fun w args => by kernel_rfl⟩
attribute [instance] fn.i35
theorem fn.i36 : Fnc Try.prog 36 := ⟨fun w args => by kernel_rfl⟩
attribute [instance] fn.i36
theorem fn.i37 : Fnc Try.prog 37 := ⟨fun w args => by kernel_rfl⟩
attribute [instance] fn.i37
theorem fn.i38 : Fnc Try.prog 38 := ⟨fun w args => by kernel_rfl⟩
attribute [instance] fn.i38
theorem fn.i39 : Fnc Try.prog 39 := ⟨fun w args => by kernel_rfl⟩
attribute [instance] fn.i39
theorem fn.i40 : Fnc Try.prog 40 := ⟨fun w args => by kernel_rfl⟩
attribute [instance] fn.i40
theorem fn.i41 : Fnc Try.prog 41 := ⟨fun w args => by kernel_rfl⟩
attribute [instance] fn.i41
theorem fn.i42 : Fnc Try.prog 42 := ⟨fun w args => by kernel_rfl⟩
attribute [instance] fn.i42
theorem fn.i43 : Fnc Try.prog 43 := ⟨fun w args => by kernel_rfl⟩
attribute [instance] fn.i43
theorem fn.i44 : Fnc Try.prog 44 := ⟨fun w args => by kernel_rfl⟩
attribute [instance] fn.i44
theorem fn.i45 : Fnc Try.prog 45 := ⟨fun w args => by kernel_rfl⟩
attribute [instance] fn.i45
theorem fn.i46 : Fnc Try.prog 46 := ⟨fun w args => by kernel_rfl⟩
attribute [instance] fn.i46
theorem fn.i47 : Fnc Try.prog 47 := ⟨fun w args => by kernel_rfl⟩
attribute [instance] fn.i47
theorem fn.i48 : Fnc Try.prog 48 := ⟨fun w args => by kernel_rfl⟩
attribute [instance] fn.i48
theorem fn.i49 : Fnc Try.prog 49 := ⟨fun w args => by kernel_rfl⟩
attribute [instance] fn.i49
theorem fn.i50 : Fnc Try.prog 50 := ⟨fun w args => by kernel_rfl⟩
attribute [instance] fn.i50
theorem fn.i51 : Fnc Try.prog 51 := ⟨fun w args => by kernel_rfl⟩
attribute [instance] fn.i51
theorem fn.i52 : Fnc Try.prog 52 := ⟨fun w args => by kernel_rfl⟩
attribute [instance] fn.i52
theorem fn.i53 : Fnc Try.prog 53 := ⟨fun w args => by kernel_rfl⟩
attribute [instance] fn.i53
theorem fn.i54 : Fnc Try.prog 54 := ⟨fun w args => by kernel_rfl⟩
attribute [instance] fn.i54
theorem fn.i55 : Fnc Try.prog 55 := ⟨fun w args => by kernel_rfl⟩
attribute [instance] fn.i55
theorem fn.i56 : Fnc Try.prog 56 := ⟨fun w args => by kernel_rfl⟩
attribute [instance] fn.i56
theorem fn.i57 : Fnc Try.prog 57 := ⟨fun w args => by kernel_rfl⟩
attribute [instance] fn.i57
theorem fn.i58 : Fnc Try.prog 58 := ⟨fun w args => by kernel_rfl⟩
attribute [instance] fn.i58
theorem fn.i59 : Fnc Try.prog 59 := ⟨fun w args => by kernel_rfl⟩
attribute [instance] fn.i59
theorem fn.i60 : Fnc Try.prog 60 := ⟨fun w args => by kernel_rfl⟩
attribute [instance] fn.i60
theorem fn.i61 : Fnc Try.prog 61 := ⟨fun w args => by kernel_rfl⟩
attribute [instance] fn.i61
theorem fn.i62 : Fnc Try.prog 62 := ⟨fun w args => by kernel_rfl⟩
attribute [instance] fn.i62
theorem fn.i63 : Fnc Try.prog 63 := ⟨fun w args => by kernel_rfl⟩
attribute [instance] fn.i63
theorem fn.i64 : Fnc Try.prog 64 := ⟨fun w args => by kernel_rfl⟩
attribute [instance] fn.i64
theorem fn.i65 : Fnc Try.prog 65 := ⟨fun w args => by kernel_rfl⟩
attribute [instance] fn.i65
theorem fn.i66 : Fnc Try.prog 66 := ⟨fun w args => by kernel_rfl⟩
attribute [instance] fn.i66
theorem fn.i67 : Fnc Try.prog 67 := ⟨fun w args => by kernel_rfl⟩
attribute [instance] fn.i67
theorem fn.i68 : Fnc Try.prog 68 := ⟨fun w args => by kernel_rfl⟩
attribute [instance] fn.i68
theorem fn.i69 : Fnc Try.prog 69 := ⟨fun w args => by kernel_rfl⟩
attribute [instance] fn.i69
theorem fn.i70 : Fnc Try.prog 70 := ⟨fun w args => by kernel_rfl⟩
attribute [instance] fn.i70
theorem fn.i71 : Fnc Try.prog 71 := ⟨fun w args => by kernel_rfl⟩
attribute [instance] fn.i71
theorem fn.i72 : Fnc Try.prog 72 := ⟨fun w args => by kernel_rfl⟩
attribute [instance] fn.i72
theorem fn.i73 : Fnc Try.prog 73 := ⟨fun w args => by kernel_rfl⟩
attribute [instance] fn.i73
theorem fn.i74 : Fnc Try.prog 74 := ⟨fun w args => by kernel_rfl⟩
attribute [instance] fn.i74
theorem fn.i75 : Fnc Try.prog 75 := ⟨fun w args => by kernel_rfl⟩
attribute [instance] fn.i75
theorem fn.i76 : Fnc Try.prog 76 := ⟨fun w args => by kernel_rfl⟩
attribute [instance] fn.i76
theorem fn.i77 : Fnc Try.prog 77 := ⟨fun w args => by kernel_rfl⟩
attribute [instance] fn.i77
theorem fn.i78 : Fnc Try.prog 78 := ⟨fun w args => by kernel_rfl⟩
attribute [instance] fn.i78
theorem fn.i79 : Fnc Try.prog 79 := ⟨fun w args => by kernel_rfl⟩
attribute [instance] fn.i79
theorem fn.i80 : Fnc Try.prog 80 := ⟨fun w args => by kernel_rfl⟩
attribute [instance] fn.i80
theorem fn.i81 : Fnc Try.prog 81 := ⟨fun w args => by kernel_rfl⟩
attribute [instance] fn.i81
theorem fn.i82 : Fnc Try.prog 82 := ⟨fun w args => by kernel_rfl⟩
attribute [instance] fn.i82
theorem fn.i83 : Fnc Try.prog 83 := ⟨fun w args => by kernel_rfl⟩
attribute [instance] fn.i83
theorem fn.i84 : Fnc Try.prog 84 := ⟨fun w args => by kernel_rfl⟩
attribute [instance] fn.i84
theorem fn.i85 : Fnc Try.prog 85 := ⟨fun w args => by kernel_rfl⟩
attribute [instance] fn.i85
theorem fn.i86 : Fnc Try.prog 86 := ⟨fun w args => by kernel_rfl⟩
attribute [instance] fn.i86
theorem fn.i87 : Fnc Try.prog 87 := ⟨fun w args => by kernel_rfl⟩
attribute [instance] fn.i87
theorem fn.i88 : Fnc Try.prog 88 := ⟨fun w args => by kernel_rfl⟩
attribute [instance] fn.i88
theorem fn.i89 : Fnc Try.prog 89 := ⟨fun w args => by kernel_rfl⟩
attribute [instance] fn.i89
theorem fn.i90 : Fnc Try.prog 90 := ⟨fun w args => by kernel_rfl⟩
attribute [instance] fn.i90
theorem fn.i91 : Fnc Try.prog 91 := ⟨fun w args => by kernel_rfl⟩
attribute [instance] fn.i91
theorem fn.i92 : Fnc Try.prog 92 := ⟨fun w args => by kernel_rfl⟩
attribute [instance] fn.i92
theorem fn.i93 : Fnc Try.prog 93 := ⟨fun w args => by kernel_rfl⟩
attribute [instance] fn.i93
theorem fn.i94 : Fnc Try.prog 94 := ⟨fun w args => by kernel_rfl⟩
attribute [instance] fn.i94
theorem fn.i95 : Fnc Try.prog 95 := ⟨fun w args => by kernel_rfl⟩
attribute [instance] fn.i95
theorem fn.i96 : Fnc Try.prog 96 := ⟨fun w args => by kernel_rfl⟩
attribute [instance] fn.i96
theorem fn.i97 : Fnc Try.prog 97 := ⟨fun w args => by kernel_rfl⟩
attribute [instance] fn.i97
theorem fn.i98 : Fnc Try.prog 98 := ⟨fun w args => by kernel_rfl⟩
attribute [instance] fn.i98
theorem fn.i99 : Fnc Try.prog 99 := ⟨fun w args => by kernel_rfl⟩
attribute [instance] fn.i99
theorem fn.i100 : Fnc Try.prog 100 := ⟨fun w args => by kernel_rfl⟩
attribute [instance] fn.i100
theorem fn.i101 : Fnc Try.prog 101 := ⟨fun w args => by kernel_rfl⟩
attribute [instance] fn.i101
theorem fn.i102 : Fnc Try.prog 102 := ⟨fun w args => by kernel_rfl⟩
attribute [instance] fn.i102
theorem fn.i103 : Fnc Try.prog 103 := ⟨fun w args => by kernel_rfl⟩
attribute [instance] fn.i103
theorem fn.i104 : Fnc Try.prog 104 := ⟨fun w args => by kernel_rfl⟩
attribute [instance] fn.i104
theorem fn.i105 : Fnc Try.prog 105 := ⟨fun w args => by kernel_rfl⟩
attribute [instance] fn.i105
theorem fn.i106 : Fnc Try.prog 106 := ⟨fun w args => by kernel_rfl⟩
attribute [instance] fn.i106
theorem fn.i107 : Fnc Try.prog 107 := ⟨fun w args => by kernel_rfl⟩
attribute [instance] fn.i107
theorem fn.i108 : Fnc Try.prog 108 := ⟨fun w args => by kernel_rfl⟩
attribute [instance] fn.i108
theorem fn.i109 : Fnc Try.prog 109 := ⟨fun w args => by kernel_rfl⟩
attribute [instance] fn.i109
theorem fn.i110 : Fnc Try.prog 110 := ⟨fun w args => by kernel_rfl⟩
attribute [instance] fn.i110
theorem mixed : Try.prog.follows .mixedOrders = true := by kernel_rfl
end Go.Proofs.Ytnoipmimddoioaa
/-
  What an argument reads as, opened; and a law's row: a call that turns no old block leaves every argument as it was.
-/
namespace Go.Proofs.Ytnoipmimddoioaa
open Go.ChangeShapes Go.WideShapes Go.ChangeAt Go.RowKit
set_option linter.unusedVariables false

section
variable {H : Type} {enc : TypeId × Value → H} {P : Program}

theorem Kp.below {w w' : World} (h : Kp [] w w') : Below w.heap.size w w' := ⟨h.os, h.tape, h.output, h.size, fun k hk => h.blk k hk (by simp)⟩
theorem Kp.kept {w w' : World} (h : Kp [] w w') (may : MemPlace → Prop) : w.keptBut w' may := by
  refine ⟨h.os, h.output, fun i hi => ?_⟩
  rw [h.blk i hi (by simp)]
  cases hh : w.heap[i]? with
  | none => rfl
  | some o =>
    cases o <;> simp

theorem row_of_cells {w : World} {a : Addr} {n : Nat} {cs : List Value} (h : w.cells? 0 a n = some cs) (hn : 0 < n) : ∃ b off, a = ⟨b, off, none⟩ ∧ Row w b off cs ∧ cs.length = n := by
  obtain ⟨hb, hl, hc⟩ := World.cells?_some h
  obtain ⟨b, off, spot⟩ := a
  have hv0 : cs[0]? = some (cs[0]'(by omega)) := by simp
  have hs : spot = none := by
    have := hc 0 hn
    rw [hv0] at this
    simpa [Addr.add] using World.cell?_spot this
  subst hs
  refine ⟨b, off, rfl, ?_, hl⟩
  have key : ∀ i v, cs[i]? = some v → ∃ c T f, w.heap[b]? = some (.cells c T f) ∧ c[off + i]? = some v := by
    intro i v hv
    have hi : i < n := by rw [← hl]; exact (List.getElem?_eq_some_iff.1 hv).1
    have := hc i hi
    rw [hv, add_none] at this
    unfold World.cell? at this
    split at this
    · rename_i c T f hh
      exact ⟨c, T, f, hh, by simpa using this⟩
    · cases this
  obtain ⟨c, T, f, hh, _⟩ := key 0 _ hv0
  refine ⟨c, T, f, hh, fun i v hv => ?_⟩
  obtain ⟨c', T', f', hh', h3⟩ := key i v hv
  rw [hh] at hh'
  cases hh'
  exact h3

theorem byte_of {n : Int} (h : (Lit.int .u8 n).wf = true) : ∃ u : UInt8, n = (u.toNat : Int) := by
  have : 0 ≤ n ∧ n ≤ 255 := by simpa [Lit.wf, IntKind.min, IntKind.max, IntKind.signed, IntKind.bits] using h
  refine ⟨UInt8.ofNat n.toNat, ?_⟩
  have h2 : (UInt8.ofNat n.toNat).toNat = n.toNat := by
    rw [UInt8.toNat_ofNat']; omega
  rw [h2]; omega
theorem i64_of {n : Int} (h : (Lit.int .i64 n).wf = true) : -9223372036854775808 ≤ n ∧ n ≤ 9223372036854775807 := by
  simpa [Lit.wf, IntKind.min, IntKind.max, IntKind.signed, IntKind.bits] using h

/-- A slice, whatever its elements read as: each has its row of cells, which reads. -/
structure SlOf (enc : TypeId × Value → H) (P : Program) (w : World) (e : TypeId) (a : Option Addr) (n : Nat) : Prop where
  row : ∀ i, i < n → ∃ b off cs fuel y, a = some ⟨b, off, none⟩ ∧ Row w b (off + i * P.cellsOf e) cs ∧ cs.length = P.cellsOf e ∧ DataW.trod enc P w 0 (fun _ => true) true fuel e cs = some y
theorem open_sl {w : World} {t e : TypeId} {v : Value} {d : DataW H} {ps : List MemPlace} {b0 : Nat} (ht : P.underlying t = some (.slice e)) (he : 0 < P.cellsOf e)
    (hval : Value.okWide P w .any b0 t v) (h : DataW.Trod enc P w 0 (fun _ => true) true t v d ps) :
    ∃ a n c, v = .slice a n c ∧ n ≤ c ∧ c ≤ maxLen ∧ SlOf enc P w e a n := by
  obtain ⟨fuel, hf⟩ := h
  obtain ⟨a', n', c', rfl⟩ := okWide_slice ht hval
  rcases Go.Deep.open_slice ht hf with ⟨hc, _⟩ | ⟨a, len, cap, m, n, D, Pl, hc, _, hl, hm, hmm, _, hall⟩
  · simp [Value.cells] at hc
    obtain ⟨rfl, rfl, rfl⟩ := hc
    exact ⟨none, 0, 0, rfl, by omega, by omega, ⟨fun i hi => by omega⟩⟩
  · simp [Value.cells] at hc
    obtain ⟨rfl, rfl, rfl⟩ := hc
    have hmc : m = c' := by rw [hmm]; simp
    refine ⟨some a, n', c', rfl, hl, hm, ⟨fun i hi => ?_⟩⟩
    obtain ⟨cs0, h10, _⟩ := hall 0 (by omega)
    obtain ⟨b, off, ha, _, _⟩ := row_of_cells h10 he
    have ha' : a = ⟨b, off, none⟩ := by simpa [Addr.add] using ha
    subst ha'
    obtain ⟨cs, h1, h2⟩ := hall i (by omega)
    rw [add_none] at h1
    obtain ⟨b2, off2, hb2, hr, hlen⟩ := row_of_cells h1 he
    simp only [Addr.mk.injEq] at hb2
    obtain ⟨rfl, rfl, _⟩ := hb2
    exact ⟨b, off, cs, _, _, rfl, hr, hlen, h2⟩

/-- An element of two bytes. -/
theorem two_bytes {w : World} {e : TypeId} {f0 f1 : Field} {cs : List Value} {fuel : Nat} {y : DataW H × List MemPlace} (he : P.underlying e = some (.struct #[f0, f1])) (h0 : P.underlying f0.type = some (.int .u8)) (h1 : P.underlying f1.type = some (.int .u8))
    (o0 : f0.offset = 0) (o1 : f1.offset = 1) (c0 : P.cellsOf f0.type = 1) (c1 : P.cellsOf f1.type = 1) (ce : P.cellsOf e = 2) (h : DataW.trod enc P w 0 (fun _ => true) true fuel e cs = some y) : ∃ a b : UInt8, cs = [bv a, bv b] := by
  obtain ⟨y0, y1, n, _, hl, g0, g1⟩ := trod_struct2 he h
  rw [ce] at hl
  match cs, hl with
  | [x0, x1], _ =>
    rw [o0, c0] at g0
    rw [o1, c1] at g1
    obtain ⟨n0, e0, _, w0⟩ := DataW.trod_int h0 g0
    obtain ⟨n1, e1, _, w1⟩ := DataW.trod_int h1 g1
    simp at e0 e1
    obtain ⟨a, rfl⟩ := byte_of w0
    obtain ⟨b, rfl⟩ := byte_of w1
    exact ⟨a, b, by rw [e0, e1]⟩
theorem one_byte {w : World} {e : TypeId} {cs : List Value} {fuel : Nat} {y : DataW H × List MemPlace} (he : P.underlying e = some (.int .u8)) (h : DataW.trod enc P w 0 (fun _ => true) true fuel e cs = some y) : ∃ a : UInt8, cs = [bv a] := by
  obtain ⟨n0, e0, _, w0⟩ := DataW.trod_int he h
  obtain ⟨a, rfl⟩ := byte_of w0
  exact ⟨a, e0⟩

theorem all_bytes : ∀ {cs : List Value}, (∀ x ∈ cs, ∃ u : UInt8, x = bv u) → ∃ l : List UInt8, cs = l.map bv
  | [], _ => ⟨[], rfl⟩
  | x :: cs, h => by
    obtain ⟨u, rfl⟩ := h x (by simp)
    obtain ⟨l, rfl⟩ := all_bytes (cs := cs) (fun y hy => h y (by simp [hy]))
    exact ⟨u :: l, rfl⟩
/-- An array of bytes. -/
theorem arr_bytes {w : World} {t e : TypeId} {n : Nat} {cs : List Value} {fuel : Nat} {y : DataW H × List MemPlace} (ht : P.underlying t = some (.array n e)) (he : P.underlying e = some (.int .u8)) (ce : P.cellsOf e = 1) (ct : P.cellsOf t = n) (h : DataW.trod enc P w 0 (fun _ => true) true fuel t cs = some y) : ∃ d : BA n, cs = dc d := by
  obtain ⟨xs, m, _, _, hl, hxl, hat⟩ := DataW.trod_array ht h
  rw [ct] at hl
  obtain ⟨l, hcs⟩ : ∃ l : List UInt8, cs = l.map bv := by
    refine all_bytes (fun x hx => ?_)
    obtain ⟨i, hi, rfl⟩ := List.mem_iff_getElem.1 hx
    have h1 := hat i (by omega)
    rw [ce, Nat.mul_one, List.drop_eq_getElem_cons hi, List.getElem?_eq_getElem (by omega)] at h1
    simp only [List.take_succ_cons, List.take_zero] at h1
    obtain ⟨u, hu⟩ := one_byte he h1
    exact ⟨u, by simpa using hu⟩
  subst hcs
  exact ⟨⟨l, by simpa using hl⟩, rfl⟩

theorem trodAll_stays (hl : laidOutB P = true) {W W' : World} {sp : Nat → Bool} (hb : Below W.heap.size W W') : ∀ {ts : List TypeId} {vs : List Value} {ds : List (DataW H)} {ps : List MemPlace}, (∀ t ∈ ts, P.readableRec t = true ∧ t < P.types.size) →
    (∀ p ∈ ps, p.block < W.heap.size) → (∀ p ∈ ps, sp p.block = true) → DataW.TrodAll enc P W 0 (fun _ => true) true ts vs ds ps → DataW.TrodAll enc P W' 0 sp true ts vs ds ps
  | [], [], [], ps, _, _, _, h => h
  | t :: ts, v :: vs, d :: ds, ps, ht, h1, h2, ⟨p, q, hp, hq, e⟩ => by
    subst e
    exact ⟨p, q, WideElems.Trod_stays hl (ht t (by simp)).1 (ht t (by simp)).2 hp (fun x hx => hb.same (h1 x (by simp [hx]))) (fun x hx => h2 x (by simp [hx])),
      trodAll_stays hl hb (fun t' h' => ht t' (by simp [h'])) (fun x hx => h1 x (by simp [hx])) (fun x hx => h2 x (by simp [hx])) hq, rfl⟩
  | [], _ :: _, _, _, _, _, _, h => by simp [DataW.TrodAll] at h
  | [], [], _ :: _, _, _, _, _, h => by simp [DataW.TrodAll] at h
  | _ :: _, [], _, _, _, _, _, h => by simp [DataW.TrodAll] at h
  | _ :: _, _ :: _, [], _, _, _, _, h => by simp [DataW.TrodAll] at h

/-- A law's row: it answered true and turned no old block. -/
theorem law_post {f : Func} {s : ChangeSpec} {fresh handsOn again : Bool} {W W' : World} {args : Array Value} {ds gs : List (DataW H)} {before : List MemPlace} {tb : TypeId} (hl : laidOutB P = true) (ht : ∀ t ∈ f.params.toList, P.readableRec t = true ∧ t < P.types.size)
    (hs : s.vars = []) (hW : DataW.Whole enc P f.params.toList s.vars false W args.toList ds gs before) (hfn : s.fn H ds = { results := [.lit (.bool true)], args := ds }) (hr : f.resultTypes = #[tb]) (hb : P.underlying tb = some .bool) (hk : Kp [] W W') :
    s.post enc P f false fresh handsOn again W args (.bool true) W' := by
  have hlt := hW.lt
  have hW' := hW
  obtain ⟨p, q, hA, hV, rfl, hfz, hnd⟩ := hW
  have hV' := hV
  rw [hs] at hV
  obtain ⟨rfl, rfl⟩ := trodVars_none hV
  simp only [List.append_nil] at hlt hW'
  have hd : s.fn H (ds ++ []) = { results := [.lit (.bool true)], args := ds } := by rw [List.append_nil]; exact hfn
  have hargs : ∀ sp : Nat → Bool, (∀ p' ∈ p, sp p'.block = true) → DataW.TrodAll enc P W' 0 sp true f.params.toList args.toList (s.fn H (ds ++ [])).args p := fun sp hsp => by
    rw [hd]
    exact trodAll_stays hl hk.below ht hlt hsp hA
  have hres : ∀ (b : Nat) (sp : Nat → Bool) (h : Bool), DataW.TrodAll enc P W' b sp h f.resultTypes.toList ((Value.bool true).resultList f.resultTypes.size) (s.fn H (ds ++ [])).results [] := fun _ _ _ => by
    rw [hd, hr]
    exact trodAll_mk1 (shut_bool hb _)
  have hvars : ∀ sp : Nat → Bool, DataW.TrodVars enc P W' sp s.vars (s.fn H (ds ++ [])).vars [] := fun _ => by
    rw [hd, hs]
    exact rfl
  have hin : ∀ p' ∈ p, decide (p'.block < W.heap.size) = true := fun p' hp => decide_eq_true (hlt p' hp)
  refine ⟨ds, [], p, [], p, [], hW', hres _ _ _, hargs (fun b => decide (b < W.heap.size)) hin, hvars _, World.keptBut_mono (fun p' hp => ⟨hp, Or.inr (Or.inl hp)⟩) (hk.kept _), fun _ => ⟨ok_one hr rfl (okWide_bool_mk hb _), _, _, p, ⟨p, [], trodAll_append (hargs _ (fun _ _ => rfl)) (hres _ _ _), hvars _, by simp, ?_, ?_⟩, fun p' hp _ => hp⟩⟩
  · intro b off hp
    rw [hk.fz _ (hlt _ hp)]
    exact hfz b off (List.mem_append_left _ hp)
  · intro ha
    exact absurd ha (by simp)
end
end Go.Proofs.Ytnoipmimddoioaa
/-
  Unsigned numbers of 64 bits: sums, bits, shifts; the number of bytes, and the bytes of a number.
-/
namespace Go.Proofs.Ytnoipmimddoioaa
set_option linter.unusedVariables false

def addI (a b : Int) : Int := IntKind.wrap .u64 (a + b)
def mulI (a b : Int) : Int := IntKind.wrap .u64 (a * b)
def xorI (a b : Int) : Int := IntKind.wrap .u64 ((BitVec.ofInt 64 a ^^^ BitVec.ofInt 64 b).toNat : Int)
def orI (a b : Int) : Int := IntKind.wrap .u64 ((BitVec.ofInt 64 a ||| BitVec.ofInt 64 b).toNat : Int)
def andI (a b : Int) : Int := IntKind.wrap .u64 ((BitVec.ofInt 64 a &&& BitVec.ofInt 64 b).toNat : Int)
def or8 (a b : Int) : Int := IntKind.wrap .u8 ((BitVec.ofInt 8 a ||| BitVec.ofInt 8 b).toNat : Int)
def shlI (a b : Int) : Int := IntKind.wrap .u64 (a * 2 ^ (min b.toNat 64))
def shrI (a b : Int) : Int := a.fdiv (2 ^ (min b.toNat 64))

section
variable {P : Program} {S : List Nat} {w0 : World} {F : World → Prop} {L : Env} {d : Option Nat} {ty : TypeId} {pos : String} {af : Array Edge} {g : Option (Nat × Bool)}
theorem quad {T T' : TypeId} [u : Ut P T (.int .u64)] {x y : Operand} {a b : Int} (hx : ro L x = some (.int .u64 a)) (hy : ro L y = some (.int .u64 b)) : Vals P S w0 F L ⟨d, .binOp .add T x y T', ty, pos, af, g⟩ (.int .u64 (addI a b)) := fun w _ _ => by
  simp only [execOp, rho_of hx, rho_of hy, eqGuard, binOp, Op.intArith, Sem.run_bind, Sem.run_pure, Result.andThen, addI]; rfl
theorem quml {T T' : TypeId} [u : Ut P T (.int .u64)] {x y : Operand} {a b : Int} (hx : ro L x = some (.int .u64 a)) (hy : ro L y = some (.int .u64 b)) : Vals P S w0 F L ⟨d, .binOp .mul T x y T', ty, pos, af, g⟩ (.int .u64 (mulI a b)) := fun w _ _ => by
  simp only [execOp, rho_of hx, rho_of hy, eqGuard, binOp, Op.intArith, Sem.run_bind, Sem.run_pure, Result.andThen, mulI]; rfl
theorem quxo {T T' : TypeId} [u : Ut P T (.int .u64)] {x y : Operand} {a b : Int} (hx : ro L x = some (.int .u64 a)) (hy : ro L y = some (.int .u64 b)) : Vals P S w0 F L ⟨d, .binOp .xor T x y T', ty, pos, af, g⟩ (.int .u64 (xorI a b)) := fun w _ _ => by
  simp only [execOp, rho_of hx, rho_of hy, eqGuard, binOp, Op.intBits, Sem.run_bind, Sem.run_pure, Result.andThen, xorI]; rfl
theorem quor {T T' : TypeId} [u : Ut P T (.int .u64)] {x y : Operand} {a b : Int} (hx : ro L x = some (.int .u64 a)) (hy : ro L y = some (.int .u64 b)) : Vals P S w0 F L ⟨d, .binOp .or T x y T', ty, pos, af, g⟩ (.int .u64 (orI a b)) := fun w _ _ => by
  simp only [execOp, rho_of hx, rho_of hy, eqGuard, binOp, Op.intBits, Sem.run_bind, Sem.run_pure, Result.andThen, orI]; rfl
theorem quo8 {T T' : TypeId} [u : Ut P T (.int .u8)] {x y : Operand} {a b : Int} (hx : ro L x = some (.int .u8 a)) (hy : ro L y = some (.int .u8 b)) : Vals P S w0 F L ⟨d, .binOp .or T x y T', ty, pos, af, g⟩ (.int .u8 (or8 a b)) := fun w _ _ => by
  simp only [execOp, rho_of hx, rho_of hy, eqGuard, binOp, Op.intBits, Sem.run_bind, Sem.run_pure, Result.andThen, or8]; rfl
theorem quan {T T' : TypeId} [u : Ut P T (.int .u64)] {x y : Operand} {a b : Int} (hx : ro L x = some (.int .u64 a)) (hy : ro L y = some (.int .u64 b)) : Vals P S w0 F L ⟨d, .binOp .and T x y T', ty, pos, af, g⟩ (.int .u64 (andI a b)) := fun w _ _ => by
  simp only [execOp, rho_of hx, rho_of hy, eqGuard, binOp, Op.intBits, Sem.run_bind, Sem.run_pure, Result.andThen, andI]; rfl
theorem qush {T T' : TypeId} [u : Ut P T (.int .u64)] {x y : Operand} {k : IntKind} {a b : Int} (hx : ro L x = some (.int .u64 a)) (hy : ro L y = some (.int k b)) (h : Ar (0 ≤ b)) : Vals P S w0 F L ⟨d, .binOp .shl T x y T', ty, pos, af, g⟩ (.int .u64 (shlI a b)) := fun w _ _ => by
  have h0 : ¬ b < 0 := by have := h.h; omega
  simp only [execOp, rho_of hx, rho_of hy, eqGuard, binOp, Op.shift, if_neg h0, Sem.run_bind, Sem.run_pure, Result.andThen, shlI]; rfl
theorem qusr {T T' : TypeId} [u : Ut P T (.int .u64)] {x y : Operand} {k : IntKind} {a b : Int} (hx : ro L x = some (.int .u64 a)) (hy : ro L y = some (.int k b)) (h : Ar (0 ≤ b)) : Vals P S w0 F L ⟨d, .binOp .shr T x y T', ty, pos, af, g⟩ (.int .u64 (shrI a b)) := fun w _ _ => by
  have h0 : ¬ b < 0 := by have := h.h; omega
  simp only [execOp, rho_of hx, rho_of hy, eqGuard, binOp, Op.shift, if_neg h0, Sem.run_bind, Sem.run_pure, Result.andThen, shrI]; rfl
/-- A product of ints. -/
theorem qmi {T T' : TypeId} [u : Ut P T (.int .i64)] {x y : Operand} {a b : Int} (hx : ro L x = some (.int .i64 a)) (hy : ro L y = some (.int .i64 b)) (h : Ar (-9223372036854775808 ≤ a * b ∧ a * b ≤ 9223372036854775807)) : Vals P S w0 F L ⟨d, .binOp .mul T x y T', ty, pos, af, g⟩ (.int .i64 (a * b)) := fun w _ _ => by
  have e : IntKind.wrap .i64 (a * b) = a * b := by
    have h1 := h.h
    generalize a * b = c at *
    simp only [IntKind.wrap, IntKind.signed, IntKind.bits]
    simp
    omega
  simp only [execOp, rho_of hx, rho_of hy, eqGuard, binOp, Op.intArith, Sem.run_bind, Sem.run_pure, Result.andThen, e]; rfl
/-- 'n / k', 'n % k' of an int that isn't below nothing. -/
theorem qqi {T T' : TypeId} [u : Ut P T (.int .i64)] {x y : Operand} {a b : Int} (hx : ro L x = some (.int .i64 a)) (hy : ro L y = some (.int .i64 b)) (h : Ar (0 ≤ a ∧ a ≤ 9223372036854775807 ∧ 0 < b)) : Vals P S w0 F L ⟨d, .binOp .quo T x y T', ty, pos, af, g⟩ (.int .i64 (a / b)) := fun w _ _ => by
  obtain ⟨h0, h1, h2⟩ := h.h
  have e : IntKind.wrap .i64 (a.tdiv b) = a / b := by
    rw [Int.tdiv_eq_ediv_of_nonneg h0]
    have h3 : a / b ≤ a := Int.ediv_le_self b h0
    have h4 : 0 ≤ a / b := Int.ediv_nonneg h0 (by omega)
    generalize a / b = c at *
    simp only [IntKind.wrap, IntKind.signed, IntKind.bits]
    simp
    omega
  have hb : b ≠ 0 := by omega
  simp only [execOp, rho_of hx, rho_of hy, eqGuard, binOp, Op.intDiv, if_neg hb, Sem.run_bind, Sem.run_pure, Result.andThen, e]; rfl
theorem qri {T T' : TypeId} [u : Ut P T (.int .i64)] {x y : Operand} {a b : Int} (hx : ro L x = some (.int .i64 a)) (hy : ro L y = some (.int .i64 b)) (h : Ar (0 ≤ a ∧ 0 < b)) : Vals P S w0 F L ⟨d, .binOp .rem T x y T', ty, pos, af, g⟩ (.int .i64 (a % b)) := fun w _ _ => by
  obtain ⟨h0, h2⟩ := h.h
  have hb : b ≠ 0 := by omega
  simp only [execOp, rho_of hx, rho_of hy, eqGuard, binOp, Op.intDiv, if_neg hb, Sem.run_bind, Sem.run_pure, Result.andThen, Int.tmod_eq_emod_of_nonneg h0]; rfl
theorem qqu {T T' : TypeId} [u : Ut P T (.int .u64)] {x y : Operand} {a b : Int} (hx : ro L x = some (.int .u64 a)) (hy : ro L y = some (.int .u64 b)) (h : Ar (0 ≤ a ∧ a < 18446744073709551616 ∧ 0 < b)) : Vals P S w0 F L ⟨d, .binOp .quo T x y T', ty, pos, af, g⟩ (.int .u64 (a / b)) := fun w _ _ => by
  obtain ⟨h0, h1, h2⟩ := h.h
  have e : IntKind.wrap .u64 (a.tdiv b) = a / b := by
    rw [Int.tdiv_eq_ediv_of_nonneg h0]
    have h3 : a / b ≤ a := Int.ediv_le_self b h0
    have h4 : 0 ≤ a / b := Int.ediv_nonneg h0 (by omega)
    generalize a / b = c at *
    simp only [IntKind.wrap, IntKind.signed, IntKind.bits]
    simp
    omega
  have hb : b ≠ 0 := by omega
  simp only [execOp, rho_of hx, rho_of hy, eqGuard, binOp, Op.intDiv, if_neg hb, Sem.run_bind, Sem.run_pure, Result.andThen, e]; rfl
theorem qru {T T' : TypeId} [u : Ut P T (.int .u64)] {x y : Operand} {a b : Int} (hx : ro L x = some (.int .u64 a)) (hy : ro L y = some (.int .u64 b)) (h : Ar (0 ≤ a ∧ 0 < b)) : Vals P S w0 F L ⟨d, .binOp .rem T x y T', ty, pos, af, g⟩ (.int .u64 (a % b)) := fun w _ _ => by
  obtain ⟨h0, h2⟩ := h.h
  have hb : b ≠ 0 := by omega
  simp only [execOp, rho_of hx, rho_of hy, eqGuard, binOp, Op.intDiv, if_neg hb, Sem.run_bind, Sem.run_pure, Result.andThen, Int.tmod_eq_emod_of_nonneg h0]; rfl
theorem qusb {T T' : TypeId} [u : Ut P T (.int .u64)] {x y : Operand} {a b : Int} (hx : ro L x = some (.int .u64 a)) (hy : ro L y = some (.int .u64 b)) (h : Ar (0 ≤ a - b ∧ a - b < 18446744073709551616)) : Vals P S w0 F L ⟨d, .binOp .sub T x y T', ty, pos, af, g⟩ (.int .u64 (a - b)) := fun w _ _ => by
  have e : IntKind.wrap .u64 (a - b) = a - b := by
    have h1 := h.h
    generalize a - b = c at *
    simp only [IntKind.wrap, IntKind.signed, IntKind.bits]
    simp
    omega
  simp only [execOp, rho_of hx, rho_of hy, eqGuard, binOp, Op.intArith, Sem.run_bind, Sem.run_pure, Result.andThen, e]; rfl
/-- An array's element. -/
theorem qid {T E : TypeId} {n : Nat} [u : Ut P T (.array n E)] [s : Sz P E 1] [c : CelT P E] {x y : Operand} {k : IntKind} {z : Int} {j : Nat} {l : List Value} {v : Value} (hx : ro L x = some (.agg l.toArray)) (hy : ro L y = some (.int k z)) (hz : z = (j : Int)) (h1 : Ar (j < n)) (hv : l[j]? = some v) :
    Vals P S w0 F L ⟨d, .index T x y, ty, pos, af, g⟩ v := fun w _ _ => by
  obtain ⟨i, h2, h3⟩ := s.eq
  obtain ⟨dsc, h4, h5⟩ := c.eq
  subst hz
  have h6 : (0 : Int) ≤ (j : Int) ∧ (j : Int) < (n : Int) := ⟨by omega, by have := h1.h; omega⟩
  simp [execOp, rho_of hx, rho_of hy, Instr.index, asIntOf, run_underlying u.eq, h6, sizeOf, typeInfo, h2, h3, part, run_isAgg (u := ⟨h4⟩), h5, hv]
  intro h7
  have := h1.h
  omega
/-- A byte as a number of 64 bits; a number as a byte. -/
theorem qb64 {T T' : TypeId} [u : Ut P T (.int .u8)] [u' : Ut P T' (.int .u64)] {x : Operand} {a : UInt8} (hx : ro L x = some (bv a)) : Vals P S w0 F L ⟨d, .convert T T' x, ty, pos, af, g⟩ (.int .u64 (a.toNat : Int)) := by
  have h := qcv (P := P) (S := S) (w0 := w0) (F := F) (d := d) (ty := ty) (pos := pos) (af := af) (g := g) (T := T) (T' := T') (k' := .u64) hx
  have e : IntKind.wrap .u64 (a.toNat : Int) = (a.toNat : Int) := by
    have : a.toNat < 256 := a.toNat_lt
    simp only [IntKind.wrap, IntKind.signed, IntKind.bits]
    simp
    omega
  rwa [e] at h
def toB (z : Int) : UInt8 := UInt8.ofNat (z % 256).toNat
theorem toB_nat (n : Nat) : toB (n : Int) = UInt8.ofNat n := by
  unfold toB
  apply UInt8.toNat.inj
  rw [UInt8.toNat_ofNat', UInt8.toNat_ofNat']
  omega
theorem wrap8 (z : Int) : IntKind.wrap .u8 z = ((toB z).toNat : Int) := by
  unfold toB
  rw [UInt8.toNat_ofNat']
  simp only [IntKind.wrap, IntKind.signed, IntKind.bits]
  simp
  omega
theorem q64b {T T' : TypeId} {k : IntKind} [u : Ut P T (.int k)] [u' : Ut P T' (.int .u8)] {x : Operand} {a : Int} (hx : ro L x = some (.int k a)) : Vals P S w0 F L ⟨d, .convert T T' x, ty, pos, af, g⟩ (bv (toB a)) := by
  have h := qcv (P := P) (S := S) (w0 := w0) (F := F) (d := d) (ty := ty) (pos := pos) (af := af) (g := g) (T := T) (T' := T') (k' := .u8) hx
  rwa [wrap8] at h
/-- A length as a number of 64 bits. -/
theorem qi64 {T T' : TypeId} [u : Ut P T (.int .i64)] [u' : Ut P T' (.int .u64)] {x : Operand} {a : Nat} (hx : ro L x = some (.int .i64 (a : Int))) (h : Ar (a < 9223372036854775808)) : Vals P S w0 F L ⟨d, .convert T T' x, ty, pos, af, g⟩ (.int .u64 (a : Int)) := by
  have h1 := qcv (P := P) (S := S) (w0 := w0) (F := F) (d := d) (ty := ty) (pos := pos) (af := af) (g := g) (T := T) (T' := T') (k' := .u64) hx
  have e : IntKind.wrap .u64 (a : Int) = (a : Int) := by
    have := h.h
    simp only [IntKind.wrap, IntKind.signed, IntKind.bits]
    simp
    omega
  rwa [e] at h1
end

/-! ### bounds, and what the operations are on numbers -/
theorem wrap64_nat {n : Nat} (h : n < 18446744073709551616) : IntKind.wrap .u64 (n : Int) = (n : Int) := by
  simp only [IntKind.wrap, IntKind.signed, IntKind.bits]
  simp
  omega
theorem wrap64_bd (z : Int) : 0 ≤ IntKind.wrap .u64 z ∧ IntKind.wrap .u64 z < 18446744073709551616 := by
  simp only [IntKind.wrap, IntKind.signed, IntKind.bits]
  simp
  omega
theorem xorI_bd (a b : Int) : 0 ≤ xorI a b ∧ xorI a b < 18446744073709551616 := wrap64_bd _
/-- A number that is not below nothing and fits. -/
theorem xorI_nat (a b : Int) : ∃ n : Nat, xorI a b = (n : Int) ∧ n < 18446744073709551616 := by
  have := xorI_bd a b
  exact ⟨(xorI a b).toNat, by omega, by omega⟩
theorem orI_nat {a c i : Nat} (ha : a < 2 ^ i) (hc : a + c * 2 ^ i < 18446744073709551616) : orI (a : Int) ((c * 2 ^ i : Nat) : Int) = ((a + c * 2 ^ i : Nat) : Int) := by
  unfold orI
  have h2 : (BitVec.ofInt 64 (a : Int) ||| BitVec.ofInt 64 ((c * 2 ^ i : Nat) : Int)).toNat = a + c * 2 ^ i := by
    rw [BitVec.toNat_or, BitVec.ofInt_natCast, BitVec.ofInt_natCast, BitVec.toNat_ofNat, BitVec.toNat_ofNat, Nat.mod_eq_of_lt (by omega), Nat.mod_eq_of_lt (by omega)]
    have := Nat.two_pow_add_eq_or_of_lt ha c
    rw [Nat.mul_comm c, Nat.or_comm, ← this]
    omega
  rw [h2, wrap64_nat hc]
theorem shlI_nat {a i : Nat} (h : a * 2 ^ i < 18446744073709551616) (hi : i ≤ 64) : shlI (a : Int) (i : Int) = ((a * 2 ^ i : Nat) : Int) := by
  unfold shlI
  rw [Int.toNat_natCast, Nat.min_eq_left hi]
  have : (a : Int) * 2 ^ i = ((a * 2 ^ i : Nat) : Int) := by simp
  rw [this, wrap64_nat h]
theorem shrI_nat {a i : Nat} (hi : i ≤ 64) : shrI (a : Int) (i : Int) = ((a / 2 ^ i : Nat) : Int) := by
  unfold shrI
  rw [Int.toNat_natCast, Nat.min_eq_left hi]
  have : ((2 : Int) ^ i) = ((2 ^ i : Nat) : Int) := by simp
  rw [this, Int.fdiv_eq_ediv_of_nonneg _ (Int.natCast_nonneg _)]
  rfl
theorem addmul_nat {a b : Nat} (h : a * 256 + b < 18446744073709551616) : addI (mulI (a : Int) 256) (b : Int) = ((a * 256 + b : Nat) : Int) := by
  unfold addI mulI
  have e : (a : Int) * 256 = ((a * 256 : Nat) : Int) := by omega
  have e2 : ((a * 256 : Nat) : Int) + (b : Int) = ((a * 256 + b : Nat) : Int) := by omega
  have h1 : a * 256 < 18446744073709551616 := Nat.lt_of_le_of_lt (Nat.le_add_right _ _) h
  rw [e, wrap64_nat h1, e2, wrap64_nat h]

/-! ### the number of bytes -/
def val : List UInt8 → Nat
  | [] => 0
  | b :: l => b.toNat + 256 * val l
theorem val_lt : ∀ l : List UInt8, val l < 256 ^ l.length
  | [] => by simp [val]
  | b :: l => by
    have h := val_lt l
    have hb : b.toNat < 256 := b.toNat_lt
    simp only [val, List.length_cons, Nat.pow_succ]
    omega
theorem val_append : ∀ (a b : List UInt8), val (a ++ b) = val a + 256 ^ a.length * val b
  | [], b => by simp [val]
  | x :: a, b => by
    simp only [List.cons_append, val, List.length_cons, Nat.pow_succ]
    rw [val_append a b, Nat.mul_add, ← Nat.mul_assoc, Nat.mul_comm (256 ^ a.length) 256]
    omega
theorem val_inj : ∀ {a b : List UInt8}, a.length = b.length → val a = val b → a = b
  | [], [], _, _ => rfl
  | [], _ :: _, h, _ => by simp at h
  | _ :: _, [], h, _ => by simp at h
  | x :: a, y :: b, h, e => by
    have hx : x.toNat < 256 := x.toNat_lt
    have hy : y.toNat < 256 := y.toNat_lt
    simp only [val] at e
    have e1 : x.toNat = y.toNat := by omega
    have e2 : val a = val b := by omega
    rw [UInt8.toNat.inj e1, val_inj (by simpa using h) e2]
theorem val_snoc {l : List UInt8} {i : Nat} (h : i < l.length) : val (l.take (i + 1)) = val (l.take i) + l[i].toNat * 2 ^ (8 * i) := by
  rw [List.take_succ_eq_append_getElem h, val_append]
  have : (l.take i).length = i := by simp; omega
  rw [this]
  have e : (256 : Nat) ^ i = 2 ^ (8 * i) := by rw [Nat.pow_mul]
  simp only [val, Nat.mul_zero, Nat.add_zero]
  rw [e, Nat.mul_comm]
theorem val_drop {l : List UInt8} {i : Nat} (h : i < l.length) : val (l.drop i) = val (l.drop (i + 1)) * 256 + l[i].toNat := by
  rw [List.drop_eq_getElem_cons h]
  simp only [val]
  omega
/-- The bytes of a number. -/
def byL (n : Nat) : Nat → List UInt8
  | 0 => []
  | k + 1 => UInt8.ofNat n :: byL (n / 256) k
theorem byL_length (n k : Nat) : (byL n k).length = k := by
  induction k generalizing n with
  | zero => rfl
  | succ k ih => simp [byL, ih]
theorem byL_get (k : Nat) : ∀ (n i : Nat), i < k → (byL n k)[i]? = some (UInt8.ofNat (n / 2 ^ (8 * i))) := by
  induction k with
  | zero => intro n i h; omega
  | succ k ih =>
    intro n i h
    cases i with
    | zero => simp [byL]
    | succ i =>
      simp only [byL, List.getElem?_cons_succ]
      rw [ih _ _ (by omega)]
      have : (2 : Nat) ^ (8 * (i + 1)) = 256 * 2 ^ (8 * i) := by
        rw [show 8 * (i + 1) = 8 + 8 * i from by omega, Nat.pow_add]
      rw [this, Nat.div_div_eq_div_mul]
theorem byL_val : ∀ (l : List UInt8), byL (val l) l.length = l
  | [] => rfl
  | b :: l => by
    have hb : b.toNat < 256 := b.toNat_lt
    simp only [val, List.length_cons, byL]
    have e1 : (b.toNat + 256 * val l) / 256 = val l := by omega
    rw [e1, byL_val l]
    congr 1
    apply UInt8.toNat.inj
    rw [UInt8.toNat_ofNat']
    omega

/-! ### digests -/
abbrev Dg := BA 8
def num (d : Dg) : Nat := val d.1
def frm (n : Nat) : Dg := ⟨byL n 8, byL_length n 8⟩
theorem num_lt (d : Dg) : num d < 18446744073709551616 := by
  have := val_lt d.1
  rw [d.2] at this
  exact this
theorem num_inj {a b : Dg} (h : num a = num b) : a = b := Subtype.ext (val_inj (by rw [a.2, b.2]) h)
theorem frm_num (d : Dg) : frm (num d) = d := Subtype.ext (by
  have := byL_val d.1
  rw [d.2] at this
  exact this)

/-! ### the digest of things -/
/-- A state: four words. -/
structure Hs where
  a : Int
  b : Int
  c : Int
  d : Int
def rotI (x k : Int) : Int := orI (shlI x k) (shrI x (64 - k))
def roundI (s : Hs) (i : Int) : Hs :=
  let w0 := xorI (addI s.a s.b) i
  let w3 := rotI (xorI s.d w0) 32
  let w2 := addI s.c w3
  let w1 := rotI (xorI s.b w2) 24
  let w0 := addI w0 w1
  let w3 := rotI (xorI w3 w0) 16
  let w2 := addI w2 w3
  let w1 := rotI (xorI w1 w2) 63
  ⟨w0, w1, w2, w3⟩
def roundsI (s : Hs) : Nat → Hs
  | 0 => s
  | k + 1 => roundI (roundsI s k) ((k + 1 : Nat) : Int)
def stirI (s : Hs) : Hs := roundsI s 6
def takeI (s : Hs) (n : Int) : Hs := stirI ⟨xorI s.a n, s.b, s.c, s.d⟩
def beginI (k : Int) : Hs := ⟨2611923443488327891, 1376283091369227076, 11820040416388919760, k⟩
def givesI (s : Hs) : Dg := frm (xorI s.a s.c).toNat
/-- Bytes, padded to whole eights, eight by eight. -/
def eightsI (s : Hs) : List UInt8 → Nat → Hs
  | _, 0 => s
  | l, k + 1 => eightsI (takeI s (val (l.take 8) : Int)) (l.drop 8) k
def bytesI (s : Hs) (l : List UInt8) : Hs :=
  let s := eightsI s l (l.length / 8)
  let s := takeI s (val (l.drop (l.length / 8 * 8) ++ [1]) : Int)
  takeI s (l.length : Int)
def ofI (l : List UInt8) : Dg := givesI (bytesI (beginI 1) l)
def twoI (a b : Dg) : Dg := givesI (takeI (takeI (beginI 3) (num a : Int)) (num b : Int))
def oneI (a : Dg) : Dg := givesI (takeI (beginI 2) (num a : Int))
def manyS (s : Hs) : List Dg → Hs
  | [] => s
  | d :: l => manyS (takeI s (num d : Int)) l
def manyI (l : List Dg) : Dg := givesI (takeI (manyS (beginI 5) l) (l.length : Int))
theorem manyS_append (s : Hs) (a b : List Dg) : manyS s (a ++ b) = manyS (manyS s a) b := by
  induction a generalizing s with
  | nil => rfl
  | cons x a ih => simp [manyS, ih]

/-! ### a number's bytes -/
def putN : Nat → Nat → List UInt8
  | 0, n => [UInt8.ofNat n]
  | f + 1, n => if n < 128 then [UInt8.ofNat n] else UInt8.ofNat (128 + n % 128) :: putN f (n / 128)
/-- The bytes of a number of 64 bits (at most ten). -/
def putU (n : Nat) : List UInt8 := putN 10 n
theorem putN_len : ∀ f n, (putN f n).length ≤ f + 1
  | 0, n => by simp [putN]
  | f + 1, n => by
    unfold putN
    split
    · simp
    · have := putN_len f (n / 128)
      simp
      omega
theorem or8_nat {n : Nat} : or8 ((toB (n : Int)).toNat : Int) 128 = ((UInt8.ofNat (128 + n % 128)).toNat : Int) := by
  rw [toB_nat]
  have key : ∀ m : _root_.Fin 256, or8 (m.val : Int) 128 = ((128 + m.val % 128 : Nat) : Int) := by decide +kernel
  have h1 : (UInt8.ofNat n).toNat = n % 256 := UInt8.toNat_ofNat' ..
  rw [h1, UInt8.toNat_ofNat']
  have := key ⟨n % 256, Nat.mod_lt _ (by omega)⟩
  simp only at this
  rw [this]
  omega
end Go.Proofs.Ytnoipmimddoioaa
/-
  A map gone through, in whatever order; structs compared.
-/
namespace Go.Proofs.Ytnoipmimddoioaa
open Go.ChangeMaps (setBlock)
set_option linter.unusedVariables false

section
variable {κ ν : Type} {enc : κ → Value} {V : ν → Value} {m left : List (κ × ν)} {cur : Option (κ × ν)} {w w' : World} {b r : Nat} {P : Program} {k T E : TypeId}

def kv (e : MapEntry) : Value × Value := (e.key, e.val)
/-- In block r: how far the map in block b is gone through; left: what is still to come; cur: what came last. -/
def IterAt (w : World) (r b : Nat) (enc : κ → Value) (V : ν → Value) (m left : List (κ × ν)) (cur : Option (κ × ν)) : Prop :=
  ∃ es clock seen, Blk w b (.map es clock) ∧ MapKept.Stamped es clock ∧ es.toList.map kv = m.map (fun p => (enc p.1, V p.2)) ∧ Blk w r (.mapIter (some b) clock seen clock) ∧
    (es.toList.filter (fun e => !seen.contains e.born)).map kv = left.map (fun p => (enc p.1, V p.2)) ∧
    ∀ p, cur = some p → ∃ (e : MapEntry) (seen' : Array Nat), e ∈ es.toList ∧ seen = seen'.push e.born ∧ kv e = (enc p.1, V p.2)
theorem IterAt.kp {S : List Nat} (h : IterAt w r b enc V m left cur) (hk : Kp S w w') (hr : r ∉ S) (hb : b ∉ S) : IterAt w' r b enc V m left cur := by
  obtain ⟨es, c, seen, h1, h2, h3, h4, h5, h6⟩ := h
  exact ⟨es, c, seen, h1.kp hk hb, h2, h3, h4.kp hk hr, h5, h6⟩
theorem IterAt.kp0 (h : IterAt w r b enc V m left cur) (hk : Kp [] w w') : IterAt w' r b enc V m left cur := h.kp hk (by simp) (by simp)
theorem IterAt.map (h : IterAt w r b enc V m left cur) : MapIs w b enc V m := by
  obtain ⟨es, c, seen, h1, h2, h3, _⟩ := h
  exact ⟨es, c, h1, h2, h3⟩
theorem IterAt.ltr (h : IterAt w r b enc V m left cur) : r < w.heap.size := by
  obtain ⟨es, c, seen, h1, h2, h3, h4, _⟩ := h
  exact h4.lt
theorem IterAt.ltb (h : IterAt w r b enc V m left cur) : b < w.heap.size := h.map.lt

theorem split_map {α β γ : Type} {f : α → β} {g : γ → β} : ∀ {l1 : List α} {x : α} {l2 : List α} {l : List γ}, (l1 ++ x :: l2).map f = l.map g → ∃ pre p post, l = pre ++ p :: post ∧ l1.map f = pre.map g ∧ f x = g p ∧ l2.map f = post.map g
  | [], x, l2, l, h => by
    cases l with
    | nil => simp at h
    | cons p l =>
      simp only [List.nil_append, List.map_cons, List.cons.injEq] at h
      exact ⟨[], p, l, rfl, rfl, h.1, h.2⟩
  | y :: l1, x, l2, l, h => by
    cases l with
    | nil => simp at h
    | cons p l =>
      simp only [List.cons_append, List.map_cons, List.cons.injEq] at h
      obtain ⟨pre, q, post, h1, h2, h3, h4⟩ := split_map h.2
      exact ⟨p :: pre, q, post, by simp [h1], by simp [h.1, h2], h3, h4⟩

theorem filter_push {seen : Array Nat} {e : MapEntry} : ∀ {l : List MapEntry}, (l.map (·.born)).Nodup → ∀ {pre post : List MapEntry}, l.filter (fun x => !seen.contains x.born) = pre ++ e :: post → l.filter (fun x => !(seen.push e.born).contains x.born) = pre ++ post := by
  intro l hn pre post h
  have h1 : l.filter (fun x => !(seen.push e.born).contains x.born) = (l.filter (fun x => !seen.contains x.born)).filter (fun x => x.born != e.born) := by
    rw [List.filter_filter]
    congr 1
    funext x
    rw [Array.contains_push]
    cases seen.contains x.born <;> by_cases hb : x.born = e.born <;> simp [hb, bne]
  rw [h1, h, List.filter_append, List.filter_cons]
  have hn2 : ((pre ++ e :: post).map (·.born)).Nodup := by
    rw [← h]
    exact hn.sublist (List.filter_sublist.map _)
  rw [List.map_append, List.map_cons] at hn2
  have hd := List.nodup_append.1 hn2
  have hc := List.nodup_cons.1 hd.2.1
  have e1 : pre.filter (fun x => x.born != e.born) = pre := by
    rw [List.filter_eq_self]
    intro x hx
    have := hd.2.2 x.born (List.mem_map.2 ⟨x, hx, rfl⟩) e.born (by simp)
    simpa [bne] using this
  have e2 : post.filter (fun x => x.born != e.born) = post := by
    rw [List.filter_eq_self]
    intro x hx
    have : e.born ≠ x.born := fun he => hc.1 (he ▸ List.mem_map.2 ⟨x, hx, rfl⟩)
    simpa [bne] using fun he => this he.symm
  rw [e1, e2]
  simp

theorem run_range [u : Ut P T (.map k E)] (h : MapIs w b enc V m) : ∃ o', (Instr.range T (.map (some b))).run P w = .ok (.pointer (some ⟨w.heap.size, 0, none⟩)) { w with heap := w.heap.push o' } ∧ Obj.soft o' = true ∧ IterAt { w with heap := w.heap.push o' } w.heap.size b enc V m m none := by
  obtain ⟨es, c, h1, h2, h3⟩ := h
  have h1' : w.heap[b]? = some (.map es c) := h1
  refine ⟨.mapIter (some b) c #[] c, ?_, rfl, es, c, #[], ?_, h2, h3, Blk.push w _, ?_, fun p hp => by cases hp⟩
  · simp [Instr.range, run_underlying u.eq, MapKept.run_getObj_map h1', newObj, Sem.run, Result.andThen]
  · exact Blk.kp0 h1 (Kp.push w _ rfl)
  · rw [List.filter_eq_self.2 (by simp)]
    exact h3

theorem run_next (ty : TypeId) (h : IterAt w r b enc V m left cur) :
    (left = [] ∧ (Instr.next (.pointer (some ⟨r, 0, none⟩)) false ty).run P w = .ok (.tuple #[.bool false]) w) ∨
    ∃ pre p post w', left = pre ++ p :: post ∧ (Instr.next (.pointer (some ⟨r, 0, none⟩)) false ty).run P w = .ok (.tuple #[.bool true, enc p.1, V p.2]) w' ∧ Kp [r] w w' ∧ IterAt w' r b enc V m (pre ++ post) (some p) := by
  obtain ⟨es, c, seen, h1, h2, h3, h4, h5, h6⟩ := h
  have hs := (MapKept.stamped_iff es c).1 h2
  rcases run_next_at (P := P) w ty r b c c seen es c h4 h1 hs.1 (Nat.le_refl _) with ⟨g1, g2⟩ | ⟨e, g1, w1, g2, g3⟩
  · refine Or.inl ⟨?_, g2⟩
    have : es.toList.filter (fun e => !seen.contains e.born) = [] := by
      have : (leftOf es seen).toList = [] := by
        rw [← List.length_eq_zero_iff]; simpa using g1
      simpa [leftOf] using this
    rw [this] at h5
    simpa using h5.symm
  · have hm : e ∈ es.toList.filter (fun e => !seen.contains e.born) := by simpa [leftOf] using g1
    obtain ⟨l1, l2, hl⟩ := List.append_of_mem hm
    rw [hl] at h5
    obtain ⟨pre, p, post, k1, k2, k3, k4⟩ := split_map h5
    have hbr : b ≠ r := fun e' => by
      subst e'
      have := h1.uniq h4
      cases this
    have hw1 : w1.heap = w.heap := by rcases g2 with rfl | rfl <;> rfl
    have hk1 : Kp [r] w (setBlock w1 r (.mapIter (some b) c (seen.push e.born) c)) := by
      have a1 : Kp [r] w w1 := by
        rcases g2 with rfl | rfl
        · exact Kp.refl _ _
        · exact (Kp.refl [r] w).drew
      exact a1.trans (Kp.set w1 (b := r) (o := .mapIter (some b) c seen c) (by unfold Blk; rw [hw1]; exact h4) rfl rfl)
    have hB : Blk (setBlock w1 r (.mapIter (some b) c (seen.push e.born) c)) r (.mapIter (some b) c (seen.push e.born) c) := Blk.set (w := w1) (o := .mapIter (some b) c seen c) (by unfold Blk; rw [hw1]; exact h4) _
    have hkv : kv e = (enc p.1, V p.2) := k3
    have hkv' : e.key = enc p.1 ∧ e.val = V p.2 := by
      have := Prod.mk.inj hkv
      exact this
    refine Or.inr ⟨pre, p, post, _, k1, ?_, hk1, es, c, seen.push e.born, h1.kp hk1 (nm1 hbr), h2, h3, hB, ?_, fun q hq => ?_⟩
    · rw [g3, hkv'.1, hkv'.2]
    · rw [filter_push hs.2.1 hl, List.map_append, List.map_append, k2, k4]
    · cases hq
      exact ⟨e, seen, (List.mem_filter.1 hm).1, rfl, k3⟩

theorem run_entry {p : κ × ν} (h : IterAt w r b enc V m left (some p)) : (Instr.entry (.pointer (some ⟨r, 0, none⟩))).run P w = .ok (.tuple #[enc p.1, V p.2]) w := by
  obtain ⟨es, c, seen, h1, h2, h3, h4, h5, h6⟩ := h
  obtain ⟨e, seen', g1, rfl, g3⟩ := h6 p rfl
  have hs := (MapKept.stamped_iff es c).1 h2
  rw [run_entry_at (P := P) w r b c seen' es c e h4 h1 g1 hs.2.1]
  have := Prod.mk.inj g3
  rw [this.1, this.2]
end

section
variable {κ ν : Type} {enc : κ → Value} {V : ν → Value} {m left : List (κ × ν)} {cur : Option (κ × ν)} {b r : Nat} {P : Program} {k T E : TypeId}
  {n : Nat} {Q : Exit → Act → World → Prop} {L : Env} {w : World} {ops rest : List Oper} {d : Nat} {ty : TypeId} {pos : String} {af : Array Edge} {g : Option (Nat × Bool)} {x : Operand}
theorem SG.range [u : Ut P T (.map k E)] (hd : Nat.blt d n = true) (hw : want ops L ⟨some d, .range T x, ty, pos, af, g⟩ = some true) (hk : known L x = true) (hx : rho L x = .map (some b)) (hm : MapIs w b enc V m)
    (h : ∀ r w', Kp [] w w' → w.heap.size ≤ r → IterAt w' r b enc V m m none → SG P n ops Q rest ((d, .pointer (some ⟨r, 0, none⟩)) :: L) w') : SG P n ops Q (⟨some d, .range T x, ty, pos, af, g⟩ :: rest) L w := by
  refine SG.op (by simpa using hd) rfl hw (by simpa [Op.operands] using hk) ?_
  unfold OpRun
  obtain ⟨o', h1, h2, h3⟩ := run_range (P := P) (u := u) hm
  have : (execOp (rho L) ⟨some d, .range T x, ty, pos, af, g⟩).run P w = .ok (.value (.pointer (some ⟨w.heap.size, 0, none⟩))) { w with heap := w.heap.push o' } := by
    simp only [execOp, hx, Sem.run_bind, h1, Result.andThen, Sem.run_pure]
  rw [this]
  exact h _ _ (Kp.push w _ h2) (Nat.le_refl _) h3
theorem SG.next (hd : Nat.blt d n = true) (hw : want ops L ⟨some d, .next x false, ty, pos, af, g⟩ = some true) (hk : known L x = true) (hx : rho L x = .pointer (some ⟨r, 0, none⟩)) (hi : IterAt w r b enc V m left cur)
    (h0 : left = [] → SG P n ops Q rest ((d, .tuple #[.bool false]) :: L) w)
    (h1 : ∀ pre p post w', left = pre ++ p :: post → Kp [r] w w' → IterAt w' r b enc V m (pre ++ post) (some p) → SG P n ops Q rest ((d, .tuple #[.bool true, enc p.1, V p.2]) :: L) w') : SG P n ops Q (⟨some d, .next x false, ty, pos, af, g⟩ :: rest) L w := by
  refine SG.op (by simpa using hd) rfl hw (by simpa [Op.operands] using hk) ?_
  unfold OpRun
  rcases run_next (P := P) ty hi with ⟨g1, g2⟩ | ⟨pre, p, post, w', g1, g2, g3, g4⟩
  · have : (execOp (rho L) ⟨some d, .next x false, ty, pos, af, g⟩).run P w = .ok (.value (.tuple #[.bool false])) w := by
      simp only [execOp, hx, Sem.run_bind, g2, Result.andThen, Sem.run_pure]
    rw [this]
    exact h0 g1
  · have : (execOp (rho L) ⟨some d, .next x false, ty, pos, af, g⟩).run P w = .ok (.value (.tuple #[.bool true, enc p.1, V p.2])) w' := by
      simp only [execOp, hx, Sem.run_bind, g2, Result.andThen, Sem.run_pure]
    rw [this]
    exact h1 pre p post w' g1 g3 g4
theorem qen {S : List Nat} {w0 : World} {F : World → Prop} {d : Option Nat} {p : κ × ν} (hx : ro L x = some (.pointer (some ⟨r, 0, none⟩))) (hi : IterAt w0 r b enc V m left (some p)) (hr : r ∉ S) (hb : b ∉ S) : Vals P S w0 F L ⟨d, .entry x, ty, pos, af, g⟩ (.tuple #[enc p.1, V p.2]) := fun w hk _ => by
  simp only [execOp, rho_of hx, Sem.run_bind, run_entry (hi.kp hk hr hb), Result.andThen, Sem.run_pure]
end


section
variable {P : Program} {n : Nat} {Q : Exit → Act → World → Prop} {L : Env} {w : World} {ops : List Oper} {rest : List Oper} {ty : TypeId} {pos : String} {af : Array Edge} {g : Option (Nat × Bool)}
theorem run_makeMap1 {T k E : TypeId} [u : Ut P T (.map k E)] {q : IntKind} {z : Int} : (Instr.makeMap T (some (.int q z))).run P w = .ok (.map (some w.heap.size)) { w with heap := w.heap.push (.map #[] 0) } := by
  simp [Instr.makeMap, run_underlying u.eq, asInt, asIntOf, newObj, Sem.run, Result.andThen]
/-- a map made, room asked for -/
theorem Der.makeMap1 {κ ν : Type} (enc : κ → Value) (V : ν → Value) {w0 : World} {gh : List Nat} {K : Env → (World → Prop) → (World → Prop) → Prop} {i : Nat} {ord : List Nat} {d : Nat} {T k E : TypeId} [u : Ut P T (.map k E)] {R : World → Prop} {x : Operand} {q : IntKind} {z : Int}
    (ho : ops[i]? = some ⟨some d, .makeMap T (some x), ty, pos, af, g⟩) (hw : want ops L ⟨some d, .makeMap T (some x), ty, pos, af, g⟩ = some true) (hg : gh.elem i = true) (hk : known L x = true) (hx : rho L x = .int q z)
    (hd : ∀ b, Der P [] w0 ops gh K ord ((d, .map (some b)) :: L) (fun _ => True ∧ True) (fun w => w0.heap.size ≤ b ∧ MapIs w b enc V [])) : Der P [] w0 ops gh K (i :: ord) L (fun _ => True) R := by
  refine Der.ghostN (X := Nat) (fun b => .map (some b)) (fun _ _ => True) (fun b w => w0.heap.size ≤ b ∧ MapIs w b enc V []) ho hw hg (by simpa [Op.operands] using hk) (fun _ _ _ _ _ => trivial) (fun b w w' hk h => ⟨h.1, h.2.kp0 hk⟩) ?_ hd
  intro w hk _ _
  unfold OpRun
  have : (execOp (rho L) ⟨some d, .makeMap T (some x), ty, pos, af, g⟩).run P w = .ok (.value (.map (some w.heap.size))) { w with heap := w.heap.push (.map #[] 0) } := by
    simp only [execOp, Option.map_some, hx, Sem.run_bind, run_makeMap1 (u := u), Result.andThen, Sem.run_pure]
  rw [this]
  exact ⟨w.heap.size, rfl, ⟨trivial, trivial⟩, ⟨hk.size, MapIs.made w enc V⟩, hk.trans (Kp.push w _ rfl)⟩
theorem SG.makeMap {κ ν : Type} (enc : κ → Value) (V : ν → Value) {d : Nat} {T : TypeId} (hd : Nat.blt d n = true) (hw : want ops L ⟨some d, .makeMap T none, ty, pos, af, g⟩ = some true)
    (h : ∀ b w', Kp [] w w' → w.heap.size ≤ b → MapIs w' b enc V [] → SG P n ops Q rest ((d, .map (some b)) :: L) w') : SG P n ops Q (⟨some d, .makeMap T none, ty, pos, af, g⟩ :: rest) L w := by
  refine SG.op (by simpa using hd) rfl hw (by simp [Op.operands]) ?_
  unfold OpRun
  have : (execOp (rho L) ⟨some d, .makeMap T none, ty, pos, af, g⟩).run P w = .ok (.value (.map (some w.heap.size))) { w with heap := w.heap.push (.map #[] 0) } := by
    simp [execOp, Instr.makeMap, newObj, Sem.run, Result.andThen]
  rw [this]
  exact h w.heap.size _ (Kp.push w _ rfl) (Nat.le_refl _) (MapIs.made w enc V)
end

/-- Structs and arrays of plain things, compared. -/
theorem equal_agg {P : Program} {T : TypeId} (m : Nat) (hm : m ≤ 10000) (hk : P.keyTypeAt m T = true) (ht : P.tiled m T = true) (hwide : (match P.underlying T with | some (.array _ _) | some (.struct _) => true | _ => false) = true) (hkt : P.keyType T = true) {l l' : List Value}
    (hf : (Value.agg l.toArray).formed P T = true) (hf' : (Value.agg l'.toArray).formed P T = true) (hx : (P.keyLits (P.types.size + 1) T l).isSome = true) (hy : (P.keyLits (P.types.size + 1) T l').isSome = true) (w : World) :
    ∃ r : Bool, (Op.equal T (.agg l.toArray) (.agg l'.toArray)).run P w = .ok r w ∧ (r = true ↔ l = l') := by
  have key : ∀ {l : List Value}, (Value.agg l.toArray).formed P T = true → (P.keyLits (P.types.size + 1) T l).isSome = true → ∃ q, keyOf P T (.agg l.toArray) = some q := by
    intro l hf hx
    obtain ⟨L, hL⟩ := Option.isSome_iff_exists.1 hx
    refine ⟨.string (keyBytes L), ?_⟩
    have hc : (Value.agg l.toArray).cells.toList = l := by simp [Value.cells]
    unfold keyOf
    cases hu : P.underlying T with
    | none => rw [hu] at hwide; simp at hwide
    | some d =>
      rw [hu] at hwide
      cases d <;> simp at hwide <;> simp only [hkt, hf, Bool.and_self, if_true, hc, hL, Option.map_some]
  obtain ⟨q, hq⟩ := key hf hx
  obtain ⟨q', hq'⟩ := key hf' hy
  obtain ⟨r, h1, h2⟩ := run_equal_deep w hm hk hwide hq hq'
  refine ⟨r, h1, h2.trans ⟨fun e => ?_, fun e => ?_⟩⟩
  · subst e
    have := keyOf_inj_deep ht hwide hq hq'
    simpa using this
  · subst e
    rw [hq] at hq'
    cases hq'
    rfl
end Go.Proofs.Ytnoipmimddoioaa
/-
  A region that draws its order, with effects that stand beside one another: each effect only makes new blocks, and what it promises stays; its contract looks at no more than what stands ahead of it.
-/
namespace Go.Proofs.Ytnoipmimddoioaa
set_option linter.unusedVariables false

/-- What an effect promises: its answer by x, and what holds from then on. -/
structure GD where
  X : Type
  x0 : X
  val : X → Value
  phi : X → World → Prop
def GD.none : GD := ⟨Unit, (), fun _ => undef, fun _ _ => True⟩
def gdLook : List (Nat × GD) → Nat → Option GD
  | [], _ => Option.none
  | (j, d) :: G, i => bif Nat.beq j i then some d else gdLook G i
def gdOf (G : List (Nat × GD)) (i : Nat) : GD := (gdLook G i).getD GD.none
def isGh (G : List (Nat × GD)) (i : Nat) : Bool := (gdLook G i).isSome

abbrev Fact := Nat × (World → Prop)
def Facts (ops : List Oper) (i : Nat) (Γ : List Fact) (w : World) : Prop := ∀ p ∈ Γ, anc ops i p.1 = true → p.2 w

/-- How the world goes on by the effect i: it only makes new blocks; or it turns such as the region has made, and keeps what all others promise. -/
def Goes (w0 : World) (G : List (Nat × GD)) (i : Nat) (w w' : World) : Prop := Kp [] w w' ∨ (Kp [] w0 w' ∧ ∀ j x, j ≠ i → (gdOf G j).phi x w → (gdOf G j).phi x w')

section
variable (P : Program) (w0 : World) (ops : List Oper) (G : List (Nat × GD)) (K : Env → List Fact → Prop)

def Live (D : Nat → Bool) (V : Nat → Value) (ξ : (i : Nat) → (gdOf G i).X) : List Nat → Env → List Fact → Prop
  | [], L, Γ => K L Γ
  | i :: ord, L, Γ => ∃ o, ops[i]? = some o ∧
      ((isGh G i = false ∧ ((D i = true ∧ Live D V ξ ord (addD o.dst (V i) L) Γ) ∨
          (D i = false ∧ want ops L o = some false ∧ Live D V ξ ord (addD o.dst undef L) Γ) ∨
          (D i = false ∧ want ops L o = some true ∧ ∃ v, o.op.operands.toList.all (known L) = true ∧ (∀ w, Kp [] w0 w → Facts ops i Γ w → OpRun P (rho L) o w (fun v' w' => v' = v ∧ Kp [] w w')) ∧ Live D V ξ ord (addD o.dst v L) Γ))) ∨
       (isGh G i = true ∧ ((D i = true ∧ Live D V ξ ord (addD o.dst ((gdOf G i).val (ξ i)) L) ((i, (gdOf G i).phi (ξ i)) :: Γ)) ∨
          (D i = false ∧ want ops L o = some true ∧ o.op.operands.toList.all (known L) = true ∧
            (∀ w, Kp [] w0 w → Facts ops i Γ w → OpRun P (rho L) o w (fun v w' => ∃ x, v = (gdOf G i).val x ∧ (gdOf G i).phi x w' ∧ Goes w0 G i w w')) ∧
            ∀ x, Live D V ξ ord (addD o.dst ((gdOf G i).val x) L) ((i, (gdOf G i).phi x) :: Γ)) ∨
          (D i = false ∧ want ops L o = some true ∧ o.op.operands.toList.all (known L) = true ∧ (∀ p ∈ Γ, anc ops i p.1 = true) ∧ ∃ x,
            (∀ w, Kp [] w0 w → Facts ops i Γ w → OpRun P (rho L) o w (fun v w' => v = (gdOf G i).val x ∧ (gdOf G i).phi x w' ∧ Goes w0 G i w w')) ∧
            Live D V ξ ord (addD o.dst ((gdOf G i).val x) L) ((i, (gdOf G i).phi x) :: Γ)))))

/-- The derivation: nothing is done yet. -/
def DerX : List Nat → Env → List Fact → Prop := Live P w0 ops G K (fun _ => false) (fun _ => undef) (fun i => (gdOf G i).x0)
end

section
variable {P : Program} {n : Nat} {ops : List Oper} {Q : Exit → Act → World → Prop} {w0 : World} {L0 : Env} {G : List (Nat × GD)} {K : Env → List Fact → Prop}

/-- Only what is still to come counts. -/
theorem Live.congr {D D' : Nat → Bool} {V V' : Nat → Value} {ξ ξ' : (i : Nat) → (gdOf G i).X} : ∀ {ord : List Nat} {L : Env} {Γ : List Fact}, (∀ i ∈ ord, D i = D' i ∧ V i = V' i ∧ ξ i = ξ' i) → Live P w0 ops G K D V ξ ord L Γ → Live P w0 ops G K D' V' ξ' ord L Γ
  | [], _, _, _, h => h
  | i :: ord, L, Γ, he, ⟨o, ho, h⟩ => by
    obtain ⟨e1, e2, e3⟩ := he i (by simp)
    have he' : ∀ j ∈ ord, D j = D' j ∧ V j = V' j ∧ ξ j = ξ' j := fun j hj => he j (by simp [hj])
    refine ⟨o, ho, ?_⟩
    rcases h with ⟨hg, h⟩ | ⟨hg, h⟩
    · refine Or.inl ⟨hg, ?_⟩
      rcases h with ⟨hd, h⟩ | ⟨hd, hw, h⟩ | ⟨hd, hw, v, hk, hc, h⟩
      · exact Or.inl ⟨by rw [← e1]; exact hd, by rw [← e2]; exact Live.congr he' h⟩
      · exact Or.inr (Or.inl ⟨by rw [← e1]; exact hd, hw, Live.congr he' h⟩)
      · exact Or.inr (Or.inr ⟨by rw [← e1]; exact hd, hw, v, hk, hc, Live.congr he' h⟩)
    · refine Or.inr ⟨hg, ?_⟩
      rcases h with ⟨hd, h⟩ | ⟨hd, hw, hk, hc, h⟩ | ⟨hd, hw, hk, ha, x, hc, h⟩
      · exact Or.inl ⟨by rw [← e1]; exact hd, by rw [← e3]; exact Live.congr he' h⟩
      · exact Or.inr (Or.inl ⟨by rw [← e1]; exact hd, hw, hk, hc, fun x => Live.congr he' (h x)⟩)
      · exact Or.inr (Or.inr ⟨by rw [← e1]; exact hd, hw, hk, ha, x, hc, Live.congr he' h⟩)

/-- The value that a done operation gave. -/
def gave (G : List (Nat × GD)) (V : Nat → Value) (ξ : (i : Nat) → (gdOf G i).X) (i : Nat) : Value := bif isGh G i then (gdOf G i).val (ξ i) else V i

/-- How an environment on the way comes about. -/
def Way (ops : List Oper) (G : List (Nat × GD)) (L0 : Env) (D : Nat → Bool) (V : Nat → Value) (ξ : (i : Nat) → (gdOf G i).X) (pre : List Nat) (L : Env) : Prop :=
  ∀ t v, look L t = some v → (∃ j ∈ pre, dstOf ops j = some t ∧ (D j = true → v = gave G V ξ j)) ∨ ((∀ j ∈ pre, dstOf ops j ≠ some t) ∧ look L0 t = some v)
theorem Way.nil {D : Nat → Bool} {V : Nat → Value} {ξ : (i : Nat) → (gdOf G i).X} : Way ops G L0 D V ξ [] L0 := fun t v h => Or.inr ⟨by simp, h⟩
theorem Way.cons {D : Nat → Bool} {V : Nat → Value} {ξ : (i : Nat) → (gdOf G i).X} {pre : List Nat} {L : Env} {i : Nat} {o : Oper} {u : Value} (h : Way ops G L0 D V ξ pre L) (ho : ops[i]? = some o) (hu : D i = true → u = gave G V ξ i) : Way ops G L0 D V ξ (i :: pre) (addD o.dst u L) := by
  intro t v hv
  rw [look_addD] at hv
  have hdi : dstOf ops i = o.dst := by simp [dstOf, ho]
  by_cases e : o.dst = some t
  · rw [if_pos e] at hv
    cases hv
    exact Or.inl ⟨i, by simp, by rw [hdi, e], hu⟩
  · rw [if_neg e] at hv
    rcases h t v hv with ⟨j, hj, h1, h2⟩ | ⟨h1, h2⟩
    · exact Or.inl ⟨j, by simp [hj], h1, h2⟩
    · refine Or.inr ⟨fun j hj => ?_, h2⟩
      rcases List.mem_cons.1 hj with rfl | hj
      · rw [hdi]; exact e
      · exact h1 j hj

def updV (V : Nat → Value) (i : Nat) (v : Value) : Nat → Value := fun j => if j = i then v else V j
def updX (ξ : (i : Nat) → (gdOf G i).X) (i : Nat) (x : (gdOf G i).X) : (j : Nat) → (gdOf G j).X := fun j => if h : j = i then h ▸ x else ξ j
theorem updX_same {ξ : (i : Nat) → (gdOf G i).X} {i : Nat} {x : (gdOf G i).X} : updX ξ i x i = x := by simp [updX]
theorem updX_ne {ξ : (i : Nat) → (gdOf G i).X} {i j : Nat} {x : (gdOf G i).X} (h : j ≠ i) : updX ξ i x j = ξ j := by simp [updX, h]

/-- The way to an operation that has no effect: all effects ahead of it are done. -/
theorem Live.plain {D : Nat → Bool} {V : Nat → Value} {ξ : (i : Nat) → (gdOf G i).X} {r : Nat} (hgr : isGh G r = false) (hdr : D r = false) {w : World} : ∀ {ord pre : List Nat} {L : Env} {Γ : List Fact}, ord.Nodup → r ∈ ord →
    (∀ g A B, ord = A ++ g :: B → r ∈ B → isGh G g = true → D g = true) → Way ops G L0 D V ξ pre L → (∀ p ∈ Γ, D p.1 = true → p.2 w) → (∀ i, isGh G i = true → D i = true → (gdOf G i).phi (ξ i) w) → Live P w0 ops G K D V ξ ord L Γ →
    ∃ o L' Γ' A B, ord = A ++ r :: B ∧ ops[r]? = some o ∧ Way ops G L0 D V ξ (A.reverse ++ pre) L' ∧ (∀ p ∈ Γ', D p.1 = true → p.2 w) ∧
      ((want ops L' o = some false ∧ Live P w0 ops G K (setD D r) (updV V r undef) ξ ord L Γ) ∨
       (want ops L' o = some true ∧ ∃ v, o.op.operands.toList.all (known L') = true ∧ (∀ w, Kp [] w0 w → Facts ops r Γ' w → OpRun P (rho L') o w (fun v' w' => v' = v ∧ Kp [] w w')) ∧ Live P w0 ops G K (setD D r) (updV V r v) ξ ord L Γ))
  | [], _, _, _, _, hm, _, _, _, _, _ => by cases hm
  | i :: ord, pre, L, Γ, hn, hm, hgd, hway, hfa, hph, ⟨o, ho, h⟩ => by
    have hn' := List.nodup_cons.1 hn
    by_cases hir : i = r
    · subst hir
      have hsame : ∀ j ∈ ord, D j = setD D i j ∧ ∀ v, V j = updV V i v j := fun j hj => by
        have hne : j ≠ i := fun e => hn'.1 (e ▸ hj)
        exact ⟨(setD_ne hne).symm, fun v => by simp [updV, hne]⟩
      refine ⟨o, L, Γ, [], ord, rfl, ho, by simpa using hway, hfa, ?_⟩
      rcases h with ⟨hg, h⟩ | ⟨hg, h⟩
      · rcases h with ⟨hd, h⟩ | ⟨hd, hw, h⟩ | ⟨hd, hw, v, hk, hc, h⟩
        · rw [hdr] at hd; cases hd
        · refine Or.inl ⟨hw, o, ho, Or.inl ⟨hg, Or.inl ⟨setD_same, ?_⟩⟩⟩
          have e : updV V i undef i = undef := by simp [updV]
          rw [e]
          exact Live.congr (fun j hj => ⟨(hsame j hj).1, (hsame j hj).2 _, rfl⟩) h
        · refine Or.inr ⟨hw, v, hk, hc, o, ho, Or.inl ⟨hg, Or.inl ⟨setD_same, ?_⟩⟩⟩
          have e : updV V i v i = v := by simp [updV]
          rw [e]
          exact Live.congr (fun j hj => ⟨(hsame j hj).1, (hsame j hj).2 _, rfl⟩) h
      · rw [hgr] at hg; cases hg
    · have hm' : r ∈ ord := by
        rcases List.mem_cons.1 hm with h | h
        · exact absurd h.symm hir
        · exact h
      have hgd' : ∀ g A B, ord = A ++ g :: B → r ∈ B → isGh G g = true → D g = true := fun g A B e hb => hgd g (i :: A) B (by rw [e]; rfl) hb
      have key : ∀ {L1 : Env} {Γ1 : List Fact}, Way ops G L0 D V ξ (i :: pre) L1 → (∀ p ∈ Γ1, D p.1 = true → p.2 w) → Live P w0 ops G K D V ξ ord L1 Γ1 →
          ∃ o' L' Γ' A B, i :: ord = A ++ r :: B ∧ ops[r]? = some o' ∧ Way ops G L0 D V ξ (A.reverse ++ pre) L' ∧ (∀ p ∈ Γ', D p.1 = true → p.2 w) ∧
            ((want ops L' o' = some false ∧ Live P w0 ops G K (setD D r) (updV V r undef) ξ ord L1 Γ1) ∨
             (want ops L' o' = some true ∧ ∃ v, o'.op.operands.toList.all (known L') = true ∧ (∀ w, Kp [] w0 w → Facts ops r Γ' w → OpRun P (rho L') o' w (fun v' w' => v' = v ∧ Kp [] w w')) ∧ Live P w0 ops G K (setD D r) (updV V r v) ξ ord L1 Γ1)) := by
        intro L1 Γ1 hw1 hf1 h1
        obtain ⟨o', L', Γ', A, B, e1, e2, e3, e4, e5⟩ := Live.plain hgr hdr hn'.2 hm' hgd' hw1 hf1 hph h1
        exact ⟨o', L', Γ', i :: A, B, by rw [e1]; rfl, e2, by simpa using e3, e4, e5⟩
      have eD : setD D r i = D i := setD_ne hir
      have eV : ∀ v, updV V r v i = V i := fun v => by simp [updV, hir]
      rcases h with ⟨hg, h⟩ | ⟨hg, h⟩
      · rcases h with ⟨hd, h⟩ | ⟨hd, hw, h⟩ | ⟨hd, hw, v, hk, hc, h⟩
        · obtain ⟨o', L', Γ', A, B, e1, e2, e3, e4, e5⟩ := key (hway.cons ho (fun _ => by simp [gave, hg])) hfa h
          refine ⟨o', L', Γ', A, B, e1, e2, e3, e4, ?_⟩
          rcases e5 with ⟨f1, f2⟩ | ⟨f1, v, f2, f3, f4⟩
          · exact Or.inl ⟨f1, o, ho, Or.inl ⟨hg, Or.inl ⟨by rw [eD]; exact hd, by rw [eV]; exact f2⟩⟩⟩
          · exact Or.inr ⟨f1, v, f2, f3, o, ho, Or.inl ⟨hg, Or.inl ⟨by rw [eD]; exact hd, by rw [eV]; exact f4⟩⟩⟩
        · obtain ⟨o', L', Γ', A, B, e1, e2, e3, e4, e5⟩ := key (hway.cons ho (fun hd' => by rw [hd] at hd'; cases hd')) hfa h
          refine ⟨o', L', Γ', A, B, e1, e2, e3, e4, ?_⟩
          rcases e5 with ⟨f1, f2⟩ | ⟨f1, v, f2, f3, f4⟩
          · exact Or.inl ⟨f1, o, ho, Or.inl ⟨hg, Or.inr (Or.inl ⟨by rw [eD]; exact hd, hw, f2⟩)⟩⟩
          · exact Or.inr ⟨f1, v, f2, f3, o, ho, Or.inl ⟨hg, Or.inr (Or.inl ⟨by rw [eD]; exact hd, hw, f4⟩)⟩⟩
        · obtain ⟨o', L', Γ', A, B, e1, e2, e3, e4, e5⟩ := key (hway.cons ho (fun hd' => by rw [hd] at hd'; cases hd')) hfa h
          refine ⟨o', L', Γ', A, B, e1, e2, e3, e4, ?_⟩
          rcases e5 with ⟨f1, f2⟩ | ⟨f1, v', f2, f3, f4⟩
          · exact Or.inl ⟨f1, o, ho, Or.inl ⟨hg, Or.inr (Or.inr ⟨by rw [eD]; exact hd, hw, v, hk, hc, f2⟩)⟩⟩
          · exact Or.inr ⟨f1, v', f2, f3, o, ho, Or.inl ⟨hg, Or.inr (Or.inr ⟨by rw [eD]; exact hd, hw, v, hk, hc, f4⟩)⟩⟩
      · have hdi : D i = true := hgd i [] ord rfl hm' hg
        rcases h with ⟨hd, h⟩ | ⟨hd, _⟩ | ⟨hd, _⟩
        · obtain ⟨o', L', Γ', A, B, e1, e2, e3, e4, e5⟩ := key (hway.cons ho (fun _ => by simp [gave, hg])) (fun p hp hpd => by
            rcases List.mem_cons.1 hp with rfl | hp
            · exact hph i hg hd
            · exact hfa p hp hpd) h
          refine ⟨o', L', Γ', A, B, e1, e2, e3, e4, ?_⟩
          rcases e5 with ⟨f1, f2⟩ | ⟨f1, v, f2, f3, f4⟩
          · exact Or.inl ⟨f1, o, ho, Or.inr ⟨hg, Or.inl ⟨by rw [eD]; exact hd, f2⟩⟩⟩
          · exact Or.inr ⟨f1, v, f2, f3, o, ho, Or.inr ⟨hg, Or.inl ⟨by rw [eD]; exact hd, f4⟩⟩⟩
        · rw [hdi] at hd; cases hd
        · rw [hdi] at hd; cases hd

/-- What is so at an effect: it may be done, by whatever x; or by one x, where all effects ahead of it are done. -/
def EffAt (P : Program) (w0 : World) (ops : List Oper) (G : List (Nat × GD)) (K : Env → List Fact → Prop) (D : Nat → Bool) (V : Nat → Value) (ξ : (i : Nat) → (gdOf G i).X) (r : Nat) (o : Oper) (L' : Env) (Γ' : List Fact) (ord : List Nat) (L : Env) (Γ : List Fact) : Prop :=
  ((∀ w, Kp [] w0 w → Facts ops r Γ' w → OpRun P (rho L') o w (fun v w' => ∃ x, v = (gdOf G r).val x ∧ (gdOf G r).phi x w' ∧ Goes w0 G r w w')) ∧ ∀ x, Live P w0 ops G K (setD D r) V (updX ξ r x) ord L Γ) ∨
  ((∀ p ∈ Γ, D p.1 = true) ∧ ∃ x, (∀ w, Kp [] w0 w → Facts ops r Γ' w → OpRun P (rho L') o w (fun v w' => v = (gdOf G r).val x ∧ (gdOf G r).phi x w' ∧ Goes w0 G r w w')) ∧ Live P w0 ops G K (setD D r) V (updX ξ r x) ord L Γ)
/-- The way to an effect: others may stand beside it, undone. -/
theorem Live.effect {D : Nat → Bool} {V : Nat → Value} {ξ : (i : Nat) → (gdOf G i).X} {r : Nat} (hgr : isGh G r = true) (hdr : D r = false) (hanc : ∀ j, anc ops r j = true → D j = true) {w : World} (hph : ∀ i, isGh G i = true → D i = true → (gdOf G i).phi (ξ i) w) : ∀ {ord pre : List Nat} {L : Env} {Γ : List Fact}, ord.Nodup → r ∈ ord →
    Way ops G L0 D V ξ pre L → (∀ p ∈ Γ, D p.1 = true → p.2 w) → Live P w0 ops G K D V ξ ord L Γ →
    ∃ o L' Γ' A B, ord = A ++ r :: B ∧ ops[r]? = some o ∧ Way ops G L0 D V ξ (A.reverse ++ pre) L' ∧ (∀ p ∈ Γ', D p.1 = true → p.2 w) ∧ want ops L' o = some true ∧ o.op.operands.toList.all (known L') = true ∧ EffAt P w0 ops G K D V ξ r o L' Γ' ord L Γ
  | [], _, _, _, _, hm, _, _, _ => by cases hm
  | i :: ord, pre, L, Γ, hn, hm, hway, hfa, ⟨o, ho, h⟩ => by
    have hn' := List.nodup_cons.1 hn
    by_cases hir : i = r
    · subst hir
      have hcg : ∀ (x : (gdOf G i).X) {L1 : Env} {Γ1 : List Fact}, Live P w0 ops G K D V ξ ord L1 Γ1 → Live P w0 ops G K (setD D i) V (updX ξ i x) ord L1 Γ1 := fun x {L1 Γ1} h1 => Live.congr (fun j hj => by
        have hne : j ≠ i := fun e => hn'.1 (e ▸ hj)
        exact ⟨(setD_ne hne).symm, rfl, (updX_ne hne).symm⟩) h1
      rcases h with ⟨hg, h⟩ | ⟨hg, h⟩
      · rw [hgr] at hg; cases hg
      · rcases h with ⟨hd, h⟩ | ⟨hd, hw, hk, hc, h⟩ | ⟨hd, hw, hk, ha, x, hc, h⟩
        · rw [hdr] at hd; cases hd
        · refine ⟨o, L, Γ, [], ord, rfl, ho, by simpa using hway, hfa, hw, hk, Or.inl ⟨hc, fun x => ⟨o, ho, Or.inr ⟨hg, Or.inl ⟨setD_same, ?_⟩⟩⟩⟩⟩
          rw [updX_same]
          exact hcg x (h x)
        · refine ⟨o, L, Γ, [], ord, rfl, ho, by simpa using hway, hfa, hw, hk, Or.inr ⟨fun p hp => hanc p.1 (ha p hp), x, hc, ⟨o, ho, Or.inr ⟨hg, Or.inl ⟨setD_same, ?_⟩⟩⟩⟩⟩
          rw [updX_same]
          exact hcg x h
    · have hm' : r ∈ ord := by
        rcases List.mem_cons.1 hm with h | h
        · exact absurd h.symm hir
        · exact h
      have eD : setD D r i = D i := setD_ne hir
      have eX : ∀ x, updX ξ r x i = ξ i := fun x => updX_ne hir
      have key : ∀ {L1 : Env} {Γ1 : List Fact}, Way ops G L0 D V ξ (i :: pre) L1 → (∀ p ∈ Γ1, D p.1 = true → p.2 w) → Live P w0 ops G K D V ξ ord L1 Γ1 →
          ∃ o L' Γ' A B, i :: ord = A ++ r :: B ∧ ops[r]? = some o ∧ Way ops G L0 D V ξ (A.reverse ++ pre) L' ∧ (∀ p ∈ Γ', D p.1 = true → p.2 w) ∧ want ops L' o = some true ∧ o.op.operands.toList.all (known L') = true ∧ EffAt P w0 ops G K D V ξ r o L' Γ' ord L1 Γ1 := by
        intro L1 Γ1 hw1 hf1 h1
        obtain ⟨o', L', Γ', A, B, e1, e2, e3, e4, e5, e6, e7⟩ := Live.effect hgr hdr hanc hph hn'.2 hm' hw1 hf1 h1
        exact ⟨o', L', Γ', i :: A, B, by rw [e1]; rfl, e2, by simpa using e3, e4, e5, e6, e7⟩
      -- one step on, where the tail is known
      have up : ∀ {L1 : Env} {Γ1 : List Fact} {o' : Oper} {L' : Env} {Γ' : List Fact}, (∀ p ∈ Γ, p ∈ Γ1) → (∀ x, Live P w0 ops G K (setD D r) V (updX ξ r x) ord L1 Γ1 → Live P w0 ops G K (setD D r) V (updX ξ r x) (i :: ord) L Γ) → EffAt P w0 ops G K D V ξ r o' L' Γ' ord L1 Γ1 → EffAt P w0 ops G K D V ξ r o' L' Γ' (i :: ord) L Γ := by
        intro L1 Γ1 o' L' Γ' hs hl he
        rcases he with ⟨h1, h2⟩ | ⟨h1, x, h2, h3⟩
        · exact Or.inl ⟨h1, fun x => hl x (h2 x)⟩
        · exact Or.inr ⟨fun p hp => h1 p (hs p hp), x, h2, hl x h3⟩
      rcases h with ⟨hg, h⟩ | ⟨hg, h⟩
      · rcases h with ⟨hd, h⟩ | ⟨hd, hw, h⟩ | ⟨hd, hw, v, hk, hc, h⟩
        · obtain ⟨o', L', Γ', A, B, e1, e2, e3, e4, e5, e6, e7⟩ := key (hway.cons ho (fun _ => by simp [gave, hg])) hfa h
          exact ⟨o', L', Γ', A, B, e1, e2, e3, e4, e5, e6, up (fun p hp => hp) (fun x hx => ⟨o, ho, Or.inl ⟨hg, Or.inl ⟨by rw [eD]; exact hd, hx⟩⟩⟩) e7⟩
        · obtain ⟨o', L', Γ', A, B, e1, e2, e3, e4, e5, e6, e7⟩ := key (hway.cons ho (fun hd' => by rw [hd] at hd'; cases hd')) hfa h
          exact ⟨o', L', Γ', A, B, e1, e2, e3, e4, e5, e6, up (fun p hp => hp) (fun x hx => ⟨o, ho, Or.inl ⟨hg, Or.inr (Or.inl ⟨by rw [eD]; exact hd, hw, hx⟩)⟩⟩) e7⟩
        · obtain ⟨o', L', Γ', A, B, e1, e2, e3, e4, e5, e6, e7⟩ := key (hway.cons ho (fun hd' => by rw [hd] at hd'; cases hd')) hfa h
          exact ⟨o', L', Γ', A, B, e1, e2, e3, e4, e5, e6, up (fun p hp => hp) (fun x hx => ⟨o, ho, Or.inl ⟨hg, Or.inr (Or.inr ⟨by rw [eD]; exact hd, hw, v, hk, hc, hx⟩)⟩⟩) e7⟩
      · rcases h with ⟨hd, h⟩ | ⟨hd, hw, hk, hc, h⟩ | ⟨hd, hw, hk, ha, y, hc, h⟩
        · obtain ⟨o', L', Γ', A, B, e1, e2, e3, e4, e5, e6, e7⟩ := key (hway.cons ho (fun _ => by simp [gave, hg])) (fun p hp hpd => by
            rcases List.mem_cons.1 hp with rfl | hp
            · exact hph i hg hd
            · exact hfa p hp hpd) h
          exact ⟨o', L', Γ', A, B, e1, e2, e3, e4, e5, e6, up (fun p hp => List.mem_cons_of_mem _ hp) (fun x hx => ⟨o, ho, Or.inr ⟨hg, Or.inl ⟨by rw [eD]; exact hd, by rw [eX]; exact hx⟩⟩⟩) e7⟩
        · have hf : ∀ (y : (gdOf G i).X), ∀ p ∈ ((i, (gdOf G i).phi y) :: Γ : List Fact), D p.1 = true → p.2 w := fun y p hp hpd => by
            rcases List.mem_cons.1 hp with rfl | hp
            · simp only at hpd; rw [hd] at hpd; cases hpd
            · exact hfa p hp hpd
          have all : ∀ y, ∀ x, Live P w0 ops G K (setD D r) V (updX ξ r x) ord (addD o.dst ((gdOf G i).val y) L) ((i, (gdOf G i).phi y) :: Γ) := fun y => by
            obtain ⟨o', L', Γ', A, B, e1, e2, e3, e4, e5, e6, e7⟩ := key (hway.cons ho (fun hd' => by rw [hd] at hd'; cases hd')) (hf y) (h y)
            rcases e7 with ⟨_, h2⟩ | ⟨h1, _⟩
            · exact h2
            · have := h1 _ List.mem_cons_self
              simp only at this
              rw [hd] at this
              cases this
          obtain ⟨o', L', Γ', A, B, e1, e2, e3, e4, e5, e6, e7⟩ := key (hway.cons ho (fun hd' => by rw [hd] at hd'; cases hd')) (hf (gdOf G i).x0) (h (gdOf G i).x0)
          exact ⟨o', L', Γ', A, B, e1, e2, e3, e4, e5, e6, up (fun p hp => List.mem_cons_of_mem _ hp) (fun x _ => ⟨o, ho, Or.inr ⟨hg, Or.inr (Or.inl ⟨by rw [eD]; exact hd, hw, hk, hc, fun y => all y x⟩)⟩⟩) e7⟩
        · obtain ⟨o', L', Γ', A, B, e1, e2, e3, e4, e5, e6, e7⟩ := key (hway.cons ho (fun hd' => by rw [hd] at hd'; cases hd')) (fun p hp hpd => by
            rcases List.mem_cons.1 hp with rfl | hp
            · simp only at hpd; rw [hd] at hpd; cases hpd
            · exact hfa p hp hpd) h
          exact ⟨o', L', Γ', A, B, e1, e2, e3, e4, e5, e6, up (fun p hp => List.mem_cons_of_mem _ hp) (fun x hx => ⟨o, ho, Or.inr ⟨hg, Or.inr (Or.inr ⟨by rw [eD]; exact hd, hw, hk, ha, y, hc, hx⟩)⟩⟩) e7⟩

/-- All is done. -/
theorem Live.done {D : Nat → Bool} {V : Nat → Value} {ξ : (i : Nat) → (gdOf G i).X} {w : World} (hph : ∀ i, isGh G i = true → D i = true → (gdOf G i).phi (ξ i) w) : ∀ {ord pre : List Nat} {L : Env} {Γ : List Fact}, (∀ i ∈ ord, D i = true) → Way ops G L0 D V ξ pre L → (∀ p ∈ Γ, p.2 w) → Live P w0 ops G K D V ξ ord L Γ →
    ∃ L' Γ', Way ops G L0 D V ξ (ord.reverse ++ pre) L' ∧ (∀ p ∈ Γ', p.2 w) ∧ K L' Γ'
  | [], pre, L, Γ, _, hway, hfa, h => ⟨L, Γ, by simpa using hway, hfa, h⟩
  | i :: ord, pre, L, Γ, hall, hway, hfa, ⟨o, ho, h⟩ => by
    have hdi := hall i (by simp)
    have hall' : ∀ j ∈ ord, D j = true := fun j hj => hall j (by simp [hj])
    rcases h with ⟨hg, h⟩ | ⟨hg, h⟩
    · rcases h with ⟨hd, h⟩ | ⟨hd, _⟩ | ⟨hd, _⟩
      · obtain ⟨L', Γ', e1, e2, e3⟩ := Live.done hph hall' (hway.cons ho (fun _ => by simp [gave, hg])) hfa h
        exact ⟨L', Γ', by simpa using e1, e2, e3⟩
      · rw [hdi] at hd; cases hd
      · rw [hdi] at hd; cases hd
    · rcases h with ⟨hd, h⟩ | ⟨hd, _⟩ | ⟨hd, _⟩
      · obtain ⟨L', Γ', e1, e2, e3⟩ := Live.done hph hall' (hway.cons ho (fun _ => by simp [gave, hg])) (fun p hp => by
          rcases List.mem_cons.1 hp with rfl | hp
          · exact hph i hg hd
          · exact hfa p hp) h
        exact ⟨L', Γ', by simpa using e1, e2, e3⟩
      · rw [hdi] at hd; cases hd
      · rw [hdi] at hd; cases hd
end
end Go.Proofs.Ytnoipmimddoioaa
/-
  The rule for effects that stand beside one another.
-/
namespace Go.Proofs.Ytnoipmimddoioaa
set_option linter.unusedVariables false

def ordX (ops : List Oper) (gi : List Nat) : List Nat → List Nat → Bool
  | _, [] => true
  | pre, i :: rest =>
    ((ops[i]?).map fun o => (lks ops o).all fun t => pre.all (fun j => !(dstOf ops j == some t) || anc ops i j) && rest.all (fun j => !(dstOf ops j == some t) || anc ops j i)).getD false &&
    (!gi.elem i || rest.all (fun j => gi.elem j || anc ops j i)) && ordX ops gi (i :: pre) rest
def chkX (n : Nat) (ops : List Oper) (ord gi : List Nat) (k : Nat) : Bool :=
  ops.all (fun o => !isSelect o.op) && ops.all (fun o => o.dst.all (fun d => Nat.blt d n)) && nodupB (ops.filterMap (·.dst)) &&
  (List.range k).all (fun i => ord.elem i) && nodupB ord && ordX ops gi [] ord && ord.all (fun i => Nat.blt i k) && Nat.ble k ops.length &&
  ((List.range ops.length).all fun i => ((ops[i]?).map fun o => (edges o).all (fun e => Nat.blt e i)).getD false) &&
  ((List.range ops.length).all fun i => Nat.blt i k || (List.range i).all (fun j => anc ops i j)) && gi.all (fun i => ord.elem i)

section
variable {P : Program} {n : Nat} {ops : List Oper} {Q : Exit → Act → World → Prop} {w0 : World} {L0 : Env} {G : List (Nat × GD)} {ord gi : List Nat} {k : Nat}

theorem ordX_spec : ∀ (rest pre : List Nat), ordX ops gi pre rest = true → ∀ A r B, rest = A ++ r :: B → ∀ o, ops[r]? = some o →
    (∀ t ∈ lks ops o, (∀ j, j ∈ A ∨ j ∈ pre → dstOf ops j = some t → anc ops r j = true) ∧ (∀ j ∈ B, dstOf ops j = some t → anc ops j r = true)) ∧ (gi.elem r = true → ∀ j ∈ B, gi.elem j = true ∨ anc ops j r = true)
  | [], _, _, A, r, B, h, _, _ => by cases A <;> simp at h
  | i :: rest, pre, h, A, r, B, he, o, ho => by
    simp only [ordX, Bool.and_eq_true] at h
    obtain ⟨⟨h1, h2⟩, h3⟩ := h
    cases A with
    | nil =>
      simp only [List.nil_append, List.cons.injEq] at he
      obtain ⟨rfl, rfl⟩ := he
      rw [ho] at h1
      simp only [Option.map_some, Option.getD_some] at h1
      refine ⟨fun t ht => ?_, fun hg j hj => ?_⟩
      · have := List.all_eq_true.1 h1 t ht
        simp only [Bool.and_eq_true] at this
        refine ⟨fun j hj hd => ?_, fun j hj hd => ?_⟩
        · rcases hj with hj | hj
          · cases hj
          · have := List.all_eq_true.1 this.1 j hj
            simpa [hd] using this
        · have := List.all_eq_true.1 this.2 j hj
          simpa [hd] using this
      · rw [hg] at h2
        simp only [Bool.not_true, Bool.false_or] at h2
        have := List.all_eq_true.1 h2 j hj
        simpa using this
    | cons a A =>
      simp only [List.cons_append, List.cons.injEq] at he
      obtain ⟨rfl, rfl⟩ := he
      obtain ⟨g1, g2⟩ := ordX_spec _ (i :: pre) h3 A r B rfl o ho
      refine ⟨fun t ht => ⟨fun j hj hd => (g1 t ht).1 j ?_ hd, (g1 t ht).2⟩, g2⟩
      rcases hj with hj | hj
      · rcases List.mem_cons.1 hj with rfl | hj
        · exact Or.inr (by simp)
        · exact Or.inl hj
      · exact Or.inr (by simp [hj])

structure ChkX (n : Nat) (ops : List Oper) (ord gi : List Nat) (k : Nat) : Prop where
  sel : ∀ o ∈ ops, isSelect o.op = false
  dlt : ∀ o ∈ ops, ∀ d, o.dst = some d → d < n
  one : ∀ (i j : Nat) (oi oj : Oper) (t : Nat), ops[i]? = some oi → ops[j]? = some oj → oi.dst = some t → oj.dst = some t → i = j
  cover : ∀ i, i < k → i ∈ ord
  nodup : ord.Nodup
  ok : ordX ops gi [] ord = true
  lt : ∀ i ∈ ord, i < k
  le : k ≤ ops.length
  ed : ∀ (i : Nat) (o : Oper), ops[i]? = some o → ∀ e ∈ edges o, e < i
  tl : ∀ i, i < ops.length → k ≤ i → ∀ j, j < i → anc ops i j = true
  gi : ∀ i ∈ gi, i ∈ ord
theorem ChkX.of (h : chkX n ops ord gi k = true) : ChkX n ops ord gi k := by
  simp only [chkX, Bool.and_eq_true] at h
  obtain ⟨⟨⟨⟨⟨⟨⟨⟨⟨⟨h1, h2⟩, h3⟩, h4⟩, h5⟩, h6⟩, h7⟩, h8⟩, h9⟩, h10⟩, h11⟩ := h
  refine ⟨fun o ho => ?_, fun o ho d hd => ?_, nodup_filterMap_inj ops (nodup_of_B _ h3), fun i hi => ?_, nodup_of_B _ h5, h6, fun i hi => ?_, by simpa [Nat.ble_eq] using h8, fun i o ho e he => ?_, fun i hi hk j hj => ?_, fun i hi => ?_⟩
  · simpa using List.all_eq_true.1 h1 o ho
  · have := List.all_eq_true.1 h2 o ho
    rw [hd] at this
    simpa [Nat.blt_eq] using this
  · have := List.all_eq_true.1 h4 i (by simpa using hi)
    rw [List.elem_eq_mem] at this
    exact of_decide_eq_true this
  · simpa [Nat.blt_eq] using List.all_eq_true.1 h7 i hi
  · have := List.all_eq_true.1 h9 i (by simpa using (List.getElem?_eq_some_iff.1 ho).1)
    rw [ho] at this
    simp only [Option.map_some, Option.getD_some] at this
    simpa [Nat.blt_eq] using List.all_eq_true.1 this e he
  · have := List.all_eq_true.1 h10 i (by simpa using hi)
    simp only [Bool.or_eq_true, Nat.blt_eq] at this
    rcases this with h | h
    · omega
    · exact List.all_eq_true.1 h j (by simpa using hj)
  · have := List.all_eq_true.1 h11 i hi
    rw [List.elem_eq_mem] at this
    exact of_decide_eq_true this

theorem isGh_iff : ∀ {G : List (Nat × GD)} {i : Nat}, isGh G i = (G.map (·.1)).elem i
  | [], i => rfl
  | (j, d) :: G, i => by
    have ih := isGh_iff (G := G) (i := i)
    unfold isGh at *
    simp only [gdLook, List.map_cons, List.elem_cons]
    by_cases e : j = i
    · subst e; simp
    · have h1 : Nat.beq j i = false := by rw [← Bool.not_eq_true, Nat.beq_eq]; exact e
      have h2 : (i == j) = false := by simp; exact fun h => e h.symm
      rw [h1, h2]
      simpa using ih

/-- What is so on the way. -/
structure StX (P : Program) (n : Nat) (ops : List Oper) (w0 : World) (L0 : Env) (G : List (Nat × GD)) (K : Env → List Fact → Prop) (ord : List Nat) (D : Nat → Bool) (V : Nat → Value) (ξ : (i : Nat) → (gdOf G i).X) (a : Act) (w : World) : Prop where
  closed : ∀ (i : Nat) (o : Oper), ops[i]? = some o → D i = true → ∀ e ∈ edges o, D e = true
  size : a.tmps.size = n
  defers : a.defers = []
  slot : ∀ (i : Nat) (o : Oper) (d : Nat), ops[i]? = some o → D i = true → o.dst = some d → a.tmps[d]? = some (gave G V ξ i)
  old : ∀ t v, look L0 t = some v → (∀ (i : Nat) (o : Oper), ops[i]? = some o → D i = true → o.dst ≠ some t) → a.tmps[t]? = some v
  kp : Kp [] w0 w
  ph : ∀ i, isGh G i = true → D i = true → (gdOf G i).phi (ξ i) w
  live : Live P w0 ops G K D V ξ ord L0 []

theorem StX.looks {K : Env → List Fact → Prop} {D : Nat → Bool} {V : Nat → Value} {ξ : (i : Nat) → (gdOf G i).X} {a : Act} {w : World} (c : ChkX n ops ord gi k) (hst : StX P n ops w0 L0 G K ord D V ξ a w) (htl : ∀ i, i < ops.length → k ≤ i → D i = false)
    {r : Nat} {o : Oper} {A B : List Nat} {L' : Env} (he : ord = A ++ r :: B) (ho : ops[r]? = some o) (hdr : D r = false) (hanc : ∀ j, anc ops r j = true → D j = true) (hway : Way ops G L0 D V ξ (A.reverse ++ []) L') :
    ∀ t ∈ lks ops o, ∀ v, look L' t = some v → a.tmps[t]? = some v := by
  intro t ht v hv
  obtain ⟨g1, _⟩ := ordX_spec ord [] c.ok A r B he o ho
  rcases hway t v hv with ⟨j, hj, h1, h2⟩ | ⟨h1, h2⟩
  · have hjA : j ∈ A := by simpa using hj
    have hdj := hanc j ((g1 t ht).1 j (Or.inl hjA) h1)
    unfold dstOf at h1
    cases hoj : ops[j]? with
    | none => rw [hoj] at h1; simp at h1
    | some oj =>
      rw [hoj] at h1
      simp only [Option.bind_some] at h1
      rw [hst.slot j oj t hoj hdj h1, h2 hdj]
  · refine hst.old t v h2 (fun i oi hoi hdi e => ?_)
    have hil := (List.getElem?_eq_some_iff.1 hoi).1
    have hik : i < k := by
      by_cases h : i < k
      · exact h
      · rw [htl i hil (by omega)] at hdi; cases hdi
    have hio := c.cover i hik
    have hdi' : dstOf ops i = some t := by simp [dstOf, hoi, e]
    rw [he] at hio
    rcases List.mem_append.1 hio with hA | hB
    · exact h1 i (by simpa using hA) hdi'
    · rcases List.mem_cons.1 hB with rfl | hB
      · rw [hdr] at hdi; cases hdi
      · have h3 := (g1 t ht).2 i hB hdi'
        have := anc_closed hst.closed i oi hoi (hst.closed i oi hoi hdi) r h3
        rw [hdr] at this
        cases this

theorem gave_updV {V : Nat → Value} {ξ : (i : Nat) → (gdOf G i).X} {r i : Nat} {v : Value} (h : i ≠ r) : gave G (updV V r v) ξ i = gave G V ξ i := by simp [gave, updV, h]
theorem gave_updX {V : Nat → Value} {ξ : (i : Nat) → (gdOf G i).X} {r i : Nat} {x : (gdOf G r).X} (h : i ≠ r) : gave G V (updX ξ r x) i = gave G V ξ i := by simp [gave, updX_ne h]

theorem put_slot {a : Act} {n : Nat} {dst : Option Nat} {v : Value} (hs : a.tmps.size = n) (t : Nat) (u : Value) (h : a.tmps[t]? = some u) (hne : dst ≠ some t) : (a.put dst v).tmps[t]? = some u := by
  cases dst with
  | none => exact h
  | some d =>
    have : d ≠ t := fun e => hne (by rw [e])
    simp only [Act.put]
    rw [Array.getElem?_setIfInBounds_ne this]
    exact h
theorem put_here {a : Act} {n d : Nat} {v : Value} (hs : a.tmps.size = n) (hd : d < n) : (a.put (some d) v).tmps[d]? = some v := by simp [Act.put, hs, hd]

/-- One is done. -/
theorem StX.did {K : Env → List Fact → Prop} {D : Nat → Bool} {V V' : Nat → Value} {ξ ξ' : (i : Nat) → (gdOf G i).X} {a : Act} {w w' : World} (c : ChkX n ops ord gi k) (hst : StX P n ops w0 L0 G K ord D V ξ a w) {r : Nat} {o : Oper} {v : Value} (ho : ops[r]? = some o) (hed : ∀ e ∈ edges o, D e = true)
    (hk : Goes w0 G r w w') (hstab : ∀ i x, Stab [] ((gdOf G i).phi x)) (hv : gave G V' ξ' r = v) (hoth : ∀ i, i ≠ r → gave G V' ξ' i = gave G V ξ i) (hx : ∀ i, i ≠ r → ξ' i = ξ i) (hr : isGh G r = true → (gdOf G r).phi (ξ' r) w') (hlive : Live P w0 ops G K (setD D r) V' ξ' ord L0 []) :
    StX P n ops w0 L0 G K ord (setD D r) V' ξ' (a.put o.dst v) w' := by
  refine ⟨fun i oi hoi hdi e he => ?_, ?_, ?_, fun i oi d hoi hdi hd => ?_, fun t u hu hno => ?_, (hk.elim (fun h => hst.kp.trans h) (fun h => h.1)), fun i hg hdi => ?_, hlive⟩
  · by_cases hir : i = r
    · subst hir
      rw [ho] at hoi
      cases hoi
      exact setD_of (hed e he)
    · rw [setD_ne hir] at hdi
      exact setD_of (hst.closed i oi hoi hdi e he)
  · cases hdd : o.dst with
    | none => exact hst.size
    | some d => simp [Act.put, hst.size]
  · cases hdd : o.dst <;> exact hst.defers
  · by_cases hir : i = r
    · subst hir
      rw [ho] at hoi
      cases hoi
      rw [hd, hv]
      exact put_here hst.size (c.dlt o (List.mem_of_getElem? ho) d hd)
    · rw [setD_ne hir] at hdi
      rw [hoth i hir]
      exact put_slot hst.size d _ (hst.slot i oi d hoi hdi hd) (fun e => hir (c.one i r oi o d hoi ho hd e))
  · refine put_slot hst.size t u (hst.old t u hu (fun i oi hoi hdi => hno i oi hoi (setD_of hdi))) (hno r o ho setD_same)
  · by_cases hir : i = r
    · subst hir
      exact hr hg
    · rw [setD_ne hir] at hdi
      rw [hx i hir]
      exact hk.elim (fun h => hstab i _ w w' h (hst.ph i hg hdi)) (fun h => h.2 i _ hir (hst.ph i hg hdi))

def KX (n : Nat) (w0 : World) (P : Program) (ops : List Oper) (Q : Exit → Act → World → Prop) (k : Nat) (L : Env) (Γ : List Fact) : Prop :=
  ∀ w', Kp [] w0 w' → (∀ p ∈ Γ, p.2 w') → ∀ a, Fits n a L → wpList P ops.toArray Q (ops.drop k) a w'

theorem StX.wpAny (c : ChkX n ops ord (G.map (·.1)) k) (hstab : ∀ i x, Stab [] ((gdOf G i).phi x)) : ∀ (fuel : Nat) (listed : Array Bool) (V : Nat → Value) (ξ : (i : Nat) → (gdOf G i).X) (a : Act) (w : World),
    listed.size = ops.length → StX P n ops w0 L0 G (KX n w0 P ops Q k) ord (fun j => listed.getD j true) V ξ a w → (∀ i, i < ops.length → k ≤ i → listed.getD i true = false) →
    (List.range ops.length).countP (fun i => !listed.getD i true) = fuel → Go.wpAny P .any ops.toArray Q fuel listed a w := by
  have hfin : ∀ (listed : Array Bool) (V : Nat → Value) (ξ : (i : Nat) → (gdOf G i).X) (a : Act) (w : World), StX P n ops w0 L0 G (KX n w0 P ops Q k) ord (fun j => listed.getD j true) V ξ a w → (∀ i, i < ops.length → k ≤ i → listed.getD i true = false) → (∀ i, i < k → listed.getD i true = true) → wpList P ops.toArray Q (ops.drop k) a w := by
    intro listed V ξ a w hst htl hpre
    obtain ⟨L', Γ', h1, h2, h3⟩ := Live.done (L0 := L0) (pre := []) hst.ph (fun i hi => hpre i (c.lt i hi)) Way.nil (by simp) hst.live
    refine h3 w hst.kp h2 a ⟨fun t v hv => ?_, hst.size, hst.defers⟩
    rcases h1 t v hv with ⟨j, hj, g1, g2⟩ | ⟨g1, g2⟩
    · have hjo : j ∈ ord := by simpa using hj
      have hdj := hpre j (c.lt j hjo)
      unfold dstOf at g1
      cases hoj : ops[j]? with
      | none => rw [hoj] at g1; simp at g1
      | some oj =>
        rw [hoj] at g1
        simp only [Option.bind_some] at g1
        rw [hst.slot j oj t hoj hdj g1, g2 hdj]
    · refine hst.old t v g2 (fun i oi hoi hdi e => ?_)
      have hil := (List.getElem?_eq_some_iff.1 hoi).1
      have hik : i < k := by
        by_cases h : i < k
        · exact h
        · simp only [htl i hil (by omega)] at hdi; cases hdi
      exact g1 i (by simpa using c.cover i hik) (by simp [dstOf, hoi, e])
  intro fuel
  induction fuel with
  | zero =>
    intro listed V ξ a w hsz hst htl hcnt
    rw [List.countP_eq_zero] at hcnt
    have hall : ∀ i, i < ops.length → listed.getD i true = true := fun i hi => by simpa using hcnt i (by simpa using hi)
    have hle := c.le
    have hk : k = ops.length := by
      by_cases h : k < ops.length
      · have := htl k h (Nat.le_refl _)
        rw [hall k h] at this
        cases this
      · omega
    exact wpAny_tail c.ed 0 k listed a w (by omega) hsz c.tl hst.closed (fun i hi => by rw [hall i hi]; simp; omega) (hfin listed V ξ a w hst htl (fun i hi => hall i (by omega)))
  | succ fuel ih =>
    intro listed V ξ a w hsz hst htl hcnt
    have hle := c.le
    by_cases hpre : ∀ i, i < k → listed.getD i true = true
    · have hdec : ∀ i, i < ops.length → listed.getD i true = decide (i < k) := by
        intro i hi
        by_cases hik : i < k
        · rw [hpre i hik]; simp [hik]
        · rw [htl i hi (by omega)]; simp [hik]
      have hm : k + (fuel + 1) = ops.length := by
        have : (List.range ops.length).countP (fun i => !listed.getD i true) = ops.length - k := by
          have e1 : (List.range ops.length).countP (fun i => !listed.getD i true) = (List.range ops.length).countP (fun i => !decide (i < k)) := by
            apply List.countP_congr
            intro i hi
            rw [hdec i (by simpa using hi)]
          rw [e1]
          have : ops.length = k + (ops.length - k) := by omega
          rw [this, List.range_add, List.countP_append, List.countP_map]
          have h1 : (List.range k).countP (fun i => !decide (i < k)) = 0 := by
            rw [List.countP_eq_zero]; intro i hi; simp at hi; simp [hi]
          have h2 : (List.range (ops.length - k)).countP ((fun i => !decide (i < k)) ∘ fun x => k + x) = (List.range (ops.length - k)).length := by
            rw [List.countP_eq_length]; intro i hi; simp
          rw [h1, h2]
          simp
        omega
      exact wpAny_tail c.ed (fuel + 1) k listed a w hm hsz c.tl hst.closed hdec (hfin listed V ξ a w hst htl hpre)
    · constructor
      · intro hr
        exfalso
        apply hpre
        intro i
        induction i using Nat.strongRecOn with
        | _ i ihi =>
          intro hik
          cases hd : listed.getD i true with
          | true => rfl
          | false =>
            exfalso
            have : i ∈ Region.ready .any ops.toArray listed := by
              refine (ready_iff hsz).2 ⟨ops[i], by simp, hd, fun e he => ?_⟩
              have hei := c.ed i ops[i] (by simp) e he
              have := ihi e hei (by omega)
              simp only [Array.getD_eq_getD_getElem?] at this ⊢
              rw [Array.getElem?_eq_getElem (by omega)] at this ⊢
              exact this
            rw [hr] at this
            cases this
      · intro i hi
        obtain ⟨o, ho, hnd, hed'⟩ := (ready_iff hsz).1 hi
        have hil : i < ops.length := (List.getElem?_eq_some_iff.1 ho).1
        have hed : ∀ e ∈ edges o, listed.getD e true = true := by
          intro e he
          have := hed' e he
          simp only [Array.getD_eq_getD_getElem?] at this ⊢
          cases h : listed[e]? with
          | none => rfl
          | some b => rw [h] at this; exact this
        have hanc : ∀ j, anc ops i j = true → listed.getD j true = true := anc_closed hst.closed i o ho hed
        have hsz' : (listed.setIfInBounds i true).size = ops.length := by simp [hsz]
        have hset : (fun j => (listed.setIfInBounds i true).getD j true) = setD (fun j => listed.getD j true) i := funext fun j => getD_set (by omega)
        by_cases hik : i < k
        · have htl' : ∀ j, j < ops.length → k ≤ j → (listed.setIfInBounds i true).getD j true = false := by
            intro j hj hkj
            rw [getD_set (by omega), setD_ne (by omega)]
            exact htl j hj hkj
          have hcnt' : (List.range ops.length).countP (fun j => !(listed.setIfInBounds i true).getD j true) = fuel := by
            have key : ∀ (l : List Nat), l.Nodup → i ∈ l → l.countP (fun j => !listed.getD j true) = l.countP (fun j => !(listed.setIfInBounds i true).getD j true) + 1 := by
              intro l
              induction l with
              | nil => intro _ h; cases h
              | cons y l ihl =>
                intro hnl hm
                rw [List.nodup_cons] at hnl
                rw [List.countP_cons, List.countP_cons]
                by_cases e : y = i
                · subst e
                  have hsame : l.countP (fun j => !listed.getD j true) = l.countP (fun j => !(listed.setIfInBounds y true).getD j true) := by
                    apply List.countP_congr
                    intro j hj
                    rw [getD_set (by omega), setD_ne (show j ≠ y from fun e1 => hnl.1 (e1 ▸ hj))]
                  rw [hsame, getD_set (by omega), setD_same, hnd]
                  simp
                · have hm' : i ∈ l := by
                    rcases List.mem_cons.1 hm with h | h
                    · exact absurd h.symm e
                    · exact h
                  rw [ihl hnl.2 hm', getD_set (by omega), setD_ne e]
                  omega
            have := key (List.range ops.length) List.nodup_range (by simpa using hil)
            omega
          have hio := c.cover i hik
          cases hg : isGh G i with
          | false =>
            have hgd : ∀ g A B, ord = A ++ g :: B → i ∈ B → isGh G g = true → listed.getD g true = true := by
              intro g A B he hb hgg
              have hgo : g ∈ ord := by rw [he]; simp
              have hgl : g < ops.length := Nat.lt_of_lt_of_le (c.lt g hgo) hle
              obtain ⟨_, g2⟩ := ordX_spec ord [] c.ok A g B he ops[g] (by simp [hgl])
              rcases g2 (by rw [← isGh_iff]; exact hgg) i hb with h | h
              · rw [← isGh_iff, hg] at h; cases h
              · exact hanc g h
            obtain ⟨o', L', Γ', A, B, e1, e2, e3, e4, e5⟩ := Live.plain (D := fun j => listed.getD j true) hg hnd c.nodup hio hgd Way.nil (by simp) hst.ph hst.live
            have heo : o = o' := Option.some.inj (ho.symm.trans e2)
            subst heo
            have hlk := hst.looks c htl e1 ho hnd hanc e3
            rcases e5 with ⟨hw, hl⟩ | ⟨hw, v, hkn, hrun, hl⟩
            · refine wpOp_of ho (wanted_of hlk hw) (fun h => by cases h) (fun _ => ?_)
              refine ih _ (updV V i undef) ξ _ w hsz' ?_ htl' hcnt'
              rw [hset]
              exact hst.did c ho hed (Or.inl (Kp.refl _ _)) hstab (by simp [gave, hg, updV]) (fun j hj => gave_updV hj) (fun j hj => rfl) (fun h => by rw [hg] at h; cases h) hl
            · refine wpOp_of ho (wanted_of hlk hw) (fun _ => ?_) (fun h => by cases h)
              have hr := hrun w hst.kp (fun p hp ha => e4 p hp (hanc p.1 ha))
              have hr' := OpRun.congr (c.sel o (List.mem_of_getElem? ho)) (eval_of hlk hkn) hr
              refine hr'.wp (fun v' w' ⟨h1, h2⟩ => ?_)
              subst h1
              refine ih _ (updV V i v') ξ _ w' hsz' ?_ htl' hcnt'
              rw [hset]
              exact hst.did c ho hed (Or.inl h2) hstab (by simp [gave, hg, updV]) (fun j hj => gave_updV hj) (fun j hj => rfl) (fun h => by rw [hg] at h; cases h) hl
          | true =>
            obtain ⟨o', L', Γ', A, B, e1, e2, e3, e4, hw, hkn, hea⟩ := Live.effect (D := fun j => listed.getD j true) hg hnd hanc hst.ph c.nodup hio Way.nil (by simp) hst.live
            have heo : o = o' := Option.some.inj (ho.symm.trans e2)
            subst heo
            have hlk := hst.looks c htl e1 ho hnd hanc e3
            refine wpOp_of ho (wanted_of hlk hw) (fun _ => ?_) (fun h => by cases h)
            rcases hea with ⟨hrun, hl⟩ | ⟨_, x, hrun, hl⟩
            · have hr := hrun w hst.kp (fun p hp ha => e4 p hp (hanc p.1 ha))
              have hr' := OpRun.congr (c.sel o (List.mem_of_getElem? ho)) (eval_of hlk hkn) hr
              refine hr'.wp (fun v' w' ⟨x, h1, h2, h3⟩ => ?_)
              subst h1
              refine ih _ V (updX ξ i x) _ w' hsz' ?_ htl' hcnt'
              rw [hset]
              exact hst.did c ho hed h3 hstab (by simp [gave, hg, updX_same]) (fun j hj => gave_updX hj) (fun j hj => updX_ne hj) (fun _ => by rw [updX_same]; exact h2) (hl x)
            · have hr := hrun w hst.kp (fun p hp ha => e4 p hp (hanc p.1 ha))
              have hr' := OpRun.congr (c.sel o (List.mem_of_getElem? ho)) (eval_of hlk hkn) hr
              refine hr'.wp (fun v' w' ⟨h1, h2, h3⟩ => ?_)
              subst h1
              refine ih _ V (updX ξ i x) _ w' hsz' ?_ htl' hcnt'
              rw [hset]
              exact hst.did c ho hed h3 hstab (by simp [gave, hg, updX_same]) (fun j hj => gave_updX hj) (fun j hj => updX_ne hj) (fun _ => by rw [updX_same]; exact h2) hl
        · exfalso
          apply hpre
          intro j hj
          exact hanc j (c.tl i hil (by omega) j (by omega))

theorem CG.free {id : Nat} (hm : P.follows .mixedOrders = true) (k : Nat) (ord : List Nat) (G : List (Nat × GD)) (hc : chkX n ops ord (G.map (·.1)) k = true) (hstab : ∀ p ∈ G, ∀ x, Stab [] (p.2.phi x))
    (h : DerX P w0 ops G (KX n w0 P ops Q k) ord L0 []) : CG P n (.region id ops.toArray true) Q L0 w0 := by
  intro a ha
  have c := ChkX.of hc
  refine wp_region_any hm ?_
  have hget : ∀ j, (Array.replicate ops.toArray.size false).getD j true = !decide (j < ops.length) := by
    intro j
    simp [Array.getD_eq_getD_getElem?, Array.getElem?_replicate]
    split <;> simp_all
  have hstab' : ∀ i x, Stab [] ((gdOf G i).phi x) := by
    have : ∀ (G : List (Nat × GD)), (∀ p ∈ G, ∀ x, Stab [] (p.2.phi x)) → ∀ i, ∀ x, Stab [] ((gdOf G i).phi x) := by
      intro G
      induction G with
      | nil => intro _ i x w w' _ _; exact trivial
      | cons p G ih =>
        intro h i
        obtain ⟨j, d⟩ := p
        have e : gdOf ((j, d) :: G) i = (if Nat.beq j i = true then d else gdOf G i) := by
          unfold gdOf
          simp only [gdLook]
          cases Nat.beq j i <;> rfl
        by_cases hb : Nat.beq j i = true
        · rw [e, if_pos hb]
          exact h (j, d) (by simp)
        · rw [e, if_neg hb]
          exact ih (fun q hq => h q (by simp [hq])) i
    exact this G hstab
  refine StX.wpAny (w0 := w0) (L0 := L0) (G := G) c hstab' _ _ (fun _ => undef) (fun i => (gdOf G i).x0) a _ (by simp) ?_ ?_ ?_
  · have hD : (fun j => (Array.replicate ops.toArray.size false).getD j true) = fun j => !decide (j < ops.length) := funext hget
    rw [hD]
    refine ⟨fun i o ho hd => ?_, ha.size, ha.defers, fun i o d ho hd => ?_, fun t v hv _ => ha.slot t v hv, (Kp.refl [] w0).drew, fun i hg hd => ?_, ?_⟩
    · simp [(List.getElem?_eq_some_iff.1 ho).1] at hd
    · simp [(List.getElem?_eq_some_iff.1 ho).1] at hd
    · rw [isGh_iff, List.elem_eq_mem] at hg
      have := c.lt i (c.gi i (of_decide_eq_true hg))
      have hle := c.le
      have hil : i < ops.length := by omega
      simp [hil] at hd
    · refine Live.congr (fun i hi => ⟨?_, rfl, rfl⟩) h
      have h1 := c.lt i hi
      have hle := c.le
      have hil : i < ops.length := by omega
      simp [hil]
  · intro i hi _
    rw [hget]; simp [hi]
  · have : (List.range ops.length).countP (fun i => !(Array.replicate ops.toArray.size false).getD i true) = (List.range ops.length).length := by
      rw [List.countP_eq_length]
      intro i hi
      rw [hget]
      simp at hi
      simp [hi]
    rw [this]
    simp
end
end Go.Proofs.Ytnoipmimddoioaa
/-
  Effects beside one another: the rules that a walk uses.
-/
namespace Go.Proofs.Ytnoipmimddoioaa
set_option linter.unusedVariables false

section
variable {P : Program} {n : Nat} {ops : List Oper} {Q : Exit → Act → World → Prop} {w0 : World} {L : Env} {G : List (Nat × GD)} {K : Env → List Fact → Prop} {Γ : List Fact} {i : Nat} {ord : List Nat} {ty : TypeId} {pos : String} {af : Array Edge} {g : Option (Nat × Bool)}

theorem DerX.val {d : Nat} {op : Op} {v : Value} (hg : isGh G i = false) (ho : ops[i]? = some ⟨some d, op, ty, pos, af, g⟩) (hw : want ops L ⟨some d, op, ty, pos, af, g⟩ = some true) (hk : op.operands.toList.all (known L) = true)
    (hv : Vals P [] w0 (Facts ops i Γ) L ⟨some d, op, ty, pos, af, g⟩ v) (h : DerX P w0 ops G K ord ((d, v) :: L) Γ) : DerX P w0 ops G K (i :: ord) L Γ :=
  ⟨_, ho, Or.inl ⟨hg, Or.inr (Or.inr ⟨rfl, hw, v, hk, fun w hkp hF => by unfold OpRun; rw [hv w hkp hF]; exact ⟨rfl, Kp.refl _ _⟩, h⟩)⟩⟩
theorem DerX.skip {d : Nat} {op : Op} (hg : isGh G i = false) (ho : ops[i]? = some ⟨some d, op, ty, pos, af, g⟩) (hw : want ops L ⟨some d, op, ty, pos, af, g⟩ = some false)
    (h : DerX P w0 ops G K ord ((d, undef) :: L) Γ) : DerX P w0 ops G K (i :: ord) L Γ :=
  ⟨_, ho, Or.inl ⟨hg, Or.inr (Or.inl ⟨rfl, hw, h⟩)⟩⟩
/-- A call with a fixed answer. -/
theorem DerX.call {d : Nat} {f : FuncId} [Fnc P f] {args : List Operand} {vs : List Value} {tys : Array TypeId} {v : Value} (hg : isGh G i = false)
    (ho : ops[i]? = some ⟨some d, .call ⟨.value (.func f), args.toArray, tys⟩, ty, pos, af, g⟩) (hw : want ops L ⟨some d, .call ⟨.value (.func f), args.toArray, tys⟩, ty, pos, af, g⟩ = some true) (hk : (Op.call ⟨.value (.func f), args.toArray, tys⟩).operands.toList.all (known L) = true)
    (he : Evs L args vs) (hc : ∀ w, Kp [] w0 w → Facts ops i Γ w → Ret P f vs.toArray w v) (h : DerX P w0 ops G K ord ((d, v) :: L) Γ) : DerX P w0 ops G K (i :: ord) L Γ :=
  ⟨_, ho, Or.inl ⟨hg, Or.inr (Or.inr ⟨rfl, hw, v, hk, fun w h1 h2 => orun_call (by rw [he.arr]; exact (hc w h1 h2).mono (fun e w' ⟨g1, g2⟩ => ⟨v, g1, rfl, g2⟩)), h⟩)⟩⟩
/-- An effect. -/
theorem DerX.eff {o : Oper} (D : GD) (hg : gdLook G i = some D) (ho : ops[i]? = some o) (hw : want ops L o = some true) (hk : o.op.operands.toList.all (known L) = true)
    (hc : ∀ w, Kp [] w0 w → Facts ops i Γ w → OpRun P (rho L) o w (fun v w' => ∃ x, v = D.val x ∧ D.phi x w' ∧ Kp [] w w'))
    (h : ∀ x, DerX P w0 ops G K ord (addD o.dst (D.val x) L) ((i, D.phi x) :: Γ)) : DerX P w0 ops G K (i :: ord) L Γ := by
  have e : gdOf G i = D := by simp [gdOf, hg]
  refine ⟨o, ho, Or.inr ⟨by simp [isGh, hg], Or.inr (Or.inl ⟨rfl, hw, hk, ?_, ?_⟩)⟩⟩
  · rw [e]; exact fun w h1 h2 => (hc w h1 h2).mono (fun v w' ⟨x, g1, g2, g3⟩ => ⟨x, g1, g2, Or.inl g3⟩)
  · rw [e]; exact h
/-- An effect that turns what the region has made. -/
theorem DerX.effN {o : Oper} (D : GD) (hg : gdLook G i = some D) (ho : ops[i]? = some o) (hw : want ops L o = some true) (hk : o.op.operands.toList.all (known L) = true)
    (hc : ∀ w, Kp [] w0 w → Facts ops i Γ w → OpRun P (rho L) o w (fun v w' => ∃ x, v = D.val x ∧ D.phi x w' ∧ Kp [] w0 w' ∧ ∀ j x, j ≠ i → (gdOf G j).phi x w → (gdOf G j).phi x w'))
    (h : ∀ x, DerX P w0 ops G K ord (addD o.dst (D.val x) L) ((i, D.phi x) :: Γ)) : DerX P w0 ops G K (i :: ord) L Γ := by
  have e : gdOf G i = D := by simp [gdOf, hg]
  refine ⟨o, ho, Or.inr ⟨by simp [isGh, hg], Or.inr (Or.inl ⟨rfl, hw, hk, ?_, ?_⟩)⟩⟩
  · rw [e]; exact fun w h1 h2 => (hc w h1 h2).mono (fun v w' ⟨x, g1, g2, g3⟩ => ⟨x, g1, g2, Or.inr g3⟩)
  · rw [e]; exact h
/-- An effect whose x is known: all effects ahead of it in the order stand ahead of it. -/
theorem DerX.effD {o : Oper} (D : GD) (x : D.X) (hg : gdLook G i = some D) (ho : ops[i]? = some o) (hw : want ops L o = some true) (hk : o.op.operands.toList.all (known L) = true) (ha : Γ.all (fun p => anc ops i p.1) = true)
    (hc : ∀ w, Kp [] w0 w → Facts ops i Γ w → OpRun P (rho L) o w (fun v w' => v = D.val x ∧ D.phi x w' ∧ Kp [] w0 w' ∧ ∀ j y, j ≠ i → (gdOf G j).phi y w → (gdOf G j).phi y w'))
    (h : DerX P w0 ops G K ord (addD o.dst (D.val x) L) ((i, D.phi x) :: Γ)) : DerX P w0 ops G K (i :: ord) L Γ := by
  have e : gdOf G i = D := by simp [gdOf, hg]
  subst e
  refine ⟨o, ho, Or.inr ⟨by simp [isGh, hg], Or.inr (Or.inr ⟨rfl, hw, hk, fun p hp => List.all_eq_true.1 ha p hp, x, ?_, h⟩)⟩⟩
  exact fun w h1 h2 => (hc w h1 h2).mono (fun v w' ⟨g1, g2, g3⟩ => ⟨g1, g2, Or.inr g3⟩)
/-- A call that is an effect. -/
theorem DerX.callE {d : Nat} {f : FuncId} [Fnc P f] {args : List Operand} {vs : List Value} {tys : Array TypeId} (D : GD) (hg : gdLook G i = some D)
    (ho : ops[i]? = some ⟨some d, .call ⟨.value (.func f), args.toArray, tys⟩, ty, pos, af, g⟩) (hw : want ops L ⟨some d, .call ⟨.value (.func f), args.toArray, tys⟩, ty, pos, af, g⟩ = some true) (hk : (Op.call ⟨.value (.func f), args.toArray, tys⟩).operands.toList.all (known L) = true)
    (he : Evs L args vs) (hc : ∀ w, Kp [] w0 w → Facts ops i Γ w → Calls P f vs.toArray w (fun e w' => ∃ x, e = .returned (D.val x) ∧ D.phi x w' ∧ Kp [] w w'))
    (h : ∀ x, DerX P w0 ops G K ord ((d, D.val x) :: L) ((i, D.phi x) :: Γ)) : DerX P w0 ops G K (i :: ord) L Γ :=
  DerX.eff D hg ho hw hk (fun w h1 h2 => orun_call (by rw [he.arr]; exact (hc w h1 h2).mono (fun e w' ⟨x, g1, g2, g3⟩ => ⟨D.val x, g1, x, rfl, g2, g3⟩))) h

/-- What is promised of a slice of l. -/
def gS {α : Type} (m : Nat) (enc : α → List Value) (sz : Nat) (l : List α) : GD := ⟨Option Addr × Nat, (none, 0), fun q => .slice q.1 l.length q.2, fun q w => SlF m enc sz w q.1 q.2 l⟩
theorem gS_stab {α : Type} {m : Nat} {enc : α → List Value} {sz : Nat} {l : List α} (x : (gS m enc sz l).X) : Stab [] ((gS m enc sz l).phi x) := fun w w' hk h => SlF.kp0 h hk
theorem DerX.callS {α : Type} {enc : α → List Value} {sz : Nat} {m d : Nat} {f : FuncId} [Fnc P f] {args : List Operand} {vs : List Value} {tys : Array TypeId} (l : List α) (hg : gdLook G i = some (gS m enc sz l))
    (ho : ops[i]? = some ⟨some d, .call ⟨.value (.func f), args.toArray, tys⟩, ty, pos, af, g⟩) (hw : want ops L ⟨some d, .call ⟨.value (.func f), args.toArray, tys⟩, ty, pos, af, g⟩ = some true) (hk : (Op.call ⟨.value (.func f), args.toArray, tys⟩).operands.toList.all (known L) = true)
    (he : Evs L args vs) (hm : m ≤ w0.heap.size) (hc : ∀ w, Kp [] w0 w → Facts ops i Γ w → RetS P enc sz f vs.toArray w l)
    (h : ∀ (a : Option Addr) (c : Nat), DerX P w0 ops G K ord ((d, .slice a l.length c) :: L) ((i, fun w => SlF m enc sz w a c l) :: Γ)) : DerX P w0 ops G K (i :: ord) L Γ :=
  DerX.callE (gS m enc sz l) hg ho hw hk he (fun w h1 h2 => (hc w h1 h2).mono (fun e w' ⟨a, c, g1, g2, g3⟩ => ⟨(a, c), g1, g2.mono (Nat.le_trans hm h1.size), g3⟩)) (fun x => h x.1 x.2)
/-- A slice written out. -/
theorem DerX.buildSlice {α : Type} {enc : α → List Value} {sz m d : Nat} {T E : TypeId} {parts : List (Nat × Operand)} {vs : List (Nat × Value)} {b : Nat} (l : List α) (hel : ∀ x, (enc x).length = sz) (hg : gdLook G i = some (gS m enc sz l)) (hb : Nat.beq l.length b = true)
    (ho : ops[i]? = some ⟨some d, .buildSlice T b parts.toArray, ty, pos, af, g⟩) (hw : want ops L ⟨some d, .buildSlice T b parts.toArray, ty, pos, af, g⟩ = some true) (hk : (Op.buildSlice T b parts.toArray).operands.toList.all (known L) = true)
    (he : (parts.map fun p => (p.1, rho L p.2)) = vs) (hm : m ≤ w0.heap.size) (hrun : ∀ w : World, (Instr.buildSlice T b vs.toArray).run P w = .ok (.slice (some ⟨w.heap.size, 0, none⟩) b b) { w with heap := w.heap.push (.cells (flt enc l).toArray E) })
    (h : ∀ (a : Option Addr) (c : Nat), DerX P w0 ops G K ord ((d, .slice a l.length c) :: L) ((i, fun w => SlF m enc sz w a c l) :: Γ)) : DerX P w0 ops G K (i :: ord) L Γ := by
  have hb' := Nat.eq_of_beq_eq_true hb
  subst hb'
  refine DerX.eff (gS m enc sz l) hg ho hw hk (fun w h1 h2 => ?_) (fun x => h x.1 x.2)
  unfold OpRun
  have e : (parts.toArray.map fun (p : Nat × Operand) => (p.1, rho L p.2)) = vs.toArray := by simp [he]
  have : (execOp (rho L) ⟨some d, .buildSlice T l.length parts.toArray, ty, pos, af, g⟩).run P w = .ok (.value (.slice (some ⟨w.heap.size, 0, none⟩) l.length l.length)) { w with heap := w.heap.push (.cells (flt enc l).toArray E) } := by
    simp only [execOp, e, Sem.run_bind, hrun w, Result.andThen, Sem.run_pure]
  rw [this]
  refine ⟨(some ⟨w.heap.size, 0, none⟩, l.length), rfl, ⟨Nat.le_refl _, fun b off e => ?_, ?_⟩, Kp.push w _ rfl⟩
  · simp only [Option.some.injEq, Addr.mk.injEq] at e
    have := h1.size
    omega
  · refine Sl.of_blk hel (pre := []) (post := []) (T := E) ?_
    have := Blk.push w (.cells (flt enc l).toArray E)
    simpa using this
theorem DerX.tl {k : Nat} (h : ∀ w', Kp [] w0 w' → (∀ p ∈ Γ, p.2 w') → SG P n ops Q (ops.drop k) L w') : DerX P w0 ops G (KX n w0 P ops Q k) [] L Γ := h
end
end Go.Proofs.Ytnoipmimddoioaa
/-
  'append([]T{}, s...)': a slice copied, also beside other effects.
-/
namespace Go.Proofs.Ytnoipmimddoioaa
set_option linter.unusedVariables false

theorem Row.append {w : World} {b off : Nat} {A B : List Value} (h : Row w b off A) (h' : Row w b (off + A.length) B) : Row w b off (A ++ B) := by
  obtain ⟨cs, T, f, h1, h2⟩ := h
  obtain ⟨cs', T', f', h3, h4⟩ := h'
  rw [h1] at h3
  cases h3
  refine ⟨cs, T, f, h1, fun i v hv => ?_⟩
  by_cases hi : i < A.length
  · rw [List.getElem?_append_left hi] at hv
    exact h2 i v hv
  · rw [List.getElem?_append_right (by omega)] at hv
    have := h4 _ v hv
    rw [show off + A.length + (i - A.length) = off + i by omega] at this
    exact this
theorem Row.nil_of {w : World} {b off off' : Nat} {A : List Value} (h : Row w b off A) : Row w b off' [] := by
  obtain ⟨cs, T, f, h1, _⟩ := h
  exact ⟨cs, T, f, h1, fun i v hv => by simp at hv⟩

section
variable {α : Type} {enc : α → List Value} {sz : Nat}
theorem Sl.tail {w : World} {b off : Nat} {x : α} {l : List α} (h : Sl enc sz w (some ⟨b, off, none⟩) (x :: l)) : Sl enc sz w (some ⟨b, off + sz, none⟩) l := fun i y hy => by
  have := h.row (i := i + 1) (x := y) (by simpa using hy)
  refine ⟨b, off + sz, rfl, ?_⟩
  rw [show off + sz + i * sz = off + (i + 1) * sz by rw [Nat.add_mul]; omega]
  exact this
theorem Sl.flat (hel : ∀ x, (enc x).length = sz) {w : World} {b : Nat} : ∀ {l : List α} {off : Nat}, l ≠ [] → Sl enc sz w (some ⟨b, off, none⟩) l → Row w b off (flt enc l)
  | [], _, h, _ => absurd rfl h
  | [x], off, _, h => by
    have := h.row (i := 0) (x := x) rfl
    simpa [flt] using this
  | x :: y :: l, off, _, h => by
    have h1 := h.row (i := 0) (x := x) rfl
    have h2 := Sl.flat hel (by simp) h.tail
    have : flt enc (x :: y :: l) = enc x ++ flt enc (y :: l) := by simp [flt]
    rw [this]
    refine Row.append (by simpa using h1) ?_
    rw [hel]
    exact h2

variable {P : Program} {w : World}
theorem run_cloneO {t ty e : TypeId} [u : Ut P t (.slice e)] {i : TypeInfo} [f : Inf P e i] {z : Value} (hz : i.zero = some z) (hzs : z.cells.size = i.size) (hsz : 0 < i.size) (hel : ∀ x, (enc x).length = i.size) (hone : ∀ x, allOne (enc x) = true)
    {a : Option Addr} {c : Nat} {l : List α} (hs : Sl enc i.size w a l) {b0 m : Nat} (hb0 : Blk w b0 (.cells #[] e)) (hm : m ≤ b0) (h63 : l.length ≤ maxLen) (hbytes : l.length * i.bytes ≤ 140737488355328) :
    ∃ v' w', (Builtin.append_ #[t, t] ty #[.slice (some ⟨b0, 0, none⟩) 0 0, .slice a l.length c]).run P w = .ok v' w' ∧ w'.ownsRow m e i.size v' l.length (flt enc l) ∧ Kp [] w w' := by
  have hown : w.ownsRow m e i.size (.slice (some ⟨b0, 0, none⟩) 0 0) 0 [] := by
    refine ⟨by simp, Or.inr ⟨b0, 0, #[], rfl, hm, hb0, Nat.le_refl _, by simp [maxLen], by simp, by simp⟩⟩
  by_cases hl : l = []
  · subst hl
    refine ⟨.slice (some ⟨b0, 0, none⟩) 0 0, w, ?_, hown, Kp.refl _ _⟩
    cases a <;> simp [Builtin.append_, run_underlying u.eq, sizeOf, typeInfo, f.eq, Builtin.lenOf, Builtin.firstCells, loadCells, loadCellsFrom, storeCells]
  · have hpos : 0 < l.length := List.length_pos_iff.2 hl
    obtain ⟨b, off, rfl, _⟩ := hs.at hpos
    have hr := hs.flat hel hl
    have hlen : (flt enc l).length = l.length * i.size := flt_length hel l
    obtain ⟨v', w', h1, h2, h3⟩ := run_append (P := P) (ty := ty) (d := .bool) (c := c) (u := u) (f := f) hz hzs hsz hown hlen hr (flt_all hone l) (by omega) (by simpa using hbytes) (by have := hb0.lt; omega)
    have hnews : ∀ j u', (flt enc l)[j]? = some u' → w.cell? ((⟨b, off, none⟩ : Addr).add j) = some u' := fun j u' hu => by rw [add_none]; exact hr.cell hu
    have hm' : l.length ≤ 9223372036854775807 := by simp only [maxLen] at h63; omega
    have hr2 := run_append_grow (P := P) w t ty e i z u.eq f.eq hz ⟨b0, 0, none⟩ 0 0 [] (by simp) (by simp) ⟨b, off, none⟩ l.length c (flt enc l) hlen hnews (by omega) (by omega) (growslice_fits (by omega) (by simpa using hbytes))
    have h1' := h1
    rw [hr2] at h1
    simp only [Result.ok.injEq] at h1
    obtain ⟨hv, hw⟩ := h1
    have hk : Kp [] w w' := by rw [← hw]; exact Kp.alloc_drew w _ rfl
    simp only [Nat.zero_add, List.nil_append] at h2
    exact ⟨v', w', h1', h2, hk⟩
theorem run_clone {t ty e : TypeId} [u : Ut P t (.slice e)] {i : TypeInfo} [f : Inf P e i] {z : Value} (hz : i.zero = some z) (hzs : z.cells.size = i.size) (hsz : 0 < i.size) (hel : ∀ x, (enc x).length = i.size) (hone : ∀ x, allOne (enc x) = true)
    {a : Option Addr} {c : Nat} {l : List α} (hs : Sl enc i.size w a l) {b0 m : Nat} (hb0 : Blk w b0 (.cells #[] e)) (hm : m ≤ b0) (h63 : l.length ≤ maxLen) (hbytes : l.length * i.bytes ≤ 140737488355328) :
    ∃ a' c' w', (Builtin.append_ #[t, t] ty #[.slice (some ⟨b0, 0, none⟩) 0 0, .slice a l.length c]).run P w = .ok (.slice a' l.length c') w' ∧ SlF m enc i.size w' a' c' l ∧ Kp [] w w' := by
  obtain ⟨v', w', h1, h2, h3⟩ := run_cloneO (P := P) (ty := ty) (c := c) (u := u) (f := f) hz hzs hsz hel hone hs hb0 hm h63 hbytes
  obtain ⟨a', c', e1, e2⟩ := SlF.own (l := l) hel h2 rfl
  subst e1
  exact ⟨a', c', w', h1, e2, h3⟩

/-- '[]T{}': a new slice of none. -/
def gE (m : Nat) (E : TypeId) : GD := ⟨Nat, 0, fun b => .slice (some ⟨b, 0, none⟩) 0 0, fun b w => m ≤ b ∧ Blk w b (.cells #[] E)⟩
theorem gE_stab {m : Nat} {E : TypeId} (x : (gE m E).X) : Stab [] ((gE m E).phi x) := fun w w' hk h => ⟨h.1, Blk.kp0 h.2 hk⟩
theorem run_empty {T E : TypeId} {i : TypeInfo} [u : Ut P T (.slice E)] [f : Inf P E i] : (Instr.buildSlice T 0 #[]).run P w = .ok (.slice (some ⟨w.heap.size, 0, none⟩) 0 0) { w with heap := w.heap.push (.cells #[] E) } := by
  simp [Instr.buildSlice, run_underlying u.eq, sizeOf, typeInfo, f.eq, Instr.fill, newRow, newObj, Sem.run, Result.andThen]
  congr 2
  exact Array.eq_empty_of_size_eq_zero (by simp)

variable {n : Nat} {ops : List Oper} {Q : Exit → Act → World → Prop} {w0 : World} {L : Env} {G : List (Nat × GD)} {K : Env → List Fact → Prop} {Γ : List Fact} {j : Nat} {ord : List Nat} {ty : TypeId} {pos : String} {af : Array Edge} {g : Option (Nat × Bool)}
theorem DerX.empty {m d : Nat} {T E : TypeId} {i : TypeInfo} [u : Ut P T (.slice E)] [f : Inf P E i] (hg : gdLook G j = some (gE m E)) (ho : ops[j]? = some ⟨some d, .buildSlice T 0 #[], ty, pos, af, g⟩) (hw : want ops L ⟨some d, .buildSlice T 0 #[], ty, pos, af, g⟩ = some true) (hm : m ≤ w0.heap.size)
    (h : ∀ b, DerX P w0 ops G K ord ((d, .slice (some ⟨b, 0, none⟩) 0 0) :: L) ((j, fun w => m ≤ b ∧ Blk w b (.cells #[] E)) :: Γ)) : DerX P w0 ops G K (j :: ord) L Γ := by
  refine DerX.eff (gE m E) hg ho hw (by simp [Op.operands]) (fun w h1 h2 => ?_) (fun x => h x)
  unfold OpRun
  have : (execOp (rho L) ⟨some d, .buildSlice T 0 #[], ty, pos, af, g⟩).run P w = .ok (.value (.slice (some ⟨w.heap.size, 0, none⟩) 0 0)) { w with heap := w.heap.push (.cells #[] E) } := by
    simp only [execOp, List.map_toArray, List.map_nil, Sem.run_bind, run_empty (u := u) (f := f), Result.andThen, Sem.run_pure]
  rw [this]
  exact ⟨w.heap.size, rfl, ⟨Nat.le_trans hm h1.size, Blk.push w _⟩, Kp.push w _ rfl⟩
theorem DerX.clone {m d : Nat} {t e : TypeId} {i : TypeInfo} [u : Ut P t (.slice e)] [f : Inf P e i] {z : Value} {s x : Operand} {b0 : Nat} {a : Option Addr} {c : Nat} (l : List α) (hel : ∀ x, (enc x).length = i.size) (hone : ∀ x, allOne (enc x) = true) (hg : gdLook G j = some (gS m enc i.size l))
    (ho : ops[j]? = some ⟨some d, .call { callee := .builtin .append, args := #[s, x], argTypes := #[t, t] }, ty, pos, af, g⟩) (hw : want ops L ⟨some d, .call { callee := .builtin .append, args := #[s, x], argTypes := #[t, t] }, ty, pos, af, g⟩ = some true) (hk : (known L s && known L x) = true)
    (hs : rho L s = .slice (some ⟨b0, 0, none⟩) 0 0) (hx : rho L x = .slice a l.length c) (hz : i.zero = some z) (hzs : Nat.beq z.cells.size i.size = true) (hsz : Nat.blt 0 i.size = true) (h63 : l.length ≤ maxLen) (hbytes : l.length * i.bytes ≤ 140737488355328)
    (hc : ∀ w, Kp [] w0 w → Facts ops j Γ w → Sl enc i.size w a l ∧ m ≤ b0 ∧ Blk w b0 (.cells #[] e))
    (h : ∀ (a : Option Addr) (c : Nat), DerX P w0 ops G K ord ((d, .slice a l.length c) :: L) ((j, fun w => SlF m enc i.size w a c l) :: Γ)) : DerX P w0 ops G K (j :: ord) L Γ := by
  refine DerX.eff (gS m enc i.size l) hg ho hw (by simpa [Op.operands, Call.operands] using hk) (fun w h1 h2 => ?_) (fun x => h x.1 x.2)
  obtain ⟨g1, g2, g3⟩ := hc w h1 h2
  obtain ⟨a', c', w', e1, e2, e3⟩ := run_clone (P := P) (ty := ty) (c := c) (u := u) (f := f) hz (Nat.eq_of_beq_eq_true hzs) (by simpa [Nat.blt_eq] using hsz) hel hone g1 g3 g2 h63 hbytes
  unfold OpRun
  have : (execOp (rho L) ⟨some d, .call { callee := .builtin .append, args := #[s, x], argTypes := #[t, t] }, ty, pos, af, g⟩).run P w = .ok (.value (.slice a' l.length c')) w' := by
    simp only [execOp, resolve, invoke, builtin, Sem.run_bind, Sem.run_pure, Result.andThen_ok, List.map_toArray, List.map_cons, List.map_nil, hs, hx, e1]
  rw [this]
  exact ⟨(a', c'), rfl, e2, e3⟩
end
end Go.Proofs.Ytnoipmimddoioaa
/-
  Calls that answer a slice of which the caller may dispose.
-/
namespace Go.Proofs.Ytnoipmimddoioaa
set_option linter.unusedVariables false

section
variable {α : Type} {enc : α → List Value} {sz : Nat} {P : Program}
def RetO (P : Program) (E : TypeId) (enc : α → List Value) (sz : Nat) (f : FuncId) (args : Array Value) (w : World) (l : List α) : Prop := Calls P f args w (fun e w' => ∃ v, e = .returned v ∧ w'.ownsRow w.heap.size E sz v l.length (flt enc l) ∧ Kp [] w w')
theorem own_mono {w : World} {base base' : Nat} {E : TypeId} {v : Value} {n : Nat} {xs : List Value} (h : w.ownsRow base E sz v n xs) (hb : base' ≤ base) : w.ownsRow base' E sz v n xs := by
  obtain ⟨h1, h2⟩ := h
  refine ⟨h1, ?_⟩
  rcases h2 with h2 | ⟨g, cap, cur, h3, h4, h5⟩
  · exact Or.inl h2
  · exact Or.inr ⟨g, cap, cur, h3, Nat.le_trans hb h4, h5⟩
theorem RetO.toS {E : TypeId} {f : FuncId} {args : Array Value} {w : World} {l : List α} (hel : ∀ x, (enc x).length = sz) (h : RetO P E enc sz f args w l) : RetS P enc sz f args w l :=
  h.mono (fun e w' ⟨v, h1, h2, h3⟩ => by
    obtain ⟨a, c, e1, e2⟩ := SlF.own hel h2 rfl
    exact ⟨a, c, by rw [h1, e1], e2, h3⟩)
/-- What is promised of a slice that is owned. -/
def gO (m : Nat) (E : TypeId) (enc : α → List Value) (sz : Nat) (l : List α) : GD := ⟨Value, undef, fun v => v, fun v w => w.ownsRow m E sz v l.length (flt enc l)⟩
theorem gO_stab {m : Nat} {E : TypeId} {l : List α} (x : (gO m E enc sz l).X) : Stab [] ((gO m E enc sz l).phi x) := fun w w' hk h => own_kp0 h hk
variable {n : Nat} {ops : List Oper} {Q : Exit → Act → World → Prop} {w0 : World} {L : Env} {G : List (Nat × GD)} {K : Env → List Fact → Prop} {Γ : List Fact} {i : Nat} {ord : List Nat} {ty : TypeId} {pos : String} {af : Array Edge} {g : Option (Nat × Bool)}
theorem DerX.callO {E : TypeId} {m d : Nat} {f : FuncId} [Fnc P f] {args : List Operand} {vs : List Value} {tys : Array TypeId} (l : List α) (hg : gdLook G i = some (gO m E enc sz l))
    (ho : ops[i]? = some ⟨some d, .call ⟨.value (.func f), args.toArray, tys⟩, ty, pos, af, g⟩) (hw : want ops L ⟨some d, .call ⟨.value (.func f), args.toArray, tys⟩, ty, pos, af, g⟩ = some true) (hk : (Op.call ⟨.value (.func f), args.toArray, tys⟩).operands.toList.all (known L) = true)
    (he : Evs L args vs) (hm : m ≤ w0.heap.size) (hc : ∀ w, Kp [] w0 w → Facts ops i Γ w → RetO P E enc sz f vs.toArray w l)
    (h : ∀ v, DerX P w0 ops G K ord ((d, v) :: L) ((i, fun w => w.ownsRow m E sz v l.length (flt enc l)) :: Γ)) : DerX P w0 ops G K (i :: ord) L Γ :=
  DerX.callE (gO m E enc sz l) hg ho hw hk he (fun w h1 h2 => (hc w h1 h2).mono (fun e w' ⟨v, g1, g2, g3⟩ => ⟨v, g1, own_mono g2 (Nat.le_trans hm h1.size), g3⟩)) h
theorem DerX.cloneO {m d : Nat} {t e : TypeId} {inf : TypeInfo} [u : Ut P t (.slice e)] [f : Inf P e inf] {z : Value} {s x : Operand} {b0 : Nat} {a : Option Addr} {c : Nat} (l : List α) (hel : ∀ x, (enc x).length = inf.size) (hone : ∀ x, allOne (enc x) = true) (hg : gdLook G i = some (gO m e enc inf.size l))
    (ho : ops[i]? = some ⟨some d, .call { callee := .builtin .append, args := #[s, x], argTypes := #[t, t] }, ty, pos, af, g⟩) (hw : want ops L ⟨some d, .call { callee := .builtin .append, args := #[s, x], argTypes := #[t, t] }, ty, pos, af, g⟩ = some true) (hk : (known L s && known L x) = true)
    (hs : rho L s = .slice (some ⟨b0, 0, none⟩) 0 0) (hx : rho L x = .slice a l.length c) (hz : inf.zero = some z) (hzs : Nat.beq z.cells.size inf.size = true) (hsz : Nat.blt 0 inf.size = true) (h63 : l.length ≤ maxLen) (hbytes : l.length * inf.bytes ≤ 140737488355328)
    (hc : ∀ w, Kp [] w0 w → Facts ops i Γ w → Sl enc inf.size w a l ∧ m ≤ b0 ∧ Blk w b0 (.cells #[] e))
    (h : ∀ v, DerX P w0 ops G K ord ((d, v) :: L) ((i, fun w => w.ownsRow m e inf.size v l.length (flt enc l)) :: Γ)) : DerX P w0 ops G K (i :: ord) L Γ := by
  refine DerX.eff (gO m e enc inf.size l) hg ho hw (by simpa [Op.operands, Call.operands] using hk) (fun w h1 h2 => ?_) h
  obtain ⟨g1, g2, g3⟩ := hc w h1 h2
  obtain ⟨v', w', e1, e2, e3⟩ := run_cloneO (P := P) (ty := ty) (c := c) (u := u) (f := f) hz (Nat.eq_of_beq_eq_true hzs) (by simpa [Nat.blt_eq] using hsz) hel hone g1 g3 g2 h63 hbytes
  unfold OpRun
  have : (execOp (rho L) ⟨some d, .call { callee := .builtin .append, args := #[s, x], argTypes := #[t, t] }, ty, pos, af, g⟩).run P w = .ok (.value v') w' := by
    simp only [execOp, resolve, invoke, builtin, Sem.run_bind, Sem.run_pure, Result.andThen_ok, List.map_toArray, List.map_cons, List.map_nil, hs, hx, e1]
  rw [this]
  exact ⟨v', rfl, e2, e3⟩
end
end Go.Proofs.Ytnoipmimddoioaa
/-
  A region that draws, with one block that is read and written over.
-/
namespace Go.Proofs.Ytnoipmimddoioaa
set_option linter.unusedVariables false
section
variable {P : Program} {L : Env} {ty : TypeId} {pos : String} {af : Array Edge} {g : Option (Nat × Bool)} {S : List Nat} {w0 : World} {ops : List Oper} {gh : List Nat} {K : Env → (World → Prop) → (World → Prop) → Prop} {i : Nat} {ord : List Nat} {F R : World → Prop}
/-- a call whose answer is told by facts that stay, beside the resource -/
theorem Der.callGR {X : Type} {d : Nat} {f : FuncId} [Fnc P f] {args : List Operand} {vs : List Value} {tys : Array TypeId} (val : X → Value) (F' R' : X → World → Prop)
    (ho : ops[i]? = some ⟨some d, .call ⟨.value (.func f), args.toArray, tys⟩, ty, pos, af, g⟩) (hw : want ops L ⟨some d, .call ⟨.value (.func f), args.toArray, tys⟩, ty, pos, af, g⟩ = some true) (hg : gh.elem i = true) (hk : (Op.call ⟨.value (.func f), args.toArray, tys⟩).operands.toList.all (known L) = true)
    (he : Evs L args vs) (hF : ∀ x, Stab S (F' x)) (hR : ∀ x, Stab [] (R' x)) (hFs : Stab S F) (hc : ∀ w, Kp S w0 w → F w → R w → Calls P f vs.toArray w (fun e w' => ∃ x, e = .returned (val x) ∧ F' x w' ∧ R' x w' ∧ Kp S w w'))
    (hd : ∀ x, Der P S w0 ops gh K ord ((d, val x) :: L) (fun w => F w ∧ F' x w) (R' x)) : Der P S w0 ops gh K (i :: ord) L F R :=
  Der.ghost val F' R' ho hw hg hk hF hR hFs (fun w h1 h2 h3 => orun_call (by rw [he.arr]; exact (hc w h1 h2 h3).mono (fun e w' ⟨x, g1, g2, g3, g4⟩ => ⟨val x, g1, x, rfl, g2, g3, g4⟩))) hd
/-- the whole block written over -/
theorem Der.storeAll {T T' : TypeId} {inf : TypeInfo} [f : Inf P T inf] {a x : Operand} {b : Nat} {old : List Value} {v : Value}
    (ho : ops[i]? = some ⟨none, .store T a x, ty, pos, af, g⟩) (hw : want ops L ⟨none, .store T a x, ty, pos, af, g⟩ = some true) (hg : gh.elem i = true) (hk : (known L a && known L x) = true) (ha : rho L a = .pointer (some ⟨b, 0, none⟩)) (hx : rho L x = v)
    (hn : v.cells.toList.length = inf.size) (hold : old.length = inf.size) (hone : allOne v.cells.toList = true) (hb : b ∈ S) (hFs : Stab S F)
    (hd : Der P S w0 ops gh K ord L (fun w => F w ∧ True) (fun w => Blk w b (.cells v.cells.toList.toArray T'))) : Der P S w0 ops gh K (i :: ord) L F (fun w => Blk w b (.cells old.toArray T')) := by
  refine Der.storeR (fun w => Blk w b (.cells v.cells.toList.toArray T')) ho hw hg hk ha hx hFs (fun w w' hk h => h.kp0 hk) (fun w h => ?_) hd
  have hlen : old.length = v.cells.toList.length := hold.trans hn.symm
  have hrun := run_storeAt (P := P) (f := f) (off := 0) (v := v) h hn (by simp only [List.size_toArray]; omega) hone
  refine ⟨_, hrun, ?_, (Kp.set w h rfl rfl).mono (by intro z hz; simp at hz; subst hz; exact hb)⟩
  have := h.set (.cells (spl old 0 v.cells.toList).toArray T')
  rw [spl_all hlen] at this
  simpa [spl_all hlen] using this
end
end Go.Proofs.Ytnoipmimddoioaa
/-
  Keys that are ints; calls of function values; slices against nil; delete; a slice copied in text order.
-/
namespace Go.Proofs.Ytnoipmimddoioaa
set_option linter.unusedVariables false

/-- An int that Go can have. -/
abbrev I64 := { z : Int // -9223372036854775808 ≤ z ∧ z ≤ 9223372036854775807 }
@[reducible] def iv (z : I64) : Value := .int .i64 z.1
theorem iv_inj {a b : I64} (h : iv a = iv b) : a = b := by
  apply Subtype.ext
  simpa using h
theorem wf_i64 (z : I64) : (Lit.int .i64 z.1).wf = true := by
  have := z.2
  simp [Lit.wf, IntKind.min, IntKind.max, IntKind.signed, IntKind.bits]
  omega
theorem i64_key {P : Program} {k : TypeId} (hu : P.underlying k = some (.int .i64)) : KeyEnc P k iv :=
  ⟨Maps.int_keyed hu, fun z => ⟨.int .i64 z.1, by simp [keyOf, hu, mapKey, wf_i64]⟩, fun a b h => iv_inj h⟩
instance {P : Program} {k : TypeId} [u : Ut P k (.int .i64)] : Kenc P k iv := ⟨i64_key u.eq⟩

section
variable {κ ν : Type} {enc : κ → Value} {V : ν → Value} {m : List (κ × ν)} {w w' : World} {b : Nat} {P : Program} {k T E : TypeId}
theorem run_delete [DecidableEq κ] [u : Ut P T (.map k E)] (h : MapIs w b enc V m) (K : KeyEnc P k enc) (x : κ) (ty : TypeId) :
    ∃ o', (Builtin.delete_ #[T, k] ty #[.map (some b), enc x]).run P w = .ok (.tuple #[]) { w with heap := w.heap.setIfInBounds b o' } ∧ MapIs { w with heap := w.heap.setIfInBounds b o' } b enc V (m.filter (fun p => decide (p.1 ≠ x))) ∧ Kp [b] w { w with heap := w.heap.setIfInBounds b o' } := by
  obtain ⟨es, c, hb, hst, hm, hks⟩ := h.keys K
  obtain ⟨l, hl⟩ := K.key x
  have hb' : w.heap[b]? = some (.map es c) := hb
  have hkeys : es.toList.map (·.key) = m.map (fun p => enc p.1) := by
    have := congrArg (List.map Prod.fst) hm
    simpa [Function.comp_def] using this
  rcases K.law.find w hl es.toList hks with ⟨h1, h2⟩ | ⟨j, e0, h1, h2, h3⟩
  · refine ⟨.map es c, ?_, ⟨es, c, hb.set _, hst, ?_⟩, Kp.set w hb rfl rfl⟩
    · simp [Builtin.delete_, run_underlying u.eq, MapKept.run_getObj_map hb', K.law.check w _ hl, h1, MapKept.run_setObj_map _ hb', Result.andThen]
    · rw [List.filter_eq_self.2]
      · exact hm
      · intro p hp
        simp only [decide_eq_true_eq]
        intro e
        have : enc p.1 ∈ es.toList.map (·.key) := by rw [hkeys]; exact List.mem_map.2 ⟨p, hp, rfl⟩
        obtain ⟨q, hq, hqe⟩ := List.mem_map.1 this
        exact h2 q hq (by rw [hqe, e])
  · have hj : j < es.toList.length := (List.getElem?_eq_some_iff.1 h2).1
    have hs := (MapKept.stamped_iff es c).1 hst
    have hml : m.length = es.toList.length := by
      have := congrArg List.length hm
      simpa using this.symm
    have hjm : j < m.length := by omega
    have hmj : enc m[j].1 = enc x := by
      have := congrArg (fun l => l[j]?) hkeys
      simp only [List.getElem?_map, h2, Option.map_some, List.getElem?_eq_getElem hjm, Option.some.injEq] at this
      rw [← this, h3]
    have hmx : m[j].1 = x := K.inj _ _ hmj
    have herase : m.filter (fun p => decide (p.1 ≠ x)) = m.eraseIdx j := by
      have hnd := h.nodup
      have hsplit : m = m.take j ++ (m[j] :: m.drop (j + 1)) := by rw [← List.drop_eq_getElem_cons hjm, List.take_append_drop]
      rw [List.eraseIdx_eq_take_drop_succ]
      conv => lhs; rw [hsplit]
      rw [hsplit, List.map_append, List.map_cons] at hnd
      have hd := List.nodup_append.1 hnd
      have hc := List.nodup_cons.1 hd.2.1
      rw [List.filter_append, List.filter_cons]
      rw [if_neg (by simp [hmx])]
      congr 1
      · rw [List.filter_eq_self]
        intro p hp
        simp only [decide_eq_true_eq]
        intro e
        exact hd.2.2 p.1 (List.mem_map.2 ⟨p, hp, rfl⟩) m[j].1 (by simp) (by rw [e, hmx])
      · rw [List.filter_eq_self]
        intro p hp
        simp only [decide_eq_true_eq]
        intro e
        exact hc.1 (by rw [hmx, ← e]; exact List.mem_map.2 ⟨p, hp, rfl⟩)
    refine ⟨.map (es.eraseIdxIfInBounds j) c, ?_, ⟨es.eraseIdxIfInBounds j, c, hb.set _, ?_, ?_⟩, Kp.set w hb rfl rfl⟩
    · simp [Builtin.delete_, run_underlying u.eq, MapKept.run_getObj_map hb', K.law.check w _ hl, h1, MapKept.run_setObj_map _ hb', Result.andThen]
    · rw [MapKept.stamped_iff]
      have hsub : (es.eraseIdxIfInBounds j).toList.Sublist es.toList := by
        simp only [Array.toList_eraseIdxIfInBounds]
        exact List.eraseIdx_sublist _ _
      exact ⟨fun x hx => hs.1 x (hsub.subset hx), hs.2.1.sublist (hsub.map _), hs.2.2.sublist hsub⟩
    · rw [herase, Array.toList_eraseIdxIfInBounds, ChangeMaps.map_eraseIdx, hm, ← ChangeMaps.map_eraseIdx]
end

section
variable {P : Program} {n : Nat} {Q : Exit → Act → World → Prop} {L : Env} {w : World} {ops : List Oper} {rest : List Oper} {ty : TypeId} {pos : String} {af : Array Edge} {g : Option (Nat × Bool)}
theorem SG.delete {κ ν : Type} [DecidableEq κ] {enc : κ → Value} {V : ν → Value} {m : List (κ × ν)} {b : Nat} {k T E : TypeId} [u : Ut P T (.map k E)] [K : Kenc P k enc] {a x : Operand} {kx : κ}
    (hw : want ops L ⟨none, .call { callee := .builtin .delete, args := #[a, x], argTypes := #[T, k] }, ty, pos, af, g⟩ = some true) (hk : (known L a && known L x) = true) (ha : rho L a = .map (some b)) (hx : rho L x = enc kx) (hm : MapIs w b enc V m)
    (h : ∀ w', Kp [b] w w' → MapIs w' b enc V (m.filter (fun p => decide (p.1 ≠ kx))) → SG P n ops Q rest L w') : SG P n ops Q (⟨none, .call { callee := .builtin .delete, args := #[a, x], argTypes := #[T, k] }, ty, pos, af, g⟩ :: rest) L w := by
  refine SG.op rfl rfl hw (by simpa [Op.operands, Call.operands] using hk) ?_
  unfold OpRun
  obtain ⟨o', h1, h2, h3⟩ := run_delete (P := P) (u := u) hm K.key kx ty
  have : (execOp (rho L) ⟨none, .call { callee := .builtin .delete, args := #[a, x], argTypes := #[T, k] }, ty, pos, af, g⟩).run P w = .ok (.value (.tuple #[])) { w with heap := w.heap.setIfInBounds b o' } := by
    simp only [execOp, resolve, invoke, builtin, Sem.run_bind, Sem.run_pure, Result.andThen_ok, List.map_toArray, List.map_cons, List.map_nil, ha, hx, h1]
  rw [this]
  exact h _ h3 h2
/-- A call of a function value. -/
theorem SG.retV {d : Nat} {f : FuncId} [F : Fnc P f] {x : Operand} {args : List Operand} {vs : List Value} {tys : Array TypeId} {v : Value} (hd : Nat.blt d n = true) (hw : want ops L ⟨some d, .call ⟨.value x, args.toArray, tys⟩, ty, pos, af, g⟩ = some true) (hk : (Op.call ⟨.value x, args.toArray, tys⟩).operands.toList.all (known L) = true)
    (hf : rho L x = .func (.func f) #[] #[]) (he : Evs L args vs) (hc : Ret P f vs.toArray w v) (h : ∀ w', Kp [] w w' → SG P n ops Q rest ((d, v) :: L) w') : SG P n ops Q (⟨some d, .call ⟨.value x, args.toArray, tys⟩, ty, pos, af, g⟩ :: rest) L w := by
  refine SG.op (by simpa using hd) rfl hw hk ?_
  unfold OpRun
  have : (execOp (rho L) ⟨some d, .call ⟨.value x, args.toArray, tys⟩, ty, pos, af, g⟩).run P w = .ok (.enter f vs.toArray) w := by
    simp only [execOp, resolve, hf, Deferred.ofValue, he.arr]
    simp [invoke, F.run]
  rw [this]
  exact hc.mono (fun e w' ⟨h1, h2⟩ => ⟨v, h1, h w' h2⟩)
theorem equal_slnil {T E : TypeId} [u : Ut P T (.slice E)] {a : Option Addr} {m c : Nat} : (Op.equal T (.slice a m c) (.slice none 0 0)).run P w = .ok a.isNone w := equal_of (fun d => by
  cases a <;> simp only [Op.equalIn, Sem.run_bind, run_underlying u.eq, Result.andThen, Sem.run_pure, Option.isNone])
theorem qsn {S : List Nat} {w0 : World} {F : World → Prop} {d : Option Nat} {T T' E : TypeId} [u : Ut P T (.slice E)] {x : Operand} {a : Option Addr} {m c : Nat} (hx : ro L x = some (.slice a m c)) : Vals P S w0 F L ⟨d, .binOp .eql T x (.const (.slice none 0 0)) T', ty, pos, af, g⟩ (.bool a.isNone) := fun w _ _ => by
  have hc : rho L (.const (.slice none 0 0)) = .slice none 0 0 := rfl
  simp [execOp, rho_of hx, hc, eqGuard, binOp, equal_slnil (u := u)]
/-- 'append([]T{}, s...)', in text order: the slice is owned. -/
theorem SG.cloneO {α : Type} {enc : α → List Value} {m d : Nat} {t e : TypeId} {inf : TypeInfo} [u : Ut P t (.slice e)] [f : Inf P e inf] {z : Value} {s x : Operand} {b0 : Nat} {a : Option Addr} {c : Nat} {l : List α} (hd : Nat.blt d n = true)
    (hw : want ops L ⟨some d, .call { callee := .builtin .append, args := #[s, x], argTypes := #[t, t] }, ty, pos, af, g⟩ = some true) (hk : (known L s && known L x) = true) (hel : ∀ x, (enc x).length = inf.size) (hone : ∀ x, allOne (enc x) = true)
    (hs : rho L s = .slice (some ⟨b0, 0, none⟩) 0 0) (hx : rho L x = .slice a l.length c) (hz : inf.zero = some z) (hzs : Nat.beq z.cells.size inf.size = true) (hsz : Nat.blt 0 inf.size = true) (h63 : l.length ≤ maxLen) (hbytes : l.length * inf.bytes ≤ 140737488355328) (hm : m ≤ b0)
    (hc : Sl enc inf.size w a l) (hb0 : Blk w b0 (.cells #[] e))
    (h : ∀ v w', Kp [] w w' → w'.ownsRow m e inf.size v l.length (flt enc l) → SG P n ops Q rest ((d, v) :: L) w') : SG P n ops Q (⟨some d, .call { callee := .builtin .append, args := #[s, x], argTypes := #[t, t] }, ty, pos, af, g⟩ :: rest) L w := by
  refine SG.op (by simpa using hd) rfl hw (by simpa [Op.operands, Call.operands] using hk) ?_
  obtain ⟨v', w', e1, e2, e3⟩ := run_cloneO (P := P) (ty := ty) (c := c) (u := u) (f := f) hz (Nat.eq_of_beq_eq_true hzs) (by simpa [Nat.blt_eq] using hsz) hel hone hc hb0 hm h63 hbytes
  unfold OpRun
  have : (execOp (rho L) ⟨some d, .call { callee := .builtin .append, args := #[s, x], argTypes := #[t, t] }, ty, pos, af, g⟩).run P w = .ok (.value v') w' := by
    simp only [execOp, resolve, invoke, builtin, Sem.run_bind, Sem.run_pure, Result.andThen_ok, List.map_toArray, List.map_cons, List.map_nil, hs, hx, e1]
  rw [this]
  exact h v' w' e3 e2
theorem SG.empty {d : Nat} {T E : TypeId} {i : TypeInfo} [u : Ut P T (.slice E)] [f : Inf P E i] (hd : Nat.blt d n = true) (hw : want ops L ⟨some d, .buildSlice T 0 #[], ty, pos, af, g⟩ = some true)
    (h : ∀ b w', Kp [] w w' → w.heap.size ≤ b → Blk w' b (.cells #[] E) → SG P n ops Q rest ((d, .slice (some ⟨b, 0, none⟩) 0 0) :: L) w') : SG P n ops Q (⟨some d, .buildSlice T 0 #[], ty, pos, af, g⟩ :: rest) L w := by
  refine SG.op (by simpa using hd) rfl hw (by simp [Op.operands]) ?_
  unfold OpRun
  have : (execOp (rho L) ⟨some d, .buildSlice T 0 #[], ty, pos, af, g⟩).run P w = .ok (.value (.slice (some ⟨w.heap.size, 0, none⟩) 0 0)) { w with heap := w.heap.push (.cells #[] E) } := by
    simp only [execOp, List.map_toArray, List.map_nil, Sem.run_bind, run_empty (u := u) (f := f), Result.andThen, Sem.run_pure]
  rw [this]
  exact h _ _ (Kp.push w _ rfl) (Nat.le_refl _) (Blk.push w _)
end
end Go.Proofs.Ytnoipmimddoioaa
/-
  append: where the new row lies; in a region that draws.
-/
namespace Go.Proofs.Ytnoipmimddoioaa
set_option linter.unusedVariables false

section
variable {P : Program} {w w' : World}
/-- The row lies where it lay, or in a new block. -/
theorem append_where {base : Nat} {t ty e : TypeId} {i : TypeInfo} [u : Ut P t (.slice e)] [f : Inf P e i] {z : Value} (hz : i.zero = some z)
    {v v' : Value} {n : Nat} {xs : List Value} (hown : w.ownsRow base e i.size v n xs) {b off m c : Nat} {news : List Value} (hl : news.length = m * i.size) (hr : Row w b off news) (h1 : allOne news = true)
    (h63 : n + m ≤ maxLen) (hbytes : (n + m) * i.bytes ≤ 140737488355328) (hrun : (Builtin.append_ #[t, t] ty #[v, .slice (some ⟨b, off, none⟩) m c]).run P w = .ok v' w') :
    ∀ g, v'.ownBlock = some g → v.ownBlock = some g ∨ g = w.heap.size := by
  have hnews : ∀ j u, news[j]? = some u → w.cell? ((⟨b, off, none⟩ : Addr).add j) = some u := fun j u hu => by rw [add_none]; exact hr.cell hu
  have h1' : ∀ u ∈ news, u.oneCell' = true := fun u hu => by rw [one_iff]; exact List.all_eq_true.1 h1 u hu
  have hsmall : n + m ≤ 9223372036854775807 := by simp only [maxLen] at h63; omega
  rcases hown.2 with ⟨rfl, rfl⟩ | ⟨g, cap, cur, rfl, hbg, hg, hnc, hcm, hcs, htake⟩
  · by_cases hm : m = 0
    · subst hm
      have hn : news = [] := List.eq_nil_of_length_eq_zero (by simpa using hl)
      subst hn
      have : (Builtin.append_ #[t, t] ty #[.slice none 0 0, .slice (some ⟨b, off, none⟩) 0 c]).run P w = .ok (.slice none 0 0) w := by
        simp [Builtin.append_, run_underlying u.eq, sizeOf, typeInfo, f.eq, Builtin.lenOf, Builtin.firstCells, loadCells, loadCellsFrom]
      rw [this] at hrun
      cases hrun
      intro g hg
      exact Or.inl hg
    · have hr2 := run_append_nil (P := P) w t ty e i z u.eq f.eq hz ⟨b, off, none⟩ m c news hl hnews (by omega) (by omega) (by have hb := hbytes; simp only [Nat.zero_add] at hb; omega)
      rw [hr2] at hrun
      cases hrun
      intro g hg
      simp only [Value.ownBlock, Option.some.injEq] at hg
      exact Or.inr hg.symm
  · by_cases hroom : n + m ≤ cap
    · have hfit : n * i.size + news.length ≤ cur.size := by rw [hl, hcs, ← Nat.add_mul]; exact Nat.mul_le_mul_right _ hroom
      have hr2 := run_append_room (P := P) w t ty e i u.eq f.eq g n cap cur hg ⟨b, off, none⟩ m c news hl hnews h1' hroom hfit
      rw [hr2] at hrun
      cases hrun
      intro g' hg'
      exact Or.inl hg'
    · have holds : ∀ j u, xs[j]? = some u → w.cell? ((⟨g, 0, none⟩ : Addr).add j) = some u := hown.cells (g := g) rfl
      have hr2 := run_append_grow (P := P) w t ty e i z u.eq f.eq hz ⟨g, 0, none⟩ n cap xs hown.1 holds ⟨b, off, none⟩ m c news hl hnews (by omega) (by omega) (growslice_fits (by omega) hbytes)
      rw [hr2] at hrun
      cases hrun
      intro g' hg'
      simp only [Value.ownBlock, Option.some.injEq] at hg'
      exact Or.inr hg'.symm

variable {L : Env} {ty : TypeId} {pos : String} {af : Array Edge} {g : Option (Nat × Bool)} {S : List Nat} {w0 : World} {ops : List Oper} {gh : List Nat} {K : Env → (World → Prop) → (World → Prop) → Prop} {j : Nat} {ord : List Nat} {F : World → Prop}
/-- append to the row that is the resource. -/
theorem Der.appendR {base : Nat} {t e : TypeId} {i : TypeInfo} [u : Ut P t (.slice e)] [f : Inf P e i] {z : Value} {d : Nat} {s x : Operand} {v : Value} {nn : Nat} {xs : List Value} {b off m c : Nat} {news : List Value}
    (ho : ops[j]? = some ⟨some d, .call { callee := .builtin .append, args := #[s, x], argTypes := #[t, t] }, ty, pos, af, g⟩) (hw : want ops L ⟨some d, .call { callee := .builtin .append, args := #[s, x], argTypes := #[t, t] }, ty, pos, af, g⟩ = some true) (hg : gh.elem j = true) (hk : (known L s && known L x) = true)
    (hs : rho L s = v) (hx : rho L x = .slice (some ⟨b, off, none⟩) m c) (hz : i.zero = some z) (hzs : Nat.beq z.cells.size i.size = true) (hsz : Nat.blt 0 i.size = true) (hr : ∀ w, Kp S w0 w → F w → Row w b off news) (hl : news.length = m * i.size) (h1 : allOne news = true)
    (h63 : nn + m ≤ maxLen) (hbytes : (nn + m) * i.bytes ≤ 140737488355328) (hbase : base ≤ w0.heap.size) (hS : ∀ b ∈ ownB v, b ∈ S) (hFs : Stab S F)
    (h : ∀ v', Der P S w0 ops gh K ord ((d, v') :: L) (fun w => F w ∧ ∀ g, v'.ownBlock = some g → v.ownBlock = some g ∨ w0.heap.size ≤ g) (fun w => w.ownsRow base e i.size v' (nn + m) (xs ++ news))) :
    Der P S w0 ops gh K (j :: ord) L F (fun w => w.ownsRow base e i.size v nn xs) := by
  refine Der.ghost (X := Value) (fun v' => v') (fun v' _ => ∀ g, v'.ownBlock = some g → v.ownBlock = some g ∨ w0.heap.size ≤ g) (fun v' w => w.ownsRow base e i.size v' (nn + m) (xs ++ news)) ho hw hg (by simpa [Op.operands, Call.operands] using hk) (fun _ _ _ _ h => h) (fun v' w w' hk h => own_kp0 h hk) hFs (fun w hk1 hF hown => ?_) h
  have hrow := hr w hk1 hF
  have hb : base ≤ w.heap.size := Nat.le_trans hbase hk1.size
  obtain ⟨v', w', h2, h3, h4⟩ := run_append (P := P) (ty := ty) (d := .bool) (c := c) (u := u) (f := f) hz (Nat.eq_of_beq_eq_true hzs) (by simpa [Nat.blt_eq] using hsz) hown hl hrow h1 h63 hbytes hb
  have hwh := append_where (P := P) (ty := ty) (c := c) (u := u) (f := f) hz hown hl hrow h1 h63 hbytes h2
  unfold OpRun
  have : (execOp (rho L) ⟨some d, .call { callee := .builtin .append, args := #[s, x], argTypes := #[t, t] }, ty, pos, af, g⟩).run P w = .ok (.value v') w' := by
    simp only [execOp, resolve, invoke, builtin, Sem.run_bind, Sem.run_pure, Result.andThen_ok, List.map_toArray, List.map_cons, List.map_nil, hs, hx, h2]
  rw [this]
  refine ⟨v', rfl, fun g hg => ?_, h3, h4.mono hS⟩
  rcases hwh g hg with h | h
  · exact Or.inl h
  · exact Or.inr (by rw [h]; exact hk1.size)
/-- A slice written out, beside a resource. -/
theorem Der.buildR {R : World → Prop} {d : Nat} {T E : TypeId} {b : Nat} {parts : List (Nat × Operand)} {vs : List (Nat × Value)} {cs : Array Value}
    (ho : ops[j]? = some ⟨some d, .buildSlice T b parts.toArray, ty, pos, af, g⟩) (hw : want ops L ⟨some d, .buildSlice T b parts.toArray, ty, pos, af, g⟩ = some true) (hg : gh.elem j = true) (hk : (Op.buildSlice T b parts.toArray).operands.toList.all (known L) = true)
    (he : (parts.map fun p => (p.1, rho L p.2)) = vs) (hrun : ∀ w : World, (Instr.buildSlice T b vs.toArray).run P w = .ok (.slice (some ⟨w.heap.size, 0, none⟩) b b) { w with heap := w.heap.push (.cells cs E) }) (hS : ∀ z ∈ S, z < w0.heap.size) (hFs : Stab S F) (hRs : Stab [] R)
    (h : ∀ bn, Der P S w0 ops gh K ord ((d, .slice (some ⟨bn, 0, none⟩) b b) :: L) (fun w => F w ∧ (w0.heap.size ≤ bn ∧ Blk w bn (.cells cs E))) R) : Der P S w0 ops gh K (j :: ord) L F R := by
  refine Der.ghost (X := Nat) (fun bn => .slice (some ⟨bn, 0, none⟩) b b) (fun bn w => w0.heap.size ≤ bn ∧ Blk w bn (.cells cs E)) (fun _ => R) ho hw hg hk (fun bn w w' hk h => ⟨h.1, h.2.kp hk (fun hm => by have := hS _ hm; omega)⟩) (fun _ => hRs) hFs (fun w hk1 hF hR => ?_) h
  unfold OpRun
  have e : (parts.toArray.map fun (p : Nat × Operand) => (p.1, rho L p.2)) = vs.toArray := by simp [he]
  have : (execOp (rho L) ⟨some d, .buildSlice T b parts.toArray, ty, pos, af, g⟩).run P w = .ok (.value (.slice (some ⟨w.heap.size, 0, none⟩) b b)) { w with heap := w.heap.push (.cells cs E) } := by
    simp only [execOp, e, Sem.run_bind, hrun w, Result.andThen, Sem.run_pure]
  rw [this]
  exact ⟨w.heap.size, rfl, ⟨hk1.size, Blk.push w _⟩, hRs _ _ (Kp.push w _ rfl) hR, (Kp.push w _ rfl).any⟩
end
end Go.Proofs.Ytnoipmimddoioaa
/-
  Addresses of an array's elements.
-/
namespace Go.Proofs.Ytnoipmimddoioaa
set_option linter.unusedVariables false

section
variable {P : Program} {S : List Nat} {w0 : World} {F : World → Prop} {L : Env} {d : Option Nat} {ty : TypeId} {pos : String} {af : Array Edge} {g : Option (Nat × Bool)}
theorem vals_ia {T E : TypeId} {n : Nat} [u : Ut P T (.array n E)] {sz : Nat} [f : Sz P E sz] {x y : Operand} {b off : Nat} {k : IntKind} {j : Nat} (hx : rho L x = .pointer (some ⟨b, off, none⟩)) (hy : rho L y = .int k (j : Int)) (h1 : j < n) :
    Vals P S w0 F L ⟨d, .indexAddr T x y, ty, pos, af, g⟩ (.pointer (some ⟨b, off + j * sz, none⟩)) := fun w _ _ => by
  obtain ⟨i, h2, h3⟩ := f.eq
  have h4 : (j : Int) < n := by omega
  subst h3
  simp [execOp, hx, hy, Instr.indexAt, asIntOf, run_underlying u.eq, sizeOf, typeInfo, Instr.sureAddr, h2, h1, add_none]
theorem qia {T E : TypeId} {n : Nat} [u : Ut P T (.array n E)] {sz : Nat} [f : Sz P E sz] {x y : Operand} {b off : Nat} {k : IntKind} {z : Int} {j : Nat} (hx : ro L x = some (.pointer (some ⟨b, off, none⟩))) (hy : ro L y = some (.int k z)) (hz : z = (j : Int)) (h1 : Ar (j < n)) :
    Vals P S w0 F L ⟨d, .indexAddr T x y, ty, pos, af, g⟩ (.pointer (some ⟨b, off + j * sz, none⟩)) := vals_ia (u := u) (f := f) (rho_of hx) (by rw [rho_of hy, hz]) h1.h
end
end Go.Proofs.Ytnoipmimddoioaa
/-
  The digests' states: begun, stirred, taken in, given; a digest's number, a number's digest.
-/
namespace Go.Proofs.Ytnoipmimddoioaa
open Go.Proofs
set_option linter.unusedVariables false

theorem qia0 {P : Program} {S : List Nat} {w0 : World} {F : World → Prop} {L : Env} {d : Option Nat} {ty : TypeId} {pos : String} {af : Array Edge} {g : Option (Nat × Bool)} {T E : TypeId} {n : Nat} [u : Ut P T (.array n E)] {sz : Nat} [f : Sz P E sz] {x : Operand} {b off : Nat} {k : IntKind} {z : Int} (hx : ro L x = some (.pointer (some ⟨b, off, none⟩))) (h1 : Ar (0 ≤ z ∧ z < n)) :
    Vals P S w0 F L ⟨d, .indexAddr T x (.const (.int k z)), ty, pos, af, g⟩ (.pointer (some ⟨b, off + z.toNat * sz, none⟩)) := qia (u := u) (f := f) (k := k) (z := z) hx rfl (Int.toNat_of_nonneg h1.h.1).symm ⟨by have := h1.h; omega⟩
def hsl (s : Hs) : List Value := [.int .u64 s.a, .int .u64 s.b, .int .u64 s.c, .int .u64 s.d]
theorem hs_rows {w : World} {b : Nat} {T : TypeId} {s : Hs} (h : Blk w b (.cells (hsl s).toArray T)) : Row w b 0 [.int .u64 s.a] ∧ Row w b 1 [.int .u64 s.b] ∧ Row w b 2 [.int .u64 s.c] ∧ Row w b 3 [.int .u64 s.d] ∧ Row w b 0 (hsl s) :=
  ⟨Row.of h [] [.int .u64 s.b, .int .u64 s.c, .int .u64 s.d] rfl rfl, Row.of h [.int .u64 s.a] [.int .u64 s.c, .int .u64 s.d] rfl rfl, Row.of h [.int .u64 s.a, .int .u64 s.b] [.int .u64 s.d] rfl rfl, Row.of h [.int .u64 s.a, .int .u64 s.b, .int .u64 s.c] [] rfl rfl, Row.all h rfl⟩
theorem bst (w : World) (a b c e : Int) : (Instr.build 111 #[(0, .int .u64 a), (1, .int .u64 b), (2, .int .u64 c), (3, .int .u64 e)]).run Try.prog w = .ok (.agg (hsl ⟨a, b, c, e⟩).toArray) w := by kernel_rfl

attribute [local irreducible] CG NG SG Vals Der Row Blk MapIs IterAt addI xorI orI andI shlI shrI
set_option maxHeartbeats 8000000 in
theorem rot_spec (w : World) (x k : Int) (h : andI (IntKind.wrap .u64 k) 63 = k) (h0 : 0 ≤ k ∧ k ≤ 64) : Ret Try.prog 108 #[.int .u64 x, .int .i64 k] w (.int .u64 (rotI x k)) := by
  refine enter2 Try.func108 rfl Try.ntmps108 rfl ?_
  repeat (first|apply CG.seq|apply CG.region|apply SG.nil|apply NG.next|apply CG.skip|apply CG.block|apply CG.ret|apply CG.exit|apply NG.exit_then|refine NG.exit_block rfl ?_|apply NG.normal_block|refine SG.val rfl rfl rfl rfl (by first|((first|apply quad|apply quxo|apply quor|apply quan|apply qush|apply qusr|apply qusb|apply qia0|apply qia|apply qmv|apply qas|apply qlc|apply qnc|apply qls|apply qcv)<;>(first|exact rfl|assumption|exact Ar.mk (by omega)|exact dct (by first|assumption|omega)|exact dcf (by first|assumption|omega)|exact List.not_mem_nil|exact (Int.toNat_of_nonneg (by omega)).symm|fail))|fail) ?_)
  rw [h]
  repeat (first|apply CG.seq|apply CG.region|apply SG.nil|apply NG.next|apply CG.skip|apply CG.block|apply CG.ret|apply CG.exit|apply NG.exit_then|refine NG.exit_block rfl ?_|apply NG.normal_block|refine SG.val rfl rfl rfl rfl (by first|((first|apply quad|apply quxo|apply quor|apply quan|apply qush|apply qusr|apply qusb|apply qia0|apply qia|apply qmv|apply qas|apply qlc|apply qnc|apply qls|apply qcv)<;>(first|exact rfl|assumption|exact Ar.mk (by omega)|exact dct (by first|assumption|omega)|exact dcf (by first|assumption|omega)|exact List.not_mem_nil|exact (Int.toNat_of_nonneg (by omega)).symm|fail))|fail) ?_)
  refine ret1 (Or.inl rfl) Try.results108 (by first | exact ResV.tmp rfl | exact ResV.agg rfl rfl (by assumption) (by first | exact dc_length _ | exact nc_length _ | exact rc_length _ _ _ | exact ec_length _ | exact dl_length _ _ _ _ | rfl) | exact ResV.cell rfl rfl (by assumption)) ?_
  exact ⟨rfl, Kp.refl _ _⟩
theorem rot32 (w : World) (x : Int) : Ret Try.prog 108 #[.int .u64 x, .int .i64 32] w (.int .u64 (rotI x 32)) := rot_spec w x 32 (by decide +kernel) (by omega)
theorem rot24 (w : World) (x : Int) : Ret Try.prog 108 #[.int .u64 x, .int .i64 24] w (.int .u64 (rotI x 24)) := rot_spec w x 24 (by decide +kernel) (by omega)
theorem rot16 (w : World) (x : Int) : Ret Try.prog 108 #[.int .u64 x, .int .i64 16] w (.int .u64 (rotI x 16)) := rot_spec w x 16 (by decide +kernel) (by omega)
theorem rot63 (w : World) (x : Int) : Ret Try.prog 108 #[.int .u64 x, .int .i64 63] w (.int .u64 (rotI x 63)) := rot_spec w x 63 (by decide +kernel) (by omega)
theorem addI_small {k : Nat} (h : k < 1000) : addI (k : Int) 1 = ((k + 1 : Nat) : Int) := by
  unfold addI
  have e : (k : Int) + 1 = ((k + 1 : Nat) : Int) := by omega
  rw [e]
  exact wrap64_nat (by omega)
set_option maxHeartbeats 16000000 in
theorem stir_spec {w : World} {b : Nat} {s : Hs} (hB : Blk w b (.cells (hsl s).toArray 111)) : Calls Try.prog 97 #[.pointer (some ⟨b, 0, none⟩)] w (fun e w' => e = .returned (.tuple #[]) ∧ Kp [b] w w' ∧ Blk w' b (.cells (hsl (stirI s)).toArray 111)) := by
  refine enter1 Try.func97 rfl Try.ntmps97 rfl ?_
  obtain ⟨r0, r1, r2, r3, _⟩ := hs_rows hB
  apply CG.seq
  refine CG.draw0 mixed [0, 1, 2, 3, 4, 5, 6, 7, 8, 9, 10, 11, 12, 13, 14, 15, 16, 17, 18, 19] [] (by kernel_rfl) ?_
  repeat (refine Der.val rfl rfl rfl (by first|((first|apply quad|apply quxo|apply quor|apply quan|apply qush|apply qusr|apply qusb|apply qia0|apply qia|apply qmv|apply qas|apply qlc|apply qnc|apply qls|apply qcv)<;>(first|exact rfl|assumption|exact Ar.mk (by omega)|exact dct (by first|assumption|omega)|exact dcf (by first|assumption|omega)|exact List.not_mem_nil|exact (Int.toNat_of_nonneg (by omega)).symm|fail))|fail) ?_)
  refine Der.fin (fun w1 hk1 _ _ => ?_)
  repeat (first|apply CG.seq|apply CG.region|apply SG.nil|apply NG.next|apply CG.skip|apply CG.block|apply CG.ret|apply CG.exit|apply NG.exit_then|refine NG.exit_block rfl ?_|apply NG.normal_block|refine SG.val rfl rfl rfl rfl (by first|((first|apply quad|apply quxo|apply quor|apply quan|apply qush|apply qusr|apply qusb|apply qia0|apply qia|apply qmv|apply qas|apply qlc|apply qnc|apply qls|apply qcv)<;>(first|exact rfl|assumption|exact Ar.mk (by omega)|exact dct (by first|assumption|omega)|exact dcf (by first|assumption|omega)|exact List.not_mem_nil|exact (Int.toNat_of_nonneg (by omega)).symm|fail))|fail) ?_)
  refine CG.loop (X := Nat) (fun i => [(0, .pointer (some ⟨b, 0, none⟩)), (2, .int .u64 (roundsI s i).a), (3, .int .u64 (roundsI s i).b), (4, .int .u64 (roundsI s i).c), (5, .int .u64 (roundsI s i).d), (23, .int .u64 (i : Int))])
    (fun i w' => i ≤ 6 ∧ Kp [] w1 w') (fun i => 6 - i) 0 ⟨by omega, Kp.refl _ _⟩ (by (repeat' (first | exact True.intro | exact rfl | refine And.intro ?_ ?_))) ?_
  rintro i w2 ⟨hi, hk2⟩
  by_cases hlt : i < 6
  · have g1 : (i : Int) < 6 := by omega
    have e1 := addI_small (k := i) (by omega)
    repeat (first|apply CG.seq|apply CG.region|apply SG.nil|apply NG.next|apply CG.skip|apply CG.block|apply CG.ret|apply CG.exit|apply NG.exit_then|refine NG.exit_block rfl ?_|apply NG.normal_block|refine SG.val rfl rfl rfl rfl (by first|((first|apply quad|apply quxo|apply quor|apply quan|apply qush|apply qusr|apply qusb|apply qia0|apply qia|apply qmv|apply qas|apply qlc|apply qnc|apply qls|apply qcv)<;>(first|exact rfl|assumption|exact Ar.mk (by omega)|exact dct (by first|assumption|omega)|exact dcf (by first|assumption|omega)|exact List.not_mem_nil|exact (Int.toNat_of_nonneg (by omega)).symm|fail))|fail) ?_)
    refine CG.cond_t rfl (by exact rho_of rfl) rfl ?_
    repeat (first|apply CG.seq|apply CG.region|apply SG.nil|apply NG.next|apply CG.skip|apply CG.block|apply CG.ret|apply CG.exit|apply NG.exit_then|refine NG.exit_block rfl ?_|apply NG.normal_block|refine SG.val rfl rfl rfl rfl (by first|((first|apply quad|apply quxo|apply quor|apply quan|apply qush|apply qusr|apply qusb|apply qia0|apply qia|apply qmv|apply qas|apply qlc|apply qnc|apply qls|apply qcv)<;>(first|exact rfl|assumption|exact Ar.mk (by omega)|exact dct (by first|assumption|omega)|exact dcf (by first|assumption|omega)|exact List.not_mem_nil|exact (Int.toNat_of_nonneg (by omega)).symm|fail))|fail) ?_)
    refine SG.ret rfl rfl rfl (by repeat' (first | exact True.intro | exact rho_of rfl | refine And.intro ?_ ?_)) (rot32 w2 _) (fun w3 hk3 => ?_)
    repeat (first|apply CG.seq|apply CG.region|apply SG.nil|apply NG.next|apply CG.skip|apply CG.block|apply CG.ret|apply CG.exit|apply NG.exit_then|refine NG.exit_block rfl ?_|apply NG.normal_block|refine SG.val rfl rfl rfl rfl (by first|((first|apply quad|apply quxo|apply quor|apply quan|apply qush|apply qusr|apply qusb|apply qia0|apply qia|apply qmv|apply qas|apply qlc|apply qnc|apply qls|apply qcv)<;>(first|exact rfl|assumption|exact Ar.mk (by omega)|exact dct (by first|assumption|omega)|exact dcf (by first|assumption|omega)|exact List.not_mem_nil|exact (Int.toNat_of_nonneg (by omega)).symm|fail))|fail) ?_)
    refine SG.ret rfl rfl rfl (by repeat' (first | exact True.intro | exact rho_of rfl | refine And.intro ?_ ?_)) (rot24 w3 _) (fun w4 hk4 => ?_)
    repeat (first|apply CG.seq|apply CG.region|apply SG.nil|apply NG.next|apply CG.skip|apply CG.block|apply CG.ret|apply CG.exit|apply NG.exit_then|refine NG.exit_block rfl ?_|apply NG.normal_block|refine SG.val rfl rfl rfl rfl (by first|((first|apply quad|apply quxo|apply quor|apply quan|apply qush|apply qusr|apply qusb|apply qia0|apply qia|apply qmv|apply qas|apply qlc|apply qnc|apply qls|apply qcv)<;>(first|exact rfl|assumption|exact Ar.mk (by omega)|exact dct (by first|assumption|omega)|exact dcf (by first|assumption|omega)|exact List.not_mem_nil|exact (Int.toNat_of_nonneg (by omega)).symm|fail))|fail) ?_)
    refine SG.ret rfl rfl rfl (by repeat' (first | exact True.intro | exact rho_of rfl | refine And.intro ?_ ?_)) (rot16 w4 _) (fun w5 hk5 => ?_)
    repeat (first|apply CG.seq|apply CG.region|apply SG.nil|apply NG.next|apply CG.skip|apply CG.block|apply CG.ret|apply CG.exit|apply NG.exit_then|refine NG.exit_block rfl ?_|apply NG.normal_block|refine SG.val rfl rfl rfl rfl (by first|((first|apply quad|apply quxo|apply quor|apply quan|apply qush|apply qusr|apply qusb|apply qia0|apply qia|apply qmv|apply qas|apply qlc|apply qnc|apply qls|apply qcv)<;>(first|exact rfl|assumption|exact Ar.mk (by omega)|exact dct (by first|assumption|omega)|exact dcf (by first|assumption|omega)|exact List.not_mem_nil|exact (Int.toNat_of_nonneg (by omega)).symm|fail))|fail) ?_)
    refine SG.ret rfl rfl rfl (by repeat' (first | exact True.intro | exact rho_of rfl | refine And.intro ?_ ?_)) (rot63 w5 _) (fun w6 hk6 => ?_)
    repeat (first|apply CG.seq|apply CG.region|apply SG.nil|apply NG.next|apply CG.skip|apply CG.block|apply CG.ret|apply CG.exit|apply NG.exit_then|refine NG.exit_block rfl ?_|apply NG.normal_block|refine SG.val rfl rfl rfl rfl (by first|((first|apply quad|apply quxo|apply quor|apply quan|apply qush|apply qusr|apply qusb|apply qia0|apply qia|apply qmv|apply qas|apply qlc|apply qnc|apply qls|apply qcv)<;>(first|exact rfl|assumption|exact Ar.mk (by omega)|exact dct (by first|assumption|omega)|exact dcf (by first|assumption|omega)|exact List.not_mem_nil|exact (Int.toNat_of_nonneg (by omega)).symm|fail))|fail) ?_)
    rw [e1]
    refine NG.round (i + 1) (by (repeat' (first | exact True.intro | exact rfl | refine And.intro ?_ ?_))) ⟨by omega, hk2.trans (hk3.trans (hk4.trans (hk5.trans hk6)))⟩ (by omega)
  · have g1 : ¬ (i : Int) < 6 := by omega
    have e6 : i = 6 := by omega
    subst e6
    repeat (first|apply CG.seq|apply CG.region|apply SG.nil|apply NG.next|apply CG.skip|apply CG.block|apply CG.ret|apply CG.exit|apply NG.exit_then|refine NG.exit_block rfl ?_|apply NG.normal_block|refine SG.val rfl rfl rfl rfl (by first|((first|apply quad|apply quxo|apply quor|apply quan|apply qush|apply qusr|apply qusb|apply qia0|apply qia|apply qmv|apply qas|apply qlc|apply qnc|apply qls|apply qcv)<;>(first|exact rfl|assumption|exact Ar.mk (by omega)|exact dct (by first|assumption|omega)|exact dcf (by first|assumption|omega)|exact List.not_mem_nil|exact (Int.toNat_of_nonneg (by omega)).symm|fail))|fail) ?_)
    refine CG.cond_f rfl (by exact rho_of rfl) rfl ?_
    repeat (first|apply CG.seq|apply CG.region|apply SG.nil|apply NG.next|apply CG.skip|apply CG.block|apply CG.ret|apply CG.exit|apply NG.exit_then|refine NG.exit_block rfl ?_|apply NG.normal_block|refine SG.val rfl rfl rfl rfl (by first|((first|apply quad|apply quxo|apply quor|apply quan|apply qush|apply qusr|apply qusb|apply qia0|apply qia|apply qmv|apply qas|apply qlc|apply qnc|apply qls|apply qcv)<;>(first|exact rfl|assumption|exact Ar.mk (by omega)|exact dct (by first|assumption|omega)|exact dcf (by first|assumption|omega)|exact List.not_mem_nil|exact (Int.toNat_of_nonneg (by omega)).symm|fail))|fail) ?_)
    refine SG.val rfl rfl rfl rfl (vals_build rfl (fun w => bst w _ _ _ _)) ?_
    repeat (first|apply CG.seq|apply CG.region|apply SG.nil|apply NG.next|apply CG.skip|apply CG.block|apply CG.ret|apply CG.exit|apply NG.exit_then|refine NG.exit_block rfl ?_|apply NG.normal_block|refine SG.val rfl rfl rfl rfl (by first|((first|apply quad|apply quxo|apply quor|apply quan|apply qush|apply qusr|apply qusb|apply qia0|apply qia|apply qmv|apply qas|apply qlc|apply qnc|apply qls|apply qcv)<;>(first|exact rfl|assumption|exact Ar.mk (by omega)|exact dct (by first|assumption|omega)|exact dcf (by first|assumption|omega)|exact List.not_mem_nil|exact (Int.toNat_of_nonneg (by omega)).symm|fail))|fail) ?_)
    have hB2 := hB.kp0 (hk1.trans hk2)
    refine SG.setAll (old := hsl s) (l := hsl (roundsI s 6)) rfl rfl (by exact rho_of rfl) (by exact rho_of rfl) hB2 rfl rfl rfl (fun w3 hk3 hB3 => ?_)
    repeat (first|apply CG.seq|apply CG.region|apply SG.nil|apply NG.next|apply CG.skip|apply CG.block|apply CG.ret|apply CG.exit|apply NG.exit_then|refine NG.exit_block rfl ?_|apply NG.normal_block|refine SG.val rfl rfl rfl rfl (by first|((first|apply quad|apply quxo|apply quor|apply quan|apply qush|apply qusr|apply qusb|apply qia0|apply qia|apply qmv|apply qas|apply qlc|apply qnc|apply qls|apply qcv)<;>(first|exact rfl|assumption|exact Ar.mk (by omega)|exact dct (by first|assumption|omega)|exact dcf (by first|assumption|omega)|exact List.not_mem_nil|exact (Int.toNat_of_nonneg (by omega)).symm|fail))|fail) ?_)
    refine ret0 (Or.inr rfl) Try.results97 ?_
    exact ⟨rfl, (hk1.trans hk2).any.trans hk3, hB3⟩
end Go.Proofs.Ytnoipmimddoioaa
/-
  A digest's number, a number's digest; a number is taken in; what a state gives.
-/
namespace Go.Proofs.Ytnoipmimddoioaa
open Go.Proofs
set_option linter.unusedVariables false

theorem dc_at {n : Nat} (d : BA n) {i : Nat} (h : i < n) : (dc d)[i]? = some (bv (d.1[i]'(by rw [d.2]; exact h))) := by
  simp only [dc, List.getElem?_map]
  rw [List.getElem?_eq_getElem (by rw [d.2]; exact h)]
  rfl
theorem num_step {d : Dg} {i : Nat} (h : i < 8) : orI (val (d.1.take i) : Int) (shlI (((d.1[i]'(by rw [d.2]; exact h)).toNat : Nat) : Int) (8 * (i : Int))) = (val (d.1.take (i + 1)) : Int) := by
  have hl : i < d.1.length := by rw [d.2]; exact h
  have h8 : (8 * (i : Int)) = ((8 * i : Nat) : Int) := by omega
  have h1 := val_snoc hl
  have h2 : val (d.1.take (i + 1)) < 256 ^ (i + 1) := by
    have := val_lt (d.1.take (i + 1))
    have e : (d.1.take (i + 1)).length = i + 1 := by simp; omega
    rwa [e] at this
  have h3 : (256 : Nat) ^ (i + 1) ≤ 256 ^ 8 := Nat.pow_le_pow_right (by omega) (by omega)
  have h4 : val (d.1.take (i + 1)) < 18446744073709551616 := Nat.lt_of_lt_of_le h2 h3
  have h5 : val (d.1.take i) < 2 ^ (8 * i) := by
    have := val_lt (d.1.take i)
    have e : (d.1.take i).length = i := by simp; omega
    rw [e] at this
    rwa [Nat.pow_mul]
  rw [h1] at h4
  rw [h8, shlI_nat (Nat.lt_of_le_of_lt (Nat.le_add_left _ _) h4) (by omega), orI_nat h5 h4, h1]
def zd : Dg := ⟨[0, 0, 0, 0, 0, 0, 0, 0], rfl⟩
/-- The first i bytes of a number, then nothing. -/
def part (n i : Nat) : List Value := (byL n i).map bv ++ List.replicate (8 - i) (bv 0)
theorem part_zero (n : Nat) : part n 0 = dc zd := rfl
theorem part_all (n : Nat) : part n 8 = dc (frm n) := by simp [part, dc, frm]
theorem part_length {n i : Nat} (h : i ≤ 8) : (part n i).length = 8 := by simp [part, byL_length]; omega
theorem byL_snoc (k : Nat) : ∀ n, byL n (k + 1) = byL n k ++ [UInt8.ofNat (n / 2 ^ (8 * k))] := by
  induction k with
  | zero => intro n; simp [byL]
  | succ k ih =>
    intro n
    rw [byL, ih (n / 256)]
    simp only [byL, List.cons_append]
    congr 3
    have : (2 : Nat) ^ (8 * (k + 1)) = 256 * 2 ^ (8 * k) := by
      rw [show 8 * (k + 1) = 8 + 8 * k from by omega, Nat.pow_add]
    rw [this, Nat.div_div_eq_div_mul]
theorem part_step {n i : Nat} (h : i < 8) : spl (part n i) i [bv (UInt8.ofNat (n / 2 ^ (8 * i)))] = part n (i + 1) := by
  have hr : List.replicate (8 - i) (bv 0) = [bv 0] ++ List.replicate (8 - (i + 1)) (bv 0) := by
    rw [show 8 - i = (8 - (i + 1)) + 1 from by omega, List.replicate_succ]
    rfl
  have := spl_mid (pre := (byL n i).map bv) (old := [bv 0]) (post := List.replicate (8 - (i + 1)) (bv 0)) (l := [bv (UInt8.ofNat (n / 2 ^ (8 * i)))]) rfl
  rw [← hr] at this
  simp only [List.length_map, byL_length] at this
  unfold part
  rw [this, byL_snoc]
  simp

attribute [local irreducible] CG NG SG Vals Der Row Blk MapIs IterAt addI xorI orI andI shlI shrI
set_option maxHeartbeats 8000000 in
theorem num_spec (d : Dg) (w : World) : Ret Try.prog 49 #[dv d] w (.int .u64 (num d : Int)) := by
  refine enter1 Try.func49 rfl Try.ntmps49 rfl ?_
  repeat (first|apply CG.seq|apply CG.region|apply SG.nil|apply NG.next|apply CG.skip|apply CG.block|apply CG.ret|apply CG.exit|apply NG.exit_then|refine NG.exit_block rfl ?_|apply NG.normal_block|refine SG.val rfl rfl rfl rfl (by first|(apply qb64<;>(first|exact rfl|assumption|exact Ar.mk (by omega)|exact dct (by first|assumption|omega)|exact dcf (by first|assumption|omega)|exact List.not_mem_nil|apply dc_length|exact nm1 (by omega)|fail))|(apply q64b<;>(first|exact rfl|assumption|exact Ar.mk (by omega)|exact dct (by first|assumption|omega)|exact dcf (by first|assumption|omega)|exact List.not_mem_nil|apply dc_length|exact nm1 (by omega)|fail))|((first|apply quxo|apply quor|apply qush|apply qusr|apply qmi|apply qid|apply qia0|apply qia|apply qmv|apply qas|apply qlc|apply qla|apply qnc|apply qls|apply qad)<;>(first|exact rfl|assumption|exact Ar.mk (by omega)|exact dct (by first|assumption|omega)|exact dcf (by first|assumption|omega)|exact List.not_mem_nil|apply dc_length|exact nm1 (by omega)|fail))|fail) ?_)
  refine SG.box rfl rfl rfl (by exact rho_of rfl) (fun b w1 hk1 hb hB => ?_)
  have hB : Blk w1 b (.cells (dc d).toArray 24) := hB
  have hr : Row w1 b 0 (dc d) := Row.all hB rfl
  repeat (first|apply CG.seq|apply CG.region|apply SG.nil|apply NG.next|apply CG.skip|apply CG.block|apply CG.ret|apply CG.exit|apply NG.exit_then|refine NG.exit_block rfl ?_|apply NG.normal_block|refine SG.val rfl rfl rfl rfl (by first|(apply qb64<;>(first|exact rfl|assumption|exact Ar.mk (by omega)|exact dct (by first|assumption|omega)|exact dcf (by first|assumption|omega)|exact List.not_mem_nil|apply dc_length|exact nm1 (by omega)|fail))|(apply q64b<;>(first|exact rfl|assumption|exact Ar.mk (by omega)|exact dct (by first|assumption|omega)|exact dcf (by first|assumption|omega)|exact List.not_mem_nil|apply dc_length|exact nm1 (by omega)|fail))|((first|apply quxo|apply quor|apply qush|apply qusr|apply qmi|apply qid|apply qia0|apply qia|apply qmv|apply qas|apply qlc|apply qla|apply qnc|apply qls|apply qad)<;>(first|exact rfl|assumption|exact Ar.mk (by omega)|exact dct (by first|assumption|omega)|exact dcf (by first|assumption|omega)|exact List.not_mem_nil|apply dc_length|exact nm1 (by omega)|fail))|fail) ?_)
  refine CG.loop (X := Nat) (fun i => [(3, .int .u64 (val (d.1.take i) : Int)), (6, dv d), (7, .int .i64 (i : Int))])
    (fun i w' => i ≤ 8 ∧ w' = w1) (fun i => 8 - i) 0 ⟨by omega, rfl⟩ (by (repeat' (first | exact True.intro | exact rfl | refine And.intro ?_ ?_))) ?_
  rintro i w2 ⟨hi, rfl⟩
  by_cases hlt : i < 8
  · have g1 : (i : Int) < 8 := by omega
    have hv := dc_at d hlt
    have e1 := num_step (d := d) hlt
    repeat (first|apply CG.seq|apply CG.region|apply SG.nil|apply NG.next|apply CG.skip|apply CG.block|apply CG.ret|apply CG.exit|apply NG.exit_then|refine NG.exit_block rfl ?_|apply NG.normal_block|refine SG.val rfl rfl rfl rfl (by first|(apply qb64<;>(first|exact rfl|assumption|exact Ar.mk (by omega)|exact dct (by first|assumption|omega)|exact dcf (by first|assumption|omega)|exact List.not_mem_nil|apply dc_length|exact nm1 (by omega)|fail))|(apply q64b<;>(first|exact rfl|assumption|exact Ar.mk (by omega)|exact dct (by first|assumption|omega)|exact dcf (by first|assumption|omega)|exact List.not_mem_nil|apply dc_length|exact nm1 (by omega)|fail))|((first|apply quxo|apply quor|apply qush|apply qusr|apply qmi|apply qid|apply qia0|apply qia|apply qmv|apply qas|apply qlc|apply qla|apply qnc|apply qls|apply qad)<;>(first|exact rfl|assumption|exact Ar.mk (by omega)|exact dct (by first|assumption|omega)|exact dcf (by first|assumption|omega)|exact List.not_mem_nil|apply dc_length|exact nm1 (by omega)|fail))|fail) ?_)
    refine CG.cond_t rfl (by exact rho_of rfl) rfl ?_
    repeat (first|apply CG.seq|apply CG.region|apply SG.nil|apply NG.next|apply CG.skip|apply CG.block|apply CG.ret|apply CG.exit|apply NG.exit_then|refine NG.exit_block rfl ?_|apply NG.normal_block|refine SG.val rfl rfl rfl rfl (by first|(apply qb64<;>(first|exact rfl|assumption|exact Ar.mk (by omega)|exact dct (by first|assumption|omega)|exact dcf (by first|assumption|omega)|exact List.not_mem_nil|apply dc_length|exact nm1 (by omega)|fail))|(apply q64b<;>(first|exact rfl|assumption|exact Ar.mk (by omega)|exact dct (by first|assumption|omega)|exact dcf (by first|assumption|omega)|exact List.not_mem_nil|apply dc_length|exact nm1 (by omega)|fail))|((first|apply quxo|apply quor|apply qush|apply qusr|apply qmi|apply qid|apply qia0|apply qia|apply qmv|apply qas|apply qlc|apply qla|apply qnc|apply qls|apply qad)<;>(first|exact rfl|assumption|exact Ar.mk (by omega)|exact dct (by first|assumption|omega)|exact dcf (by first|assumption|omega)|exact List.not_mem_nil|apply dc_length|exact nm1 (by omega)|fail))|fail) ?_)
    rw [e1]
    refine NG.round (i + 1) (by (repeat' (first | exact True.intro | exact rfl | refine And.intro ?_ ?_))) ⟨by omega, rfl⟩ (by omega)
  · have g1 : ¬ (i : Int) < 8 := by omega
    have e8 : i = 8 := by omega
    subst e8
    have hnum : (val (d.1.take 8) : Int) = (num d : Int) := by
      unfold num
      rw [List.take_of_length_le (by rw [d.2]; omega)]
    rw [hnum]
    repeat (first|apply CG.seq|apply CG.region|apply SG.nil|apply NG.next|apply CG.skip|apply CG.block|apply CG.ret|apply CG.exit|apply NG.exit_then|refine NG.exit_block rfl ?_|apply NG.normal_block|refine SG.val rfl rfl rfl rfl (by first|(apply qb64<;>(first|exact rfl|assumption|exact Ar.mk (by omega)|exact dct (by first|assumption|omega)|exact dcf (by first|assumption|omega)|exact List.not_mem_nil|apply dc_length|exact nm1 (by omega)|fail))|(apply q64b<;>(first|exact rfl|assumption|exact Ar.mk (by omega)|exact dct (by first|assumption|omega)|exact dcf (by first|assumption|omega)|exact List.not_mem_nil|apply dc_length|exact nm1 (by omega)|fail))|((first|apply quxo|apply quor|apply qush|apply qusr|apply qmi|apply qid|apply qia0|apply qia|apply qmv|apply qas|apply qlc|apply qla|apply qnc|apply qls|apply qad)<;>(first|exact rfl|assumption|exact Ar.mk (by omega)|exact dct (by first|assumption|omega)|exact dcf (by first|assumption|omega)|exact List.not_mem_nil|apply dc_length|exact nm1 (by omega)|fail))|fail) ?_)
    refine CG.cond_f rfl (by exact rho_of rfl) rfl ?_
    repeat (first|apply CG.seq|apply CG.region|apply SG.nil|apply NG.next|apply CG.skip|apply CG.block|apply CG.ret|apply CG.exit|apply NG.exit_then|refine NG.exit_block rfl ?_|apply NG.normal_block|refine SG.val rfl rfl rfl rfl (by first|(apply qb64<;>(first|exact rfl|assumption|exact Ar.mk (by omega)|exact dct (by first|assumption|omega)|exact dcf (by first|assumption|omega)|exact List.not_mem_nil|apply dc_length|exact nm1 (by omega)|fail))|(apply q64b<;>(first|exact rfl|assumption|exact Ar.mk (by omega)|exact dct (by first|assumption|omega)|exact dcf (by first|assumption|omega)|exact List.not_mem_nil|apply dc_length|exact nm1 (by omega)|fail))|((first|apply quxo|apply quor|apply qush|apply qusr|apply qmi|apply qid|apply qia0|apply qia|apply qmv|apply qas|apply qlc|apply qla|apply qnc|apply qls|apply qad)<;>(first|exact rfl|assumption|exact Ar.mk (by omega)|exact dct (by first|assumption|omega)|exact dcf (by first|assumption|omega)|exact List.not_mem_nil|apply dc_length|exact nm1 (by omega)|fail))|fail) ?_)
    refine ret1 (Or.inl rfl) Try.results49 (by first | exact ResV.tmp rfl | exact ResV.agg rfl rfl (by assumption) (by first | exact dc_length _ | exact nc_length _ | exact rc_length _ _ _ | exact ec_length _ | exact dl_length _ _ _ _ | rfl) | exact ResV.cell rfl rfl (by assumption)) ?_
    exact ⟨rfl, hk1⟩
set_option maxHeartbeats 8000000 in
theorem from_spec (n : Nat) (w : World) : Ret Try.prog 98 #[.int .u64 (n : Int)] w (dv (frm n)) := by
  refine enter1 Try.func98 rfl Try.ntmps98 rfl ?_
  repeat (first|apply CG.seq|apply CG.region|apply SG.nil|apply NG.next|apply CG.skip|apply CG.block|apply CG.ret|apply CG.exit|apply NG.exit_then|refine NG.exit_block rfl ?_|apply NG.normal_block|refine SG.val rfl rfl rfl rfl (by first|(apply qb64<;>(first|exact rfl|assumption|exact Ar.mk (by omega)|exact dct (by first|assumption|omega)|exact dcf (by first|assumption|omega)|exact List.not_mem_nil|apply dc_length|exact nm1 (by omega)|fail))|(apply q64b<;>(first|exact rfl|assumption|exact Ar.mk (by omega)|exact dct (by first|assumption|omega)|exact dcf (by first|assumption|omega)|exact List.not_mem_nil|apply dc_length|exact nm1 (by omega)|fail))|((first|apply quxo|apply quor|apply qush|apply qusr|apply qmi|apply qid|apply qia0|apply qia|apply qmv|apply qas|apply qlc|apply qla|apply qnc|apply qls|apply qad)<;>(first|exact rfl|assumption|exact Ar.mk (by omega)|exact dct (by first|assumption|omega)|exact dcf (by first|assumption|omega)|exact List.not_mem_nil|apply dc_length|exact nm1 (by omega)|fail))|fail) ?_)
  refine SG.alloc rfl rfl rfl (fun b2 w1 hk1 hb2 hB2 => ?_)
  repeat (first|apply CG.seq|apply CG.region|apply SG.nil|apply NG.next|apply CG.skip|apply CG.block|apply CG.ret|apply CG.exit|apply NG.exit_then|refine NG.exit_block rfl ?_|apply NG.normal_block|refine SG.val rfl rfl rfl rfl (by first|(apply qb64<;>(first|exact rfl|assumption|exact Ar.mk (by omega)|exact dct (by first|assumption|omega)|exact dcf (by first|assumption|omega)|exact List.not_mem_nil|apply dc_length|exact nm1 (by omega)|fail))|(apply q64b<;>(first|exact rfl|assumption|exact Ar.mk (by omega)|exact dct (by first|assumption|omega)|exact dcf (by first|assumption|omega)|exact List.not_mem_nil|apply dc_length|exact nm1 (by omega)|fail))|((first|apply quxo|apply quor|apply qush|apply qusr|apply qmi|apply qid|apply qia0|apply qia|apply qmv|apply qas|apply qlc|apply qla|apply qnc|apply qls|apply qad)<;>(first|exact rfl|assumption|exact Ar.mk (by omega)|exact dct (by first|assumption|omega)|exact dcf (by first|assumption|omega)|exact List.not_mem_nil|apply dc_length|exact nm1 (by omega)|fail))|fail) ?_)
  refine SG.alloc rfl rfl rfl (fun b3 w2 hk2 hb3 hB3 => ?_)
  have hB2 : Blk w1 b2 (.cells (dc zd).toArray 24) := hB2
  have hB3 : Blk w2 b3 (.cells (dc zd).toArray 24) := hB3
  have hl2 := hB2.lt
  repeat (first|apply CG.seq|apply CG.region|apply SG.nil|apply NG.next|apply CG.skip|apply CG.block|apply CG.ret|apply CG.exit|apply NG.exit_then|refine NG.exit_block rfl ?_|apply NG.normal_block|refine SG.val rfl rfl rfl rfl (by first|(apply qb64<;>(first|exact rfl|assumption|exact Ar.mk (by omega)|exact dct (by first|assumption|omega)|exact dcf (by first|assumption|omega)|exact List.not_mem_nil|apply dc_length|exact nm1 (by omega)|fail))|(apply q64b<;>(first|exact rfl|assumption|exact Ar.mk (by omega)|exact dct (by first|assumption|omega)|exact dcf (by first|assumption|omega)|exact List.not_mem_nil|apply dc_length|exact nm1 (by omega)|fail))|((first|apply quxo|apply quor|apply qush|apply qusr|apply qmi|apply qid|apply qia0|apply qia|apply qmv|apply qas|apply qlc|apply qla|apply qnc|apply qls|apply qad)<;>(first|exact rfl|assumption|exact Ar.mk (by omega)|exact dct (by first|assumption|omega)|exact dcf (by first|assumption|omega)|exact List.not_mem_nil|apply dc_length|exact nm1 (by omega)|fail))|fail) ?_)
  refine CG.loop (X := Nat) (fun i => [(0, .int .u64 (n : Int)), (2, .pointer (some ⟨b2, 0, none⟩)), (3, .pointer (some ⟨b3, 0, none⟩)), (5, .int .i64 (i : Int))])
    (fun i w' => i ≤ 8 ∧ Kp [b3] w2 w' ∧ Blk w' b3 (.cells (part n i).toArray 24)) (fun i => 8 - i) 0 ⟨by omega, Kp.refl _ _, hB3⟩ (by (repeat' (first | exact True.intro | exact rfl | refine And.intro ?_ ?_))) ?_
  rintro i w3 ⟨hi, hk3, hB⟩
  by_cases hlt : i < 8
  · have g1 : (i : Int) < 8 := by omega
    have e1 : shrI (n : Int) (8 * (i : Int)) = ((n / 2 ^ (8 * i) : Nat) : Int) := by
      have h8 : (8 * (i : Int)) = ((8 * i : Nat) : Int) := by omega
      rw [h8, shrI_nat (by omega)]
    repeat (first|apply CG.seq|apply CG.region|apply SG.nil|apply NG.next|apply CG.skip|apply CG.block|apply CG.ret|apply CG.exit|apply NG.exit_then|refine NG.exit_block rfl ?_|apply NG.normal_block|refine SG.val rfl rfl rfl rfl (by first|(apply qb64<;>(first|exact rfl|assumption|exact Ar.mk (by omega)|exact dct (by first|assumption|omega)|exact dcf (by first|assumption|omega)|exact List.not_mem_nil|apply dc_length|exact nm1 (by omega)|fail))|(apply q64b<;>(first|exact rfl|assumption|exact Ar.mk (by omega)|exact dct (by first|assumption|omega)|exact dcf (by first|assumption|omega)|exact List.not_mem_nil|apply dc_length|exact nm1 (by omega)|fail))|((first|apply quxo|apply quor|apply qush|apply qusr|apply qmi|apply qid|apply qia0|apply qia|apply qmv|apply qas|apply qlc|apply qla|apply qnc|apply qls|apply qad)<;>(first|exact rfl|assumption|exact Ar.mk (by omega)|exact dct (by first|assumption|omega)|exact dcf (by first|assumption|omega)|exact List.not_mem_nil|apply dc_length|exact nm1 (by omega)|fail))|fail) ?_)
    refine CG.cond_t rfl (by exact rho_of rfl) rfl ?_
    repeat (first|apply CG.seq|apply CG.region|apply SG.nil|apply NG.next|apply CG.skip|apply CG.block|apply CG.ret|apply CG.exit|apply NG.exit_then|refine NG.exit_block rfl ?_|apply NG.normal_block|refine SG.val rfl rfl rfl rfl (by first|(apply qb64<;>(first|exact rfl|assumption|exact Ar.mk (by omega)|exact dct (by first|assumption|omega)|exact dcf (by first|assumption|omega)|exact List.not_mem_nil|apply dc_length|exact nm1 (by omega)|fail))|(apply q64b<;>(first|exact rfl|assumption|exact Ar.mk (by omega)|exact dct (by first|assumption|omega)|exact dcf (by first|assumption|omega)|exact List.not_mem_nil|apply dc_length|exact nm1 (by omega)|fail))|((first|apply quxo|apply quor|apply qush|apply qusr|apply qmi|apply qid|apply qia0|apply qia|apply qmv|apply qas|apply qlc|apply qla|apply qnc|apply qls|apply qad)<;>(first|exact rfl|assumption|exact Ar.mk (by omega)|exact dct (by first|assumption|omega)|exact dcf (by first|assumption|omega)|exact List.not_mem_nil|apply dc_length|exact nm1 (by omega)|fail))|fail) ?_)
    rw [e1]
    repeat (first|apply CG.seq|apply CG.region|apply SG.nil|apply NG.next|apply CG.skip|apply CG.block|apply CG.ret|apply CG.exit|apply NG.exit_then|refine NG.exit_block rfl ?_|apply NG.normal_block|refine SG.val rfl rfl rfl rfl (by first|(apply qb64<;>(first|exact rfl|assumption|exact Ar.mk (by omega)|exact dct (by first|assumption|omega)|exact dcf (by first|assumption|omega)|exact List.not_mem_nil|apply dc_length|exact nm1 (by omega)|fail))|(apply q64b<;>(first|exact rfl|assumption|exact Ar.mk (by omega)|exact dct (by first|assumption|omega)|exact dcf (by first|assumption|omega)|exact List.not_mem_nil|apply dc_length|exact nm1 (by omega)|fail))|((first|apply quxo|apply quor|apply qush|apply qusr|apply qmi|apply qid|apply qia0|apply qia|apply qmv|apply qas|apply qlc|apply qla|apply qnc|apply qls|apply qad)<;>(first|exact rfl|assumption|exact Ar.mk (by omega)|exact dct (by first|assumption|omega)|exact dcf (by first|assumption|omega)|exact List.not_mem_nil|apply dc_length|exact nm1 (by omega)|fail))|fail) ?_)
    rw [toB_nat]
    refine SG.store rfl rfl (by exact rho_of rfl) (by exact rho_of rfl) hB rfl (by show 0 + i * 1 + 1 ≤ (part n i).toArray.size; simp [part_length hi]; omega) rfl (fun w4 hk4 hB4 => ?_)
    have hB4 : Blk w4 b3 (.cells (spl (part n i) (0 + i * 1) [bv (UInt8.ofNat (n / 2 ^ (8 * i)))]).toArray 24) := hB4
    rw [show 0 + i * 1 = i from by omega, part_step hlt] at hB4
    repeat (first|apply CG.seq|apply CG.region|apply SG.nil|apply NG.next|apply CG.skip|apply CG.block|apply CG.ret|apply CG.exit|apply NG.exit_then|refine NG.exit_block rfl ?_|apply NG.normal_block|refine SG.val rfl rfl rfl rfl (by first|(apply qb64<;>(first|exact rfl|assumption|exact Ar.mk (by omega)|exact dct (by first|assumption|omega)|exact dcf (by first|assumption|omega)|exact List.not_mem_nil|apply dc_length|exact nm1 (by omega)|fail))|(apply q64b<;>(first|exact rfl|assumption|exact Ar.mk (by omega)|exact dct (by first|assumption|omega)|exact dcf (by first|assumption|omega)|exact List.not_mem_nil|apply dc_length|exact nm1 (by omega)|fail))|((first|apply quxo|apply quor|apply qush|apply qusr|apply qmi|apply qid|apply qia0|apply qia|apply qmv|apply qas|apply qlc|apply qla|apply qnc|apply qls|apply qad)<;>(first|exact rfl|assumption|exact Ar.mk (by omega)|exact dct (by first|assumption|omega)|exact dcf (by first|assumption|omega)|exact List.not_mem_nil|apply dc_length|exact nm1 (by omega)|fail))|fail) ?_)
    refine NG.round (i + 1) (by (repeat' (first | exact True.intro | exact rfl | refine And.intro ?_ ?_))) ⟨by omega, hk3.trans hk4, hB4⟩ (by omega)
  · have g1 : ¬ (i : Int) < 8 := by omega
    have e8 : i = 8 := by omega
    subst e8
    rw [part_all] at hB
    have hr : Row w3 b3 0 (dc (frm n)) := Row.all hB rfl
    repeat (first|apply CG.seq|apply CG.region|apply SG.nil|apply NG.next|apply CG.skip|apply CG.block|apply CG.ret|apply CG.exit|apply NG.exit_then|refine NG.exit_block rfl ?_|apply NG.normal_block|refine SG.val rfl rfl rfl rfl (by first|(apply qb64<;>(first|exact rfl|assumption|exact Ar.mk (by omega)|exact dct (by first|assumption|omega)|exact dcf (by first|assumption|omega)|exact List.not_mem_nil|apply dc_length|exact nm1 (by omega)|fail))|(apply q64b<;>(first|exact rfl|assumption|exact Ar.mk (by omega)|exact dct (by first|assumption|omega)|exact dcf (by first|assumption|omega)|exact List.not_mem_nil|apply dc_length|exact nm1 (by omega)|fail))|((first|apply quxo|apply quor|apply qush|apply qusr|apply qmi|apply qid|apply qia0|apply qia|apply qmv|apply qas|apply qlc|apply qla|apply qnc|apply qls|apply qad)<;>(first|exact rfl|assumption|exact Ar.mk (by omega)|exact dct (by first|assumption|omega)|exact dcf (by first|assumption|omega)|exact List.not_mem_nil|apply dc_length|exact nm1 (by omega)|fail))|fail) ?_)
    refine CG.cond_f rfl (by exact rho_of rfl) rfl ?_
    repeat (first|apply CG.seq|apply CG.region|apply SG.nil|apply NG.next|apply CG.skip|apply CG.block|apply CG.ret|apply CG.exit|apply NG.exit_then|refine NG.exit_block rfl ?_|apply NG.normal_block|refine SG.val rfl rfl rfl rfl (by first|(apply qb64<;>(first|exact rfl|assumption|exact Ar.mk (by omega)|exact dct (by first|assumption|omega)|exact dcf (by first|assumption|omega)|exact List.not_mem_nil|apply dc_length|exact nm1 (by omega)|fail))|(apply q64b<;>(first|exact rfl|assumption|exact Ar.mk (by omega)|exact dct (by first|assumption|omega)|exact dcf (by first|assumption|omega)|exact List.not_mem_nil|apply dc_length|exact nm1 (by omega)|fail))|((first|apply quxo|apply quor|apply qush|apply qusr|apply qmi|apply qid|apply qia0|apply qia|apply qmv|apply qas|apply qlc|apply qla|apply qnc|apply qls|apply qad)<;>(first|exact rfl|assumption|exact Ar.mk (by omega)|exact dct (by first|assumption|omega)|exact dcf (by first|assumption|omega)|exact List.not_mem_nil|apply dc_length|exact nm1 (by omega)|fail))|fail) ?_)
    refine SG.setAll (old := dc zd) (l := dc (frm n)) rfl rfl (by exact rho_of rfl) (by exact rho_of rfl) ((hB2.kp0 hk2).kp hk3 (nm1 (by omega))) (dc_length _) (dc_length _) (dc_one _) (fun w4 hk4 hB4 => ?_)
    have hr4 : Row w4 b2 0 (dc (frm n)) := Row.all hB4 rfl
    repeat (first|apply CG.seq|apply CG.region|apply SG.nil|apply NG.next|apply CG.skip|apply CG.block|apply CG.ret|apply CG.exit|apply NG.exit_then|refine NG.exit_block rfl ?_|apply NG.normal_block|refine SG.val rfl rfl rfl rfl (by first|(apply qb64<;>(first|exact rfl|assumption|exact Ar.mk (by omega)|exact dct (by first|assumption|omega)|exact dcf (by first|assumption|omega)|exact List.not_mem_nil|apply dc_length|exact nm1 (by omega)|fail))|(apply q64b<;>(first|exact rfl|assumption|exact Ar.mk (by omega)|exact dct (by first|assumption|omega)|exact dcf (by first|assumption|omega)|exact List.not_mem_nil|apply dc_length|exact nm1 (by omega)|fail))|((first|apply quxo|apply quor|apply qush|apply qusr|apply qmi|apply qid|apply qia0|apply qia|apply qmv|apply qas|apply qlc|apply qla|apply qnc|apply qls|apply qad)<;>(first|exact rfl|assumption|exact Ar.mk (by omega)|exact dct (by first|assumption|omega)|exact dcf (by first|assumption|omega)|exact List.not_mem_nil|apply dc_length|exact nm1 (by omega)|fail))|fail) ?_)
    refine ret1 (Or.inl rfl) Try.results98 (by first | exact ResV.tmp rfl | exact ResV.agg rfl rfl (by assumption) (by first | exact dc_length _ | exact nc_length _ | exact rc_length _ _ _ | exact ec_length _ | exact dl_length _ _ _ _ | rfl) | exact ResV.cell rfl rfl (by assumption)) ?_
    have s1 := hk1.size
    have s2 := hk2.size
    exact ⟨rfl, ((hk1.trans hk2).trans_new hk3 (new1 (by omega))).trans_new hk4 (new1 hb2)⟩
set_option maxHeartbeats 8000000 in
theorem take_spec {w : World} {b : Nat} {s : Hs} (hB : Blk w b (.cells (hsl s).toArray 111)) (z : Int) : Calls Try.prog 72 #[.pointer (some ⟨b, 0, none⟩), .int .u64 z] w (fun e w' => e = .returned (.tuple #[]) ∧ Kp [b] w w' ∧ Blk w' b (.cells (hsl (takeI s z)).toArray 111)) := by
  refine enter2 Try.func72 rfl Try.ntmps72 rfl ?_
  obtain ⟨r0, r1, r2, r3, _⟩ := hs_rows hB
  apply CG.seq
  refine CG.tail mixed 8 [0, 1, 2, 3, 4, 5, 6, 7] (by kernel_rfl) ?_
  repeat (refine Der.val rfl rfl rfl (by first|(apply qb64<;>(first|exact rfl|assumption|exact Ar.mk (by omega)|exact dct (by first|assumption|omega)|exact dcf (by first|assumption|omega)|exact List.not_mem_nil|apply dc_length|exact nm1 (by omega)|fail))|(apply q64b<;>(first|exact rfl|assumption|exact Ar.mk (by omega)|exact dct (by first|assumption|omega)|exact dcf (by first|assumption|omega)|exact List.not_mem_nil|apply dc_length|exact nm1 (by omega)|fail))|((first|apply quxo|apply quor|apply qush|apply qusr|apply qmi|apply qid|apply qia0|apply qia|apply qmv|apply qas|apply qlc|apply qla|apply qnc|apply qls|apply qad)<;>(first|exact rfl|assumption|exact Ar.mk (by omega)|exact dct (by first|assumption|omega)|exact dcf (by first|assumption|omega)|exact List.not_mem_nil|apply dc_length|exact nm1 (by omega)|fail))|fail) ?_)
  refine Der.tl (fun w1 hk1 _ _ => ?_)
  refine SG.store rfl rfl (by exact rho_of rfl) (by exact rho_of rfl) (hB.kp0 hk1) rfl (by show 0 + 0 * 1 + 1 ≤ 4; omega) rfl (fun w2 hk2 hB2 => ?_)
  have hB2 : Blk w2 b (.cells (hsl ⟨xorI s.a z, s.b, s.c, s.d⟩).toArray 111) := hB2
  repeat (first|apply CG.seq|apply CG.region|apply SG.nil|apply NG.next|apply CG.skip|apply CG.block|apply CG.ret|apply CG.exit|apply NG.exit_then|refine NG.exit_block rfl ?_|apply NG.normal_block|refine SG.val rfl rfl rfl rfl (by first|(apply qb64<;>(first|exact rfl|assumption|exact Ar.mk (by omega)|exact dct (by first|assumption|omega)|exact dcf (by first|assumption|omega)|exact List.not_mem_nil|apply dc_length|exact nm1 (by omega)|fail))|(apply q64b<;>(first|exact rfl|assumption|exact Ar.mk (by omega)|exact dct (by first|assumption|omega)|exact dcf (by first|assumption|omega)|exact List.not_mem_nil|apply dc_length|exact nm1 (by omega)|fail))|((first|apply quxo|apply quor|apply qush|apply qusr|apply qmi|apply qid|apply qia0|apply qia|apply qmv|apply qas|apply qlc|apply qla|apply qnc|apply qls|apply qad)<;>(first|exact rfl|assumption|exact Ar.mk (by omega)|exact dct (by first|assumption|omega)|exact dcf (by first|assumption|omega)|exact List.not_mem_nil|apply dc_length|exact nm1 (by omega)|fail))|fail) ?_)
  refine SG.call rfl rfl rfl (by repeat' (first | exact True.intro | exact rho_of rfl | refine And.intro ?_ ?_)) ((stir_spec hB2).mono (fun e w3 hh => ?_))
  obtain ⟨he, hk3, hB3⟩ := hh
  refine ⟨_, he, ?_⟩
  repeat (first|apply CG.seq|apply CG.region|apply SG.nil|apply NG.next|apply CG.skip|apply CG.block|apply CG.ret|apply CG.exit|apply NG.exit_then|refine NG.exit_block rfl ?_|apply NG.normal_block|refine SG.val rfl rfl rfl rfl (by first|(apply qb64<;>(first|exact rfl|assumption|exact Ar.mk (by omega)|exact dct (by first|assumption|omega)|exact dcf (by first|assumption|omega)|exact List.not_mem_nil|apply dc_length|exact nm1 (by omega)|fail))|(apply q64b<;>(first|exact rfl|assumption|exact Ar.mk (by omega)|exact dct (by first|assumption|omega)|exact dcf (by first|assumption|omega)|exact List.not_mem_nil|apply dc_length|exact nm1 (by omega)|fail))|((first|apply quxo|apply quor|apply qush|apply qusr|apply qmi|apply qid|apply qia0|apply qia|apply qmv|apply qas|apply qlc|apply qla|apply qnc|apply qls|apply qad)<;>(first|exact rfl|assumption|exact Ar.mk (by omega)|exact dct (by first|assumption|omega)|exact dcf (by first|assumption|omega)|exact List.not_mem_nil|apply dc_length|exact nm1 (by omega)|fail))|fail) ?_)
  refine ret0 (Or.inr rfl) Try.results72 ?_
  exact ⟨rfl, (hk1.any.trans hk2).trans hk3, hB3⟩
set_option maxHeartbeats 8000000 in
theorem gives_spec {w : World} {b : Nat} {s : Hs} (hB : Blk w b (.cells (hsl s).toArray 111)) : Ret Try.prog 73 #[.pointer (some ⟨b, 0, none⟩)] w (dv (givesI s)) := by
  refine enter1 Try.func73 rfl Try.ntmps73 rfl ?_
  obtain ⟨n, hn, _⟩ := xorI_nat s.a s.c
  have hg : givesI s = frm n := by unfold givesI; rw [hn]; rfl
  rw [hg]
  repeat (first|apply CG.seq|apply CG.region|apply SG.nil|apply NG.next|apply CG.skip|apply CG.block|apply CG.ret|apply CG.exit|apply NG.exit_then|refine NG.exit_block rfl ?_|apply NG.normal_block|refine SG.val rfl rfl rfl rfl (by first|(apply qb64<;>(first|exact rfl|assumption|exact Ar.mk (by omega)|exact dct (by first|assumption|omega)|exact dcf (by first|assumption|omega)|exact List.not_mem_nil|apply dc_length|exact nm1 (by omega)|fail))|(apply q64b<;>(first|exact rfl|assumption|exact Ar.mk (by omega)|exact dct (by first|assumption|omega)|exact dcf (by first|assumption|omega)|exact List.not_mem_nil|apply dc_length|exact nm1 (by omega)|fail))|((first|apply quxo|apply quor|apply qush|apply qusr|apply qmi|apply qid|apply qia0|apply qia|apply qmv|apply qas|apply qlc|apply qla|apply qnc|apply qls|apply qad)<;>(first|exact rfl|assumption|exact Ar.mk (by omega)|exact dct (by first|assumption|omega)|exact dcf (by first|assumption|omega)|exact List.not_mem_nil|apply dc_length|exact nm1 (by omega)|fail))|fail) ?_)
  refine SG.alloc rfl rfl rfl (fun b2 w1 hk1 hb2 hB2 => ?_)
  have hB2 : Blk w1 b2 (.cells (dc zd).toArray 24) := hB2
  obtain ⟨r0, r1, r2, r3, _⟩ := hs_rows (hB.kp0 hk1)
  repeat (first|apply CG.seq|apply CG.region|apply SG.nil|apply NG.next|apply CG.skip|apply CG.block|apply CG.ret|apply CG.exit|apply NG.exit_then|refine NG.exit_block rfl ?_|apply NG.normal_block|refine SG.val rfl rfl rfl rfl (by first|(apply qb64<;>(first|exact rfl|assumption|exact Ar.mk (by omega)|exact dct (by first|assumption|omega)|exact dcf (by first|assumption|omega)|exact List.not_mem_nil|apply dc_length|exact nm1 (by omega)|fail))|(apply q64b<;>(first|exact rfl|assumption|exact Ar.mk (by omega)|exact dct (by first|assumption|omega)|exact dcf (by first|assumption|omega)|exact List.not_mem_nil|apply dc_length|exact nm1 (by omega)|fail))|((first|apply quxo|apply quor|apply qush|apply qusr|apply qmi|apply qid|apply qia0|apply qia|apply qmv|apply qas|apply qlc|apply qla|apply qnc|apply qls|apply qad)<;>(first|exact rfl|assumption|exact Ar.mk (by omega)|exact dct (by first|assumption|omega)|exact dcf (by first|assumption|omega)|exact List.not_mem_nil|apply dc_length|exact nm1 (by omega)|fail))|fail) ?_)
  refine CG.tail mixed 9 [0, 1, 2, 3, 4, 5, 6, 7, 8] (by kernel_rfl) ?_
  repeat (refine Der.val rfl rfl rfl (by first|(apply qb64<;>(first|exact rfl|assumption|exact Ar.mk (by omega)|exact dct (by first|assumption|omega)|exact dcf (by first|assumption|omega)|exact List.not_mem_nil|apply dc_length|exact nm1 (by omega)|fail))|(apply q64b<;>(first|exact rfl|assumption|exact Ar.mk (by omega)|exact dct (by first|assumption|omega)|exact dcf (by first|assumption|omega)|exact List.not_mem_nil|apply dc_length|exact nm1 (by omega)|fail))|((first|apply quxo|apply quor|apply qush|apply qusr|apply qmi|apply qid|apply qia0|apply qia|apply qmv|apply qas|apply qlc|apply qla|apply qnc|apply qls|apply qad)<;>(first|exact rfl|assumption|exact Ar.mk (by omega)|exact dct (by first|assumption|omega)|exact dcf (by first|assumption|omega)|exact List.not_mem_nil|apply dc_length|exact nm1 (by omega)|fail))|fail) ?_)
  rw [hn]
  refine Der.tl (fun w2 hk2 _ _ => ?_)
  refine SG.ret rfl rfl rfl (by repeat' (first | exact True.intro | exact rho_of rfl | refine And.intro ?_ ?_)) (from_spec n w2) (fun w3 hk3 => ?_)
  refine SG.setAll (old := dc zd) (l := dc (frm n)) rfl rfl (by exact rho_of rfl) (by exact rho_of rfl) ((hB2.kp0 hk2).kp0 hk3) (dc_length _) (dc_length _) (dc_one _) (fun w4 hk4 hB4 => ?_)
  have hr4 : Row w4 b2 0 (dc (frm n)) := Row.all hB4 rfl
  repeat (first|apply CG.seq|apply CG.region|apply SG.nil|apply NG.next|apply CG.skip|apply CG.block|apply CG.ret|apply CG.exit|apply NG.exit_then|refine NG.exit_block rfl ?_|apply NG.normal_block|refine SG.val rfl rfl rfl rfl (by first|(apply qb64<;>(first|exact rfl|assumption|exact Ar.mk (by omega)|exact dct (by first|assumption|omega)|exact dcf (by first|assumption|omega)|exact List.not_mem_nil|apply dc_length|exact nm1 (by omega)|fail))|(apply q64b<;>(first|exact rfl|assumption|exact Ar.mk (by omega)|exact dct (by first|assumption|omega)|exact dcf (by first|assumption|omega)|exact List.not_mem_nil|apply dc_length|exact nm1 (by omega)|fail))|((first|apply quxo|apply quor|apply qush|apply qusr|apply qmi|apply qid|apply qia0|apply qia|apply qmv|apply qas|apply qlc|apply qla|apply qnc|apply qls|apply qad)<;>(first|exact rfl|assumption|exact Ar.mk (by omega)|exact dct (by first|assumption|omega)|exact dcf (by first|assumption|omega)|exact List.not_mem_nil|apply dc_length|exact nm1 (by omega)|fail))|fail) ?_)
  refine ret1 (Or.inl rfl) Try.results73 (by first | exact ResV.tmp rfl | exact ResV.agg rfl rfl (by assumption) (by first | exact dc_length _ | exact nc_length _ | exact rc_length _ _ _ | exact ec_length _ | exact dl_length _ _ _ _ | rfl) | exact ResV.cell rfl rfl (by assumption)) ?_
  exact ⟨rfl, ((hk1.trans hk2).trans hk3).trans_new hk4 (new1 hb2)⟩
set_option maxHeartbeats 8000000 in
theorem begin_spec (z : Int) (w : World) : Ret Try.prog 71 #[.int .u64 z] w (.agg (hsl (beginI z)).toArray) := by
  refine enter1 Try.func71 rfl Try.ntmps71 rfl ?_
  repeat (first|apply CG.seq|apply CG.region|apply SG.nil|apply NG.next|apply CG.skip|apply CG.block|apply CG.ret|apply CG.exit|apply NG.exit_then|refine NG.exit_block rfl ?_|apply NG.normal_block|refine SG.val rfl rfl rfl rfl (by first|(apply qb64<;>(first|exact rfl|assumption|exact Ar.mk (by omega)|exact dct (by first|assumption|omega)|exact dcf (by first|assumption|omega)|exact List.not_mem_nil|apply dc_length|exact nm1 (by omega)|fail))|(apply q64b<;>(first|exact rfl|assumption|exact Ar.mk (by omega)|exact dct (by first|assumption|omega)|exact dcf (by first|assumption|omega)|exact List.not_mem_nil|apply dc_length|exact nm1 (by omega)|fail))|((first|apply quxo|apply quor|apply qush|apply qusr|apply qmi|apply qid|apply qia0|apply qia|apply qmv|apply qas|apply qlc|apply qla|apply qnc|apply qls|apply qad)<;>(first|exact rfl|assumption|exact Ar.mk (by omega)|exact dct (by first|assumption|omega)|exact dcf (by first|assumption|omega)|exact List.not_mem_nil|apply dc_length|exact nm1 (by omega)|fail))|fail) ?_)
  refine SG.alloc rfl rfl rfl (fun b2 w1 hk1 hb2 hB2 => ?_)
  have hB2 : Blk w1 b2 (.cells (hsl ⟨0, 0, 0, 0⟩).toArray 111) := hB2
  repeat (first|apply CG.seq|apply CG.region|apply SG.nil|apply NG.next|apply CG.skip|apply CG.block|apply CG.ret|apply CG.exit|apply NG.exit_then|refine NG.exit_block rfl ?_|apply NG.normal_block|refine SG.val rfl rfl rfl rfl (by first|(apply qb64<;>(first|exact rfl|assumption|exact Ar.mk (by omega)|exact dct (by first|assumption|omega)|exact dcf (by first|assumption|omega)|exact List.not_mem_nil|apply dc_length|exact nm1 (by omega)|fail))|(apply q64b<;>(first|exact rfl|assumption|exact Ar.mk (by omega)|exact dct (by first|assumption|omega)|exact dcf (by first|assumption|omega)|exact List.not_mem_nil|apply dc_length|exact nm1 (by omega)|fail))|((first|apply quxo|apply quor|apply qush|apply qusr|apply qmi|apply qid|apply qia0|apply qia|apply qmv|apply qas|apply qlc|apply qla|apply qnc|apply qls|apply qad)<;>(first|exact rfl|assumption|exact Ar.mk (by omega)|exact dct (by first|assumption|omega)|exact dcf (by first|assumption|omega)|exact List.not_mem_nil|apply dc_length|exact nm1 (by omega)|fail))|fail) ?_)
  refine SG.val rfl rfl rfl rfl (vals_build rfl (fun w => bst w _ _ _ _)) ?_
  refine SG.setAll (old := hsl ⟨0, 0, 0, 0⟩) (l := hsl (beginI z)) rfl rfl (by exact rho_of rfl) (by exact rho_of rfl) hB2 rfl rfl rfl (fun w2 hk2 hB3 => ?_)
  have hr : Row w2 b2 0 (hsl (beginI z)) := Row.all hB3 rfl
  repeat (first|apply CG.seq|apply CG.region|apply SG.nil|apply NG.next|apply CG.skip|apply CG.block|apply CG.ret|apply CG.exit|apply NG.exit_then|refine NG.exit_block rfl ?_|apply NG.normal_block|refine SG.val rfl rfl rfl rfl (by first|(apply qb64<;>(first|exact rfl|assumption|exact Ar.mk (by omega)|exact dct (by first|assumption|omega)|exact dcf (by first|assumption|omega)|exact List.not_mem_nil|apply dc_length|exact nm1 (by omega)|fail))|(apply q64b<;>(first|exact rfl|assumption|exact Ar.mk (by omega)|exact dct (by first|assumption|omega)|exact dcf (by first|assumption|omega)|exact List.not_mem_nil|apply dc_length|exact nm1 (by omega)|fail))|((first|apply quxo|apply quor|apply qush|apply qusr|apply qmi|apply qid|apply qia0|apply qia|apply qmv|apply qas|apply qlc|apply qla|apply qnc|apply qls|apply qad)<;>(first|exact rfl|assumption|exact Ar.mk (by omega)|exact dct (by first|assumption|omega)|exact dcf (by first|assumption|omega)|exact List.not_mem_nil|apply dc_length|exact nm1 (by omega)|fail))|fail) ?_)
  refine ret1 (Or.inl rfl) Try.results71 (by first | exact ResV.tmp rfl | exact ResV.agg rfl rfl (by assumption) (by first | exact dc_length _ | exact nc_length _ | exact rc_length _ _ _ | exact ec_length _ | exact dl_length _ _ _ _ | rfl) | exact ResV.cell rfl rfl (by assumption)) ?_
  exact ⟨rfl, hk1.trans_new hk2 (new1 hb2)⟩
end Go.Proofs.Ytnoipmimddoioaa
