/- The engine's tables at this seat. -/
import Derived.Test.YtkjhjgokaeiopaaGreatDoorEd
namespace Go.Proofs.YtkjhjgokaeiopaaGreatDoor
open Go Go.RowKit
namespace E
set_option maxRecDepth 100000
noncomputable def i1 : I := ⟨false, 1, Tryz.t1.desc, zo Tryz.t1, 8, [], 0, false⟩
theorem i1_ok : i1.ok Tryz.prog 1 := I.of (fun _ => by kernel_rfl) (fun _ => by kernel_rfl) (by kernel_rfl) (fun _ => by kernel_rfl) (by kernel_rfl) (by kernel_rfl) (trivial) (nofun)
noncomputable def i2 : I := ⟨false, 1, .int .i64, zo Tryz.t2, 8, [], 0, false⟩
theorem i2_ok : i2.ok Tryz.prog 2 := I.of (fun _ => by kernel_rfl) (fun _ => by kernel_rfl) (by kernel_rfl) (fun _ => by kernel_rfl) (by kernel_rfl) (by kernel_rfl) (trivial) (nofun)
noncomputable def i3 : I := ⟨false, 1, .int .i64, zo Tryz.t3, 8, [], 0, false⟩
theorem i3_ok : i3.ok Tryz.prog 3 := I.of (fun _ => by kernel_rfl) (fun _ => by kernel_rfl) (by kernel_rfl) (fun _ => by kernel_rfl) (by kernel_rfl) (by kernel_rfl) (trivial) (nofun)
noncomputable def i4 : I := ⟨false, 1, .bool, zo Tryz.t4, 1, [], 0, false⟩
theorem i4_ok : i4.ok Tryz.prog 4 := I.of (fun _ => by kernel_rfl) (fun _ => by kernel_rfl) (by kernel_rfl) (fun _ => by kernel_rfl) (by kernel_rfl) (by kernel_rfl) (trivial) (nofun)
noncomputable def i5 : I := ⟨false, 1, .int .u8, zo Tryz.t5, 1, [], 0, false⟩
theorem i5_ok : i5.ok Tryz.prog 5 := I.of (fun _ => by kernel_rfl) (fun _ => by kernel_rfl) (by kernel_rfl) (fun _ => by kernel_rfl) (by kernel_rfl) (by kernel_rfl) (trivial) (nofun)
noncomputable def i6 : I := ⟨false, 1, .int .u8, zo Tryz.t6, 1, [], 0, false⟩
theorem i6_ok : i6.ok Tryz.prog 6 := I.of (fun _ => by kernel_rfl) (fun _ => by kernel_rfl) (by kernel_rfl) (fun _ => by kernel_rfl) (by kernel_rfl) (by kernel_rfl) (trivial) (nofun)
noncomputable def i7 : I := ⟨true, 4, Tryz.t7.desc, zo Tryz.t7, 24, [(0, 1), (1, 1), (2, 1), (3, 1)], 0, false⟩
theorem i7_ok : i7.ok Tryz.prog 7 := I.of (fun _ => by kernel_rfl) (fun _ => by kernel_rfl) (by kernel_rfl) (fun _ => by kernel_rfl) (by kernel_rfl) (by kernel_rfl) (fun _ => by kernel_rfl) (nofun)
noncomputable def i8 : I := ⟨true, 4, Tryz.t7.desc, zo Tryz.t8, 24, [(0, 1), (1, 1), (2, 1), (3, 1)], 0, false⟩
theorem i8_ok : i8.ok Tryz.prog 8 := I.of (fun _ => by kernel_rfl) (fun _ => by kernel_rfl) (by kernel_rfl) (fun _ => by kernel_rfl) (by kernel_rfl) (by kernel_rfl) (fun _ => by kernel_rfl) (nofun)
noncomputable def i9 : I := ⟨false, 1, .string, zo Tryz.t9, 16, [], 0, false⟩
theorem i9_ok : i9.ok Tryz.prog 9 := I.of (fun _ => by kernel_rfl) (fun _ => by kernel_rfl) (by kernel_rfl) (fun _ => by kernel_rfl) (by kernel_rfl) (by kernel_rfl) (trivial) (nofun)
noncomputable def i10 : I := ⟨false, 1, .string, zo Tryz.t10, 16, [], 0, false⟩
theorem i10_ok : i10.ok Tryz.prog 10 := I.of (fun _ => by kernel_rfl) (fun _ => by kernel_rfl) (by kernel_rfl) (fun _ => by kernel_rfl) (by kernel_rfl) (by kernel_rfl) (trivial) (nofun)
noncomputable def i11 : I := ⟨false, 1, .string, zo Tryz.t11, 16, [], 0, false⟩
theorem i11_ok : i11.ok Tryz.prog 11 := I.of (fun _ => by kernel_rfl) (fun _ => by kernel_rfl) (by kernel_rfl) (fun _ => by kernel_rfl) (by kernel_rfl) (by kernel_rfl) (trivial) (nofun)
noncomputable def i12 : I := ⟨false, 1, .int .u64, zo Tryz.t12, 8, [], 0, false⟩
theorem i12_ok : i12.ok Tryz.prog 12 := I.of (fun _ => by kernel_rfl) (fun _ => by kernel_rfl) (by kernel_rfl) (fun _ => by kernel_rfl) (by kernel_rfl) (by kernel_rfl) (trivial) (nofun)
noncomputable def i13 : I := ⟨true, 2, Tryz.t13.desc, zo Tryz.t13, 24, [(0, 1), (1, 1)], 0, false⟩
theorem i13_ok : i13.ok Tryz.prog 13 := I.of (fun _ => by kernel_rfl) (fun _ => by kernel_rfl) (by kernel_rfl) (fun _ => by kernel_rfl) (by kernel_rfl) (by kernel_rfl) (fun _ => by kernel_rfl) (nofun)
noncomputable def i14 : I := ⟨true, 2, Tryz.t13.desc, zo Tryz.t14, 24, [(0, 1), (1, 1)], 0, false⟩
theorem i14_ok : i14.ok Tryz.prog 14 := I.of (fun _ => by kernel_rfl) (fun _ => by kernel_rfl) (by kernel_rfl) (fun _ => by kernel_rfl) (by kernel_rfl) (by kernel_rfl) (fun _ => by kernel_rfl) (nofun)
noncomputable def i15 : I := ⟨false, 1, .pointer 462, zo Tryz.t15, 8, [], 0, false⟩
theorem i15_ok : i15.ok Tryz.prog 15 := I.of (fun _ => by kernel_rfl) (fun _ => by kernel_rfl) (by kernel_rfl) (fun _ => by kernel_rfl) (by kernel_rfl) (by kernel_rfl) (trivial) (nofun)
noncomputable def i16 : I := ⟨false, 1, .pointer 465, zo Tryz.t16, 8, [], 0, false⟩
theorem i16_ok : i16.ok Tryz.prog 16 := I.of (fun _ => by kernel_rfl) (fun _ => by kernel_rfl) (by kernel_rfl) (fun _ => by kernel_rfl) (by kernel_rfl) (by kernel_rfl) (trivial) (nofun)
noncomputable def i17 : I := ⟨false, 1, .pointer 472, zo Tryz.t17, 8, [], 0, false⟩
theorem i17_ok : i17.ok Tryz.prog 17 := I.of (fun _ => by kernel_rfl) (fun _ => by kernel_rfl) (by kernel_rfl) (fun _ => by kernel_rfl) (by kernel_rfl) (by kernel_rfl) (trivial) (nofun)
noncomputable def i18 : I := ⟨true, 1, Tryz.t18.desc, zo Tryz.t18, 8, [(0, 1)], 0, false⟩
theorem i18_ok : i18.ok Tryz.prog 18 := I.of (fun _ => by kernel_rfl) (fun _ => by kernel_rfl) (by kernel_rfl) (fun _ => by kernel_rfl) (by kernel_rfl) (by kernel_rfl) (fun _ => by kernel_rfl) (nofun)
noncomputable def i19 : I := ⟨true, 1, Tryz.t18.desc, zo Tryz.t19, 8, [(0, 1)], 0, false⟩
theorem i19_ok : i19.ok Tryz.prog 19 := I.of (fun _ => by kernel_rfl) (fun _ => by kernel_rfl) (by kernel_rfl) (fun _ => by kernel_rfl) (by kernel_rfl) (by kernel_rfl) (fun _ => by kernel_rfl) (nofun)
noncomputable def i20 : I := ⟨false, 1, Tryz.t20.desc, zo Tryz.t20, 16, [], 0, false⟩
theorem i20_ok : i20.ok Tryz.prog 20 := I.of (fun _ => by kernel_rfl) (fun _ => by kernel_rfl) (by kernel_rfl) (fun _ => by kernel_rfl) (by kernel_rfl) (by kernel_rfl) (trivial) (nofun)
noncomputable def i21 : I := ⟨false, 1, .int .i32, zo Tryz.t21, 4, [], 0, false⟩
theorem i21_ok : i21.ok Tryz.prog 21 := I.of (fun _ => by kernel_rfl) (fun _ => by kernel_rfl) (by kernel_rfl) (fun _ => by kernel_rfl) (by kernel_rfl) (by kernel_rfl) (trivial) (nofun)
noncomputable def i22 : I := ⟨false, 1, .slice 5, zo Tryz.t22, 24, [], 1, false⟩
theorem i22_ok : i22.ok Tryz.prog 22 := I.of (fun _ => by kernel_rfl) (fun _ => by kernel_rfl) (by kernel_rfl) (fun _ => by kernel_rfl) (by kernel_rfl) (by kernel_rfl) (fun _ => by kernel_rfl) (nofun)
noncomputable def i23 : I := ⟨false, 1, .pointer 49, zo Tryz.t23, 8, [], 0, false⟩
theorem i23_ok : i23.ok Tryz.prog 23 := I.of (fun _ => by kernel_rfl) (fun _ => by kernel_rfl) (by kernel_rfl) (fun _ => by kernel_rfl) (by kernel_rfl) (by kernel_rfl) (trivial) (nofun)
noncomputable def i24 : I := ⟨false, 1, .int .i64, zo Tryz.t24, 8, [], 0, false⟩
theorem i24_ok : i24.ok Tryz.prog 24 := I.of (fun _ => by kernel_rfl) (fun _ => by kernel_rfl) (by kernel_rfl) (fun _ => by kernel_rfl) (by kernel_rfl) (by kernel_rfl) (trivial) (nofun)
noncomputable def i26 : I := ⟨false, 1, Tryz.t26.desc, zo Tryz.t26, 8, [], 0, false⟩
theorem i26_ok : i26.ok Tryz.prog 26 := I.of (fun _ => by kernel_rfl) (fun _ => by kernel_rfl) (by kernel_rfl) (fun _ => by kernel_rfl) (by kernel_rfl) (by kernel_rfl) (trivial) (nofun)
noncomputable def i28 : I := ⟨false, 1, Tryz.t28.desc, zo Tryz.t28, 8, [], 0, false⟩
theorem i28_ok : i28.ok Tryz.prog 28 := I.of (fun _ => by kernel_rfl) (fun _ => by kernel_rfl) (by kernel_rfl) (fun _ => by kernel_rfl) (by kernel_rfl) (by kernel_rfl) (trivial) (nofun)
noncomputable def i30 : I := ⟨false, 1, Tryz.t30.desc, zo Tryz.t30, 8, [], 0, false⟩
theorem i30_ok : i30.ok Tryz.prog 30 := I.of (fun _ => by kernel_rfl) (fun _ => by kernel_rfl) (by kernel_rfl) (fun _ => by kernel_rfl) (by kernel_rfl) (by kernel_rfl) (trivial) (nofun)
noncomputable def i32 : I := ⟨false, 1, Tryz.t32.desc, zo Tryz.t32, 8, [], 0, false⟩
theorem i32_ok : i32.ok Tryz.prog 32 := I.of (fun _ => by kernel_rfl) (fun _ => by kernel_rfl) (by kernel_rfl) (fun _ => by kernel_rfl) (by kernel_rfl) (by kernel_rfl) (trivial) (nofun)
noncomputable def i33 : I := ⟨false, 1, Tryz.t33.desc, zo Tryz.t33, 8, [], 0, false⟩
theorem i33_ok : i33.ok Tryz.prog 33 := I.of (fun _ => by kernel_rfl) (fun _ => by kernel_rfl) (by kernel_rfl) (fun _ => by kernel_rfl) (by kernel_rfl) (by kernel_rfl) (trivial) (nofun)
noncomputable def i34 : I := ⟨false, 1, Tryz.t34.desc, zo Tryz.t34, 8, [], 0, false⟩
theorem i34_ok : i34.ok Tryz.prog 34 := I.of (fun _ => by kernel_rfl) (fun _ => by kernel_rfl) (by kernel_rfl) (fun _ => by kernel_rfl) (by kernel_rfl) (by kernel_rfl) (trivial) (nofun)
noncomputable def i35 : I := ⟨false, 1, Tryz.t35.desc, zo Tryz.t35, 8, [], 0, false⟩
theorem i35_ok : i35.ok Tryz.prog 35 := I.of (fun _ => by kernel_rfl) (fun _ => by kernel_rfl) (by kernel_rfl) (fun _ => by kernel_rfl) (by kernel_rfl) (by kernel_rfl) (trivial) (nofun)
noncomputable def i36 : I := ⟨false, 1, .pointer 121, zo Tryz.t36, 8, [], 0, false⟩
theorem i36_ok : i36.ok Tryz.prog 36 := I.of (fun _ => by kernel_rfl) (fun _ => by kernel_rfl) (by kernel_rfl) (fun _ => by kernel_rfl) (by kernel_rfl) (by kernel_rfl) (trivial) (nofun)
noncomputable def i37 : I := ⟨false, 1, Tryz.t37.desc, zo Tryz.t37, 8, [], 0, false⟩
theorem i37_ok : i37.ok Tryz.prog 37 := I.of (fun _ => by kernel_rfl) (fun _ => by kernel_rfl) (by kernel_rfl) (fun _ => by kernel_rfl) (by kernel_rfl) (by kernel_rfl) (trivial) (nofun)
noncomputable def i38 : I := ⟨false, 1, Tryz.t38.desc, zo Tryz.t38, 8, [], 0, false⟩
theorem i38_ok : i38.ok Tryz.prog 38 := I.of (fun _ => by kernel_rfl) (fun _ => by kernel_rfl) (by kernel_rfl) (fun _ => by kernel_rfl) (by kernel_rfl) (by kernel_rfl) (trivial) (nofun)
noncomputable def i39 : I := ⟨false, 1, Tryz.t39.desc, zo Tryz.t39, 8, [], 0, false⟩
theorem i39_ok : i39.ok Tryz.prog 39 := I.of (fun _ => by kernel_rfl) (fun _ => by kernel_rfl) (by kernel_rfl) (fun _ => by kernel_rfl) (by kernel_rfl) (by kernel_rfl) (trivial) (nofun)
noncomputable def i40 : I := ⟨false, 1, .pointer 113, zo Tryz.t40, 8, [], 0, false⟩
theorem i40_ok : i40.ok Tryz.prog 40 := I.of (fun _ => by kernel_rfl) (fun _ => by kernel_rfl) (by kernel_rfl) (fun _ => by kernel_rfl) (by kernel_rfl) (by kernel_rfl) (trivial) (nofun)
noncomputable def i41 : I := ⟨false, 1, .pointer 78, zo Tryz.t41, 8, [], 0, false⟩
theorem i41_ok : i41.ok Tryz.prog 41 := I.of (fun _ => by kernel_rfl) (fun _ => by kernel_rfl) (by kernel_rfl) (fun _ => by kernel_rfl) (by kernel_rfl) (by kernel_rfl) (trivial) (nofun)
noncomputable def i43 : I := ⟨false, 1, Tryz.t43.desc, zo Tryz.t43, 8, [], 0, false⟩
theorem i43_ok : i43.ok Tryz.prog 43 := I.of (fun _ => by kernel_rfl) (fun _ => by kernel_rfl) (by kernel_rfl) (fun _ => by kernel_rfl) (by kernel_rfl) (by kernel_rfl) (trivial) (nofun)
noncomputable def i44 : I := ⟨false, 1, .pointer 91, zo Tryz.t44, 8, [], 0, false⟩
theorem i44_ok : i44.ok Tryz.prog 44 := I.of (fun _ => by kernel_rfl) (fun _ => by kernel_rfl) (by kernel_rfl) (fun _ => by kernel_rfl) (by kernel_rfl) (by kernel_rfl) (trivial) (nofun)
noncomputable def i45 : I := ⟨false, 1, Tryz.t45.desc, zo Tryz.t45, 8, [], 0, false⟩
theorem i45_ok : i45.ok Tryz.prog 45 := I.of (fun _ => by kernel_rfl) (fun _ => by kernel_rfl) (by kernel_rfl) (fun _ => by kernel_rfl) (by kernel_rfl) (by kernel_rfl) (trivial) (nofun)
noncomputable def i46 : I := ⟨false, 1, .pointer 55, zo Tryz.t46, 8, [], 0, false⟩
theorem i46_ok : i46.ok Tryz.prog 46 := I.of (fun _ => by kernel_rfl) (fun _ => by kernel_rfl) (by kernel_rfl) (fun _ => by kernel_rfl) (by kernel_rfl) (by kernel_rfl) (trivial) (nofun)
noncomputable def i47 : I := ⟨true, 16, .array 16 46, zo Tryz.t47, 128, [], 1, false⟩
theorem i47_ok : i47.ok Tryz.prog 47 := I.of (fun _ => by kernel_rfl) (fun _ => by kernel_rfl) (by kernel_rfl) (fun _ => by kernel_rfl) (by kernel_rfl) (by kernel_rfl) (⟨fun _ => by kernel_rfl, fun _ => by kernel_rfl⟩) (nofun)
noncomputable def i48 : I := ⟨true, 18, Tryz.t48.desc, zo Tryz.t48, 144, [(0, 1), (1, 1), (2, 16)], 0, false⟩
theorem i48_ok : i48.ok Tryz.prog 48 := I.of (fun _ => by kernel_rfl) (fun _ => by kernel_rfl) (by kernel_rfl) (fun _ => by kernel_rfl) (by kernel_rfl) (by kernel_rfl) (fun _ => by kernel_rfl) (nofun)
noncomputable def i49 : I := ⟨true, 18, Tryz.t48.desc, zo Tryz.t49, 144, [(0, 1), (1, 1), (2, 16)], 0, false⟩
theorem i49_ok : i49.ok Tryz.prog 49 := I.of (fun _ => by kernel_rfl) (fun _ => by kernel_rfl) (by kernel_rfl) (fun _ => by kernel_rfl) (by kernel_rfl) (by kernel_rfl) (fun _ => by kernel_rfl) (nofun)
noncomputable def i50 : I := ⟨false, 1, .pointer 93, zo Tryz.t50, 8, [], 0, false⟩
theorem i50_ok : i50.ok Tryz.prog 50 := I.of (fun _ => by kernel_rfl) (fun _ => by kernel_rfl) (by kernel_rfl) (fun _ => by kernel_rfl) (by kernel_rfl) (by kernel_rfl) (trivial) (nofun)
noncomputable def i51 : I := ⟨false, 1, Tryz.t51.desc, zo Tryz.t51, 8, [], 0, false⟩
theorem i51_ok : i51.ok Tryz.prog 51 := I.of (fun _ => by kernel_rfl) (fun _ => by kernel_rfl) (by kernel_rfl) (fun _ => by kernel_rfl) (by kernel_rfl) (by kernel_rfl) (trivial) (nofun)
noncomputable def i52 : I := ⟨false, 1, .slice 65, zo Tryz.t52, 24, [], 3, false⟩
theorem i52_ok : i52.ok Tryz.prog 52 := I.of (fun _ => by kernel_rfl) (fun _ => by kernel_rfl) (by kernel_rfl) (fun _ => by kernel_rfl) (by kernel_rfl) (by kernel_rfl) (fun _ => by kernel_rfl) (nofun)
noncomputable def i53 : I := ⟨false, 1, .pointer 109, zo Tryz.t53, 8, [], 0, false⟩
theorem i53_ok : i53.ok Tryz.prog 53 := I.of (fun _ => by kernel_rfl) (fun _ => by kernel_rfl) (by kernel_rfl) (fun _ => by kernel_rfl) (by kernel_rfl) (by kernel_rfl) (trivial) (nofun)
noncomputable def i54 : I := ⟨true, 5, Tryz.t54.desc, zo Tryz.t54, 72, [(0, 1), (1, 1), (2, 1), (3, 1), (4, 1)], 0, false⟩
theorem i54_ok : i54.ok Tryz.prog 54 := I.of (fun _ => by kernel_rfl) (fun _ => by kernel_rfl) (by kernel_rfl) (fun _ => by kernel_rfl) (by kernel_rfl) (by kernel_rfl) (fun _ => by kernel_rfl) (nofun)
noncomputable def i55 : I := ⟨true, 5, Tryz.t54.desc, zo Tryz.t55, 72, [(0, 1), (1, 1), (2, 1), (3, 1), (4, 1)], 0, false⟩
theorem i55_ok : i55.ok Tryz.prog 55 := I.of (fun _ => by kernel_rfl) (fun _ => by kernel_rfl) (by kernel_rfl) (fun _ => by kernel_rfl) (by kernel_rfl) (by kernel_rfl) (fun _ => by kernel_rfl) (nofun)
noncomputable def i56 : I := ⟨false, 1, .slice 9, zo Tryz.t56, 24, [], 1, false⟩
theorem i56_ok : i56.ok Tryz.prog 56 := I.of (fun _ => by kernel_rfl) (fun _ => by kernel_rfl) (by kernel_rfl) (fun _ => by kernel_rfl) (by kernel_rfl) (by kernel_rfl) (fun _ => by kernel_rfl) (nofun)
noncomputable def i57 : I := ⟨true, 6, Tryz.t57.desc, zo Tryz.t57, 56, [(0, 1), (1, 1), (2, 1), (3, 1), (4, 1), (5, 1)], 0, false⟩
theorem i57_ok : i57.ok Tryz.prog 57 := I.of (fun _ => by kernel_rfl) (fun _ => by kernel_rfl) (by kernel_rfl) (fun _ => by kernel_rfl) (by kernel_rfl) (by kernel_rfl) (fun _ => by kernel_rfl) (nofun)
noncomputable def i58 : I := ⟨true, 6, Tryz.t57.desc, zo Tryz.t58, 56, [(0, 1), (1, 1), (2, 1), (3, 1), (4, 1), (5, 1)], 0, false⟩
theorem i58_ok : i58.ok Tryz.prog 58 := I.of (fun _ => by kernel_rfl) (fun _ => by kernel_rfl) (by kernel_rfl) (fun _ => by kernel_rfl) (by kernel_rfl) (by kernel_rfl) (fun _ => by kernel_rfl) (nofun)
noncomputable def i60 : I := ⟨false, 1, Tryz.t60.desc, zo Tryz.t60, 8, [], 0, false⟩
theorem i60_ok : i60.ok Tryz.prog 60 := I.of (fun _ => by kernel_rfl) (fun _ => by kernel_rfl) (by kernel_rfl) (fun _ => by kernel_rfl) (by kernel_rfl) (by kernel_rfl) (trivial) (nofun)
noncomputable def i61 : I := ⟨false, 1, Tryz.t61.desc, zo Tryz.t61, 8, [], 0, false⟩
theorem i61_ok : i61.ok Tryz.prog 61 := I.of (fun _ => by kernel_rfl) (fun _ => by kernel_rfl) (by kernel_rfl) (fun _ => by kernel_rfl) (by kernel_rfl) (by kernel_rfl) (trivial) (nofun)
noncomputable def i63 : I := ⟨false, 1, Tryz.t63.desc, zo Tryz.t63, 8, [], 0, false⟩
theorem i63_ok : i63.ok Tryz.prog 63 := I.of (fun _ => by kernel_rfl) (fun _ => by kernel_rfl) (by kernel_rfl) (fun _ => by kernel_rfl) (by kernel_rfl) (by kernel_rfl) (trivial) (nofun)
noncomputable def i64 : I := ⟨true, 3, Tryz.t64.desc, zo Tryz.t64, 40, [(0, 1), (1, 1), (2, 1)], 0, false⟩
theorem i64_ok : i64.ok Tryz.prog 64 := I.of (fun _ => by kernel_rfl) (fun _ => by kernel_rfl) (by kernel_rfl) (fun _ => by kernel_rfl) (by kernel_rfl) (by kernel_rfl) (fun _ => by kernel_rfl) (nofun)
noncomputable def i65 : I := ⟨true, 3, Tryz.t64.desc, zo Tryz.t65, 40, [(0, 1), (1, 1), (2, 1)], 0, false⟩
theorem i65_ok : i65.ok Tryz.prog 65 := I.of (fun _ => by kernel_rfl) (fun _ => by kernel_rfl) (by kernel_rfl) (fun _ => by kernel_rfl) (by kernel_rfl) (by kernel_rfl) (fun _ => by kernel_rfl) (nofun)
noncomputable def i66 : I := ⟨false, 1, Tryz.t66.desc, zo Tryz.t66, 8, [], 0, false⟩
theorem i66_ok : i66.ok Tryz.prog 66 := I.of (fun _ => by kernel_rfl) (fun _ => by kernel_rfl) (by kernel_rfl) (fun _ => by kernel_rfl) (by kernel_rfl) (by kernel_rfl) (trivial) (nofun)
noncomputable def i68 : I := ⟨false, 1, Tryz.t68.desc, zo Tryz.t68, 8, [], 0, false⟩
theorem i68_ok : i68.ok Tryz.prog 68 := I.of (fun _ => by kernel_rfl) (fun _ => by kernel_rfl) (by kernel_rfl) (fun _ => by kernel_rfl) (by kernel_rfl) (by kernel_rfl) (trivial) (nofun)
noncomputable def i69 : I := ⟨false, 1, Tryz.t69.desc, zo Tryz.t69, 8, [], 0, false⟩
theorem i69_ok : i69.ok Tryz.prog 69 := I.of (fun _ => by kernel_rfl) (fun _ => by kernel_rfl) (by kernel_rfl) (fun _ => by kernel_rfl) (by kernel_rfl) (by kernel_rfl) (trivial) (nofun)
noncomputable def i70 : I := ⟨false, 1, Tryz.t70.desc, zo Tryz.t70, 8, [], 0, false⟩
theorem i70_ok : i70.ok Tryz.prog 70 := I.of (fun _ => by kernel_rfl) (fun _ => by kernel_rfl) (by kernel_rfl) (fun _ => by kernel_rfl) (by kernel_rfl) (by kernel_rfl) (trivial) (nofun)
noncomputable def i71 : I := ⟨false, 1, .pointer 125, zo Tryz.t71, 8, [], 0, false⟩
theorem i71_ok : i71.ok Tryz.prog 71 := I.of (fun _ => by kernel_rfl) (fun _ => by kernel_rfl) (by kernel_rfl) (fun _ => by kernel_rfl) (by kernel_rfl) (by kernel_rfl) (trivial) (nofun)
noncomputable def i73 : I := ⟨false, 1, Tryz.t73.desc, zo Tryz.t73, 8, [], 0, false⟩
theorem i73_ok : i73.ok Tryz.prog 73 := I.of (fun _ => by kernel_rfl) (fun _ => by kernel_rfl) (by kernel_rfl) (fun _ => by kernel_rfl) (by kernel_rfl) (by kernel_rfl) (trivial) (nofun)
noncomputable def i74 : I := ⟨false, 1, .pointer 127, zo Tryz.t74, 8, [], 0, false⟩
theorem i74_ok : i74.ok Tryz.prog 74 := I.of (fun _ => by kernel_rfl) (fun _ => by kernel_rfl) (by kernel_rfl) (fun _ => by kernel_rfl) (by kernel_rfl) (by kernel_rfl) (trivial) (nofun)
noncomputable def i76 : I := ⟨false, 1, Tryz.t76.desc, zo Tryz.t76, 8, [], 0, false⟩
theorem i76_ok : i76.ok Tryz.prog 76 := I.of (fun _ => by kernel_rfl) (fun _ => by kernel_rfl) (by kernel_rfl) (fun _ => by kernel_rfl) (by kernel_rfl) (by kernel_rfl) (trivial) (nofun)
noncomputable def i77 : I := ⟨true, 5, Tryz.t77.desc, zo Tryz.t77, 40, [(0, 1), (1, 1), (2, 1), (3, 1), (4, 1)], 0, false⟩
theorem i77_ok : i77.ok Tryz.prog 77 := I.of (fun _ => by kernel_rfl) (fun _ => by kernel_rfl) (by kernel_rfl) (fun _ => by kernel_rfl) (by kernel_rfl) (by kernel_rfl) (fun _ => by kernel_rfl) (nofun)
noncomputable def i78 : I := ⟨true, 5, Tryz.t77.desc, zo Tryz.t78, 40, [(0, 1), (1, 1), (2, 1), (3, 1), (4, 1)], 0, false⟩
theorem i78_ok : i78.ok Tryz.prog 78 := I.of (fun _ => by kernel_rfl) (fun _ => by kernel_rfl) (by kernel_rfl) (fun _ => by kernel_rfl) (by kernel_rfl) (by kernel_rfl) (fun _ => by kernel_rfl) (nofun)
noncomputable def i79 : I := ⟨false, 1, .slice 137, zo Tryz.t79, 24, [], 3, false⟩
theorem i79_ok : i79.ok Tryz.prog 79 := I.of (fun _ => by kernel_rfl) (fun _ => by kernel_rfl) (by kernel_rfl) (fun _ => by kernel_rfl) (by kernel_rfl) (by kernel_rfl) (fun _ => by kernel_rfl) (nofun)
noncomputable def i80 : I := ⟨true, 2, Tryz.t80.desc, zo Tryz.t80, 32, [(0, 1), (1, 1)], 0, false⟩
theorem i80_ok : i80.ok Tryz.prog 80 := I.of (fun _ => by kernel_rfl) (fun _ => by kernel_rfl) (by kernel_rfl) (fun _ => by kernel_rfl) (by kernel_rfl) (by kernel_rfl) (fun _ => by kernel_rfl) (nofun)
noncomputable def i81 : I := ⟨true, 2, Tryz.t80.desc, zo Tryz.t81, 32, [(0, 1), (1, 1)], 0, false⟩
theorem i81_ok : i81.ok Tryz.prog 81 := I.of (fun _ => by kernel_rfl) (fun _ => by kernel_rfl) (by kernel_rfl) (fun _ => by kernel_rfl) (by kernel_rfl) (by kernel_rfl) (fun _ => by kernel_rfl) (nofun)
noncomputable def i83 : I := ⟨false, 1, Tryz.t83.desc, zo Tryz.t83, 8, [], 0, false⟩
theorem i83_ok : i83.ok Tryz.prog 83 := I.of (fun _ => by kernel_rfl) (fun _ => by kernel_rfl) (by kernel_rfl) (fun _ => by kernel_rfl) (by kernel_rfl) (by kernel_rfl) (trivial) (nofun)
noncomputable def i85 : I := ⟨false, 1, Tryz.t85.desc, zo Tryz.t85, 8, [], 0, false⟩
theorem i85_ok : i85.ok Tryz.prog 85 := I.of (fun _ => by kernel_rfl) (fun _ => by kernel_rfl) (by kernel_rfl) (fun _ => by kernel_rfl) (by kernel_rfl) (by kernel_rfl) (trivial) (nofun)
noncomputable def i86 : I := ⟨false, 1, Tryz.t86.desc, zo Tryz.t86, 8, [], 0, false⟩
theorem i86_ok : i86.ok Tryz.prog 86 := I.of (fun _ => by kernel_rfl) (fun _ => by kernel_rfl) (by kernel_rfl) (fun _ => by kernel_rfl) (by kernel_rfl) (by kernel_rfl) (trivial) (nofun)
noncomputable def i87 : I := ⟨false, 1, .slice 22, zo Tryz.t87, 24, [], 1, false⟩
theorem i87_ok : i87.ok Tryz.prog 87 := I.of (fun _ => by kernel_rfl) (fun _ => by kernel_rfl) (by kernel_rfl) (fun _ => by kernel_rfl) (by kernel_rfl) (by kernel_rfl) (fun _ => by kernel_rfl) (nofun)
noncomputable def i88 : I := ⟨false, 1, Tryz.t88.desc, zo Tryz.t88, 8, [], 0, false⟩
theorem i88_ok : i88.ok Tryz.prog 88 := I.of (fun _ => by kernel_rfl) (fun _ => by kernel_rfl) (by kernel_rfl) (fun _ => by kernel_rfl) (by kernel_rfl) (by kernel_rfl) (trivial) (nofun)
noncomputable def i89 : I := ⟨false, 1, Tryz.t89.desc, zo Tryz.t89, 8, [], 0, false⟩
theorem i89_ok : i89.ok Tryz.prog 89 := I.of (fun _ => by kernel_rfl) (fun _ => by kernel_rfl) (by kernel_rfl) (fun _ => by kernel_rfl) (by kernel_rfl) (by kernel_rfl) (trivial) (nofun)
noncomputable def i90 : I := ⟨true, 2, Tryz.t90.desc, zo Tryz.t90, 16, [(0, 1), (1, 1)], 0, false⟩
theorem i90_ok : i90.ok Tryz.prog 90 := I.of (fun _ => by kernel_rfl) (fun _ => by kernel_rfl) (by kernel_rfl) (fun _ => by kernel_rfl) (by kernel_rfl) (by kernel_rfl) (fun _ => by kernel_rfl) (nofun)
noncomputable def i91 : I := ⟨true, 2, Tryz.t90.desc, zo Tryz.t91, 16, [(0, 1), (1, 1)], 0, false⟩
theorem i91_ok : i91.ok Tryz.prog 91 := I.of (fun _ => by kernel_rfl) (fun _ => by kernel_rfl) (by kernel_rfl) (fun _ => by kernel_rfl) (by kernel_rfl) (by kernel_rfl) (fun _ => by kernel_rfl) (nofun)
noncomputable def i92 : I := ⟨true, 2, Tryz.t92.desc, zo Tryz.t92, 32, [(0, 1), (1, 1)], 0, false⟩
theorem i92_ok : i92.ok Tryz.prog 92 := I.of (fun _ => by kernel_rfl) (fun _ => by kernel_rfl) (by kernel_rfl) (fun _ => by kernel_rfl) (by kernel_rfl) (by kernel_rfl) (fun _ => by kernel_rfl) (nofun)
noncomputable def i93 : I := ⟨true, 2, Tryz.t92.desc, zo Tryz.t93, 32, [(0, 1), (1, 1)], 0, false⟩
theorem i93_ok : i93.ok Tryz.prog 93 := I.of (fun _ => by kernel_rfl) (fun _ => by kernel_rfl) (by kernel_rfl) (fun _ => by kernel_rfl) (by kernel_rfl) (by kernel_rfl) (fun _ => by kernel_rfl) (nofun)
noncomputable def i94 : I := ⟨false, 1, .complex .f64, zo Tryz.t94, 16, [], 0, false⟩
theorem i94_ok : i94.ok Tryz.prog 94 := I.of (fun _ => by kernel_rfl) (fun _ => by kernel_rfl) (by kernel_rfl) (fun _ => by kernel_rfl) (by kernel_rfl) (by kernel_rfl) (trivial) (nofun)
noncomputable def i95 : I := ⟨true, 4, Tryz.t95.desc, zo Tryz.t95, 48, [(0, 1), (1, 1), (2, 1), (3, 1)], 0, false⟩
theorem i95_ok : i95.ok Tryz.prog 95 := I.of (fun _ => by kernel_rfl) (fun _ => by kernel_rfl) (by kernel_rfl) (fun _ => by kernel_rfl) (by kernel_rfl) (by kernel_rfl) (fun _ => by kernel_rfl) (nofun)
noncomputable def i96 : I := ⟨true, 4, Tryz.t95.desc, zo Tryz.t96, 48, [(0, 1), (1, 1), (2, 1), (3, 1)], 0, false⟩
theorem i96_ok : i96.ok Tryz.prog 96 := I.of (fun _ => by kernel_rfl) (fun _ => by kernel_rfl) (by kernel_rfl) (fun _ => by kernel_rfl) (by kernel_rfl) (by kernel_rfl) (fun _ => by kernel_rfl) (nofun)
noncomputable def i98 : I := ⟨false, 1, Tryz.t98.desc, zo Tryz.t98, 8, [], 0, false⟩
theorem i98_ok : i98.ok Tryz.prog 98 := I.of (fun _ => by kernel_rfl) (fun _ => by kernel_rfl) (by kernel_rfl) (fun _ => by kernel_rfl) (by kernel_rfl) (by kernel_rfl) (trivial) (nofun)
noncomputable def i99 : I := ⟨false, 1, Tryz.t99.desc, zo Tryz.t99, 8, [], 0, false⟩
theorem i99_ok : i99.ok Tryz.prog 99 := I.of (fun _ => by kernel_rfl) (fun _ => by kernel_rfl) (by kernel_rfl) (fun _ => by kernel_rfl) (by kernel_rfl) (by kernel_rfl) (trivial) (nofun)
noncomputable def i101 : I := ⟨false, 1, Tryz.t101.desc, zo Tryz.t101, 8, [], 0, false⟩
theorem i101_ok : i101.ok Tryz.prog 101 := I.of (fun _ => by kernel_rfl) (fun _ => by kernel_rfl) (by kernel_rfl) (fun _ => by kernel_rfl) (by kernel_rfl) (by kernel_rfl) (trivial) (nofun)
noncomputable def i102 : I := ⟨false, 1, Tryz.t102.desc, zo Tryz.t102, 8, [], 0, false⟩
theorem i102_ok : i102.ok Tryz.prog 102 := I.of (fun _ => by kernel_rfl) (fun _ => by kernel_rfl) (by kernel_rfl) (fun _ => by kernel_rfl) (by kernel_rfl) (by kernel_rfl) (trivial) (nofun)
noncomputable def i103 : I := ⟨false, 1, Tryz.t103.desc, zo Tryz.t103, 8, [], 0, false⟩
theorem i103_ok : i103.ok Tryz.prog 103 := I.of (fun _ => by kernel_rfl) (fun _ => by kernel_rfl) (by kernel_rfl) (fun _ => by kernel_rfl) (by kernel_rfl) (by kernel_rfl) (trivial) (nofun)
noncomputable def i104 : I := ⟨false, 1, Tryz.t104.desc, zo Tryz.t104, 8, [], 0, false⟩
theorem i104_ok : i104.ok Tryz.prog 104 := I.of (fun _ => by kernel_rfl) (fun _ => by kernel_rfl) (by kernel_rfl) (fun _ => by kernel_rfl) (by kernel_rfl) (by kernel_rfl) (trivial) (nofun)
noncomputable def i105 : I := ⟨false, 1, Tryz.t105.desc, zo Tryz.t105, 8, [], 0, false⟩
theorem i105_ok : i105.ok Tryz.prog 105 := I.of (fun _ => by kernel_rfl) (fun _ => by kernel_rfl) (by kernel_rfl) (fun _ => by kernel_rfl) (by kernel_rfl) (by kernel_rfl) (trivial) (nofun)
noncomputable def i106 : I := ⟨true, 3, Tryz.t106.desc, zo Tryz.t106, 64, [(0, 1), (1, 1), (2, 1)], 0, false⟩
theorem i106_ok : i106.ok Tryz.prog 106 := I.of (fun _ => by kernel_rfl) (fun _ => by kernel_rfl) (by kernel_rfl) (fun _ => by kernel_rfl) (by kernel_rfl) (by kernel_rfl) (fun _ => by kernel_rfl) (nofun)
noncomputable def i107 : I := ⟨true, 3, Tryz.t106.desc, zo Tryz.t107, 64, [(0, 1), (1, 1), (2, 1)], 0, false⟩
theorem i107_ok : i107.ok Tryz.prog 107 := I.of (fun _ => by kernel_rfl) (fun _ => by kernel_rfl) (by kernel_rfl) (fun _ => by kernel_rfl) (by kernel_rfl) (by kernel_rfl) (fun _ => by kernel_rfl) (nofun)
noncomputable def i108 : I := ⟨true, 16, Tryz.t108.desc, zo Tryz.t108, 184, [(0, 1), (1, 6), (7, 1), (8, 3), (11, 1), (12, 1), (13, 1), (14, 1), (15, 1)], 0, false⟩
theorem i108_ok : i108.ok Tryz.prog 108 := I.of (fun _ => by kernel_rfl) (fun _ => by kernel_rfl) (by kernel_rfl) (fun _ => by kernel_rfl) (by kernel_rfl) (by kernel_rfl) (fun _ => by kernel_rfl) (nofun)
noncomputable def i109 : I := ⟨true, 16, Tryz.t108.desc, zo Tryz.t109, 184, [(0, 1), (1, 6), (7, 1), (8, 3), (11, 1), (12, 1), (13, 1), (14, 1), (15, 1)], 0, false⟩
theorem i109_ok : i109.ok Tryz.prog 109 := I.of (fun _ => by kernel_rfl) (fun _ => by kernel_rfl) (by kernel_rfl) (fun _ => by kernel_rfl) (by kernel_rfl) (by kernel_rfl) (fun _ => by kernel_rfl) (nofun)
noncomputable def i110 : I := ⟨false, 1, .map 3 158, zo Tryz.t110, 8, [], 0, false⟩
theorem i110_ok : i110.ok Tryz.prog 110 := I.of (fun _ => by kernel_rfl) (fun _ => by kernel_rfl) (by kernel_rfl) (fun _ => by kernel_rfl) (by kernel_rfl) (by kernel_rfl) (trivial) (nofun)
noncomputable def i111 : I := ⟨false, 1, .slice 163, zo Tryz.t111, 24, [], 33, false⟩
theorem i111_ok : i111.ok Tryz.prog 111 := I.of (fun _ => by kernel_rfl) (fun _ => by kernel_rfl) (by kernel_rfl) (fun _ => by kernel_rfl) (by kernel_rfl) (by kernel_rfl) (fun _ => by kernel_rfl) (nofun)
noncomputable def i112 : I := ⟨true, 4, Tryz.t112.desc, zo Tryz.t112, 48, [(0, 1), (1, 1), (2, 1), (3, 1)], 0, false⟩
theorem i112_ok : i112.ok Tryz.prog 112 := I.of (fun _ => by kernel_rfl) (fun _ => by kernel_rfl) (by kernel_rfl) (fun _ => by kernel_rfl) (by kernel_rfl) (by kernel_rfl) (fun _ => by kernel_rfl) (nofun)
noncomputable def i113 : I := ⟨true, 4, Tryz.t112.desc, zo Tryz.t113, 48, [(0, 1), (1, 1), (2, 1), (3, 1)], 0, false⟩
theorem i113_ok : i113.ok Tryz.prog 113 := I.of (fun _ => by kernel_rfl) (fun _ => by kernel_rfl) (by kernel_rfl) (fun _ => by kernel_rfl) (by kernel_rfl) (by kernel_rfl) (fun _ => by kernel_rfl) (nofun)
noncomputable def i114 : I := ⟨true, 3, Tryz.t64.desc, zo Tryz.t114, 40, [(0, 1), (1, 1), (2, 1)], 0, false⟩
theorem i114_ok : i114.ok Tryz.prog 114 := I.of (fun _ => by kernel_rfl) (fun _ => by kernel_rfl) (by kernel_rfl) (fun _ => by kernel_rfl) (by kernel_rfl) (by kernel_rfl) (fun _ => by kernel_rfl) (nofun)
noncomputable def i116 : I := ⟨false, 1, Tryz.t116.desc, zo Tryz.t116, 8, [], 0, false⟩
theorem i116_ok : i116.ok Tryz.prog 116 := I.of (fun _ => by kernel_rfl) (fun _ => by kernel_rfl) (by kernel_rfl) (fun _ => by kernel_rfl) (by kernel_rfl) (by kernel_rfl) (trivial) (nofun)
noncomputable def i117 : I := ⟨false, 1, Tryz.t117.desc, zo Tryz.t117, 8, [], 0, false⟩
theorem i117_ok : i117.ok Tryz.prog 117 := I.of (fun _ => by kernel_rfl) (fun _ => by kernel_rfl) (by kernel_rfl) (fun _ => by kernel_rfl) (by kernel_rfl) (by kernel_rfl) (trivial) (nofun)
noncomputable def i118 : I := ⟨false, 1, .slice 168, zo Tryz.t118, 24, [], 3, false⟩
theorem i118_ok : i118.ok Tryz.prog 118 := I.of (fun _ => by kernel_rfl) (fun _ => by kernel_rfl) (by kernel_rfl) (fun _ => by kernel_rfl) (by kernel_rfl) (by kernel_rfl) (fun _ => by kernel_rfl) (nofun)
noncomputable def i119 : I := ⟨false, 1, .slice 36, zo Tryz.t119, 24, [], 1, false⟩
theorem i119_ok : i119.ok Tryz.prog 119 := I.of (fun _ => by kernel_rfl) (fun _ => by kernel_rfl) (by kernel_rfl) (fun _ => by kernel_rfl) (by kernel_rfl) (by kernel_rfl) (fun _ => by kernel_rfl) (nofun)
noncomputable def i120 : I := ⟨true, 3, Tryz.t120.desc, zo Tryz.t120, 56, [(0, 1), (1, 1), (2, 1)], 0, false⟩
theorem i120_ok : i120.ok Tryz.prog 120 := I.of (fun _ => by kernel_rfl) (fun _ => by kernel_rfl) (by kernel_rfl) (fun _ => by kernel_rfl) (by kernel_rfl) (by kernel_rfl) (fun _ => by kernel_rfl) (nofun)
noncomputable def i121 : I := ⟨true, 3, Tryz.t120.desc, zo Tryz.t121, 56, [(0, 1), (1, 1), (2, 1)], 0, false⟩
theorem i121_ok : i121.ok Tryz.prog 121 := I.of (fun _ => by kernel_rfl) (fun _ => by kernel_rfl) (by kernel_rfl) (fun _ => by kernel_rfl) (by kernel_rfl) (by kernel_rfl) (fun _ => by kernel_rfl) (nofun)
noncomputable def i122 : I := ⟨false, 1, Tryz.t122.desc, zo Tryz.t122, 8, [], 0, false⟩
theorem i122_ok : i122.ok Tryz.prog 122 := I.of (fun _ => by kernel_rfl) (fun _ => by kernel_rfl) (by kernel_rfl) (fun _ => by kernel_rfl) (by kernel_rfl) (by kernel_rfl) (trivial) (nofun)
noncomputable def i123 : I := ⟨true, 2, .array 2 74, zo Tryz.t123, 16, [], 1, false⟩
theorem i123_ok : i123.ok Tryz.prog 123 := I.of (fun _ => by kernel_rfl) (fun _ => by kernel_rfl) (by kernel_rfl) (fun _ => by kernel_rfl) (by kernel_rfl) (by kernel_rfl) (⟨fun _ => by kernel_rfl, fun _ => by kernel_rfl⟩) (nofun)
noncomputable def i124 : I := ⟨true, 3, Tryz.t124.desc, zo Tryz.t124, 24, [(0, 2), (2, 1)], 0, false⟩
theorem i124_ok : i124.ok Tryz.prog 124 := I.of (fun _ => by kernel_rfl) (fun _ => by kernel_rfl) (by kernel_rfl) (fun _ => by kernel_rfl) (by kernel_rfl) (by kernel_rfl) (fun _ => by kernel_rfl) (nofun)
noncomputable def i125 : I := ⟨true, 3, Tryz.t124.desc, zo Tryz.t125, 24, [(0, 2), (2, 1)], 0, false⟩
theorem i125_ok : i125.ok Tryz.prog 125 := I.of (fun _ => by kernel_rfl) (fun _ => by kernel_rfl) (by kernel_rfl) (fun _ => by kernel_rfl) (by kernel_rfl) (by kernel_rfl) (fun _ => by kernel_rfl) (nofun)
noncomputable def i126 : I := ⟨true, 5, Tryz.t126.desc, zo Tryz.t126, 72, [(0, 1), (1, 1), (2, 1), (3, 1), (4, 1)], 0, false⟩
theorem i126_ok : i126.ok Tryz.prog 126 := I.of (fun _ => by kernel_rfl) (fun _ => by kernel_rfl) (by kernel_rfl) (fun _ => by kernel_rfl) (by kernel_rfl) (by kernel_rfl) (fun _ => by kernel_rfl) (nofun)
noncomputable def i127 : I := ⟨true, 5, Tryz.t126.desc, zo Tryz.t127, 72, [(0, 1), (1, 1), (2, 1), (3, 1), (4, 1)], 0, false⟩
theorem i127_ok : i127.ok Tryz.prog 127 := I.of (fun _ => by kernel_rfl) (fun _ => by kernel_rfl) (by kernel_rfl) (fun _ => by kernel_rfl) (by kernel_rfl) (by kernel_rfl) (fun _ => by kernel_rfl) (nofun)
noncomputable def i129 : I := ⟨false, 1, Tryz.t129.desc, zo Tryz.t129, 8, [], 0, false⟩
theorem i129_ok : i129.ok Tryz.prog 129 := I.of (fun _ => by kernel_rfl) (fun _ => by kernel_rfl) (by kernel_rfl) (fun _ => by kernel_rfl) (by kernel_rfl) (by kernel_rfl) (trivial) (nofun)
noncomputable def i130 : I := ⟨false, 1, Tryz.t130.desc, zo Tryz.t130, 8, [], 0, false⟩
theorem i130_ok : i130.ok Tryz.prog 130 := I.of (fun _ => by kernel_rfl) (fun _ => by kernel_rfl) (by kernel_rfl) (fun _ => by kernel_rfl) (by kernel_rfl) (by kernel_rfl) (trivial) (nofun)
noncomputable def i132 : I := ⟨false, 1, Tryz.t132.desc, zo Tryz.t132, 8, [], 0, false⟩
theorem i132_ok : i132.ok Tryz.prog 132 := I.of (fun _ => by kernel_rfl) (fun _ => by kernel_rfl) (by kernel_rfl) (fun _ => by kernel_rfl) (by kernel_rfl) (by kernel_rfl) (trivial) (nofun)
noncomputable def i133 : I := ⟨false, 1, .pointer 213, zo Tryz.t133, 8, [], 0, false⟩
theorem i133_ok : i133.ok Tryz.prog 133 := I.of (fun _ => by kernel_rfl) (fun _ => by kernel_rfl) (by kernel_rfl) (fun _ => by kernel_rfl) (by kernel_rfl) (by kernel_rfl) (trivial) (nofun)
noncomputable def i135 : I := ⟨false, 1, Tryz.t135.desc, zo Tryz.t135, 8, [], 0, false⟩
theorem i135_ok : i135.ok Tryz.prog 135 := I.of (fun _ => by kernel_rfl) (fun _ => by kernel_rfl) (by kernel_rfl) (fun _ => by kernel_rfl) (by kernel_rfl) (by kernel_rfl) (trivial) (nofun)
noncomputable def i136 : I := ⟨true, 3, Tryz.t136.desc, zo Tryz.t136, 40, [(0, 1), (1, 1), (2, 1)], 0, false⟩
theorem i136_ok : i136.ok Tryz.prog 136 := I.of (fun _ => by kernel_rfl) (fun _ => by kernel_rfl) (by kernel_rfl) (fun _ => by kernel_rfl) (by kernel_rfl) (by kernel_rfl) (fun _ => by kernel_rfl) (nofun)
noncomputable def i137 : I := ⟨true, 3, Tryz.t136.desc, zo Tryz.t137, 40, [(0, 1), (1, 1), (2, 1)], 0, false⟩
theorem i137_ok : i137.ok Tryz.prog 137 := I.of (fun _ => by kernel_rfl) (fun _ => by kernel_rfl) (by kernel_rfl) (fun _ => by kernel_rfl) (by kernel_rfl) (by kernel_rfl) (fun _ => by kernel_rfl) (nofun)
noncomputable def i138 : I := ⟨false, 1, Tryz.t138.desc, zo Tryz.t138, 8, [], 0, false⟩
theorem i138_ok : i138.ok Tryz.prog 138 := I.of (fun _ => by kernel_rfl) (fun _ => by kernel_rfl) (by kernel_rfl) (fun _ => by kernel_rfl) (by kernel_rfl) (by kernel_rfl) (trivial) (nofun)
noncomputable def i140 : I := ⟨false, 1, Tryz.t140.desc, zo Tryz.t140, 8, [], 0, false⟩
theorem i140_ok : i140.ok Tryz.prog 140 := I.of (fun _ => by kernel_rfl) (fun _ => by kernel_rfl) (by kernel_rfl) (fun _ => by kernel_rfl) (by kernel_rfl) (by kernel_rfl) (trivial) (nofun)
noncomputable def i141 : I := ⟨false, 1, Tryz.t141.desc, zo Tryz.t141, 8, [], 0, false⟩
theorem i141_ok : i141.ok Tryz.prog 141 := I.of (fun _ => by kernel_rfl) (fun _ => by kernel_rfl) (by kernel_rfl) (fun _ => by kernel_rfl) (by kernel_rfl) (by kernel_rfl) (trivial) (nofun)
noncomputable def i142 : I := ⟨false, 1, Tryz.t142.desc, zo Tryz.t142, 8, [], 0, false⟩
theorem i142_ok : i142.ok Tryz.prog 142 := I.of (fun _ => by kernel_rfl) (fun _ => by kernel_rfl) (by kernel_rfl) (fun _ => by kernel_rfl) (by kernel_rfl) (by kernel_rfl) (trivial) (nofun)
noncomputable def i143 : I := ⟨false, 1, Tryz.t143.desc, zo Tryz.t143, 8, [], 0, false⟩
theorem i143_ok : i143.ok Tryz.prog 143 := I.of (fun _ => by kernel_rfl) (fun _ => by kernel_rfl) (by kernel_rfl) (fun _ => by kernel_rfl) (by kernel_rfl) (by kernel_rfl) (trivial) (nofun)
noncomputable def i144 : I := ⟨false, 1, Tryz.t144.desc, zo Tryz.t144, 8, [], 0, false⟩
theorem i144_ok : i144.ok Tryz.prog 144 := I.of (fun _ => by kernel_rfl) (fun _ => by kernel_rfl) (by kernel_rfl) (fun _ => by kernel_rfl) (by kernel_rfl) (by kernel_rfl) (trivial) (nofun)
noncomputable def i145 : I := ⟨false, 1, Tryz.t145.desc, zo Tryz.t145, 8, [], 0, false⟩
theorem i145_ok : i145.ok Tryz.prog 145 := I.of (fun _ => by kernel_rfl) (fun _ => by kernel_rfl) (by kernel_rfl) (fun _ => by kernel_rfl) (by kernel_rfl) (by kernel_rfl) (trivial) (nofun)
noncomputable def i146 : I := ⟨false, 1, .float .f64, zo Tryz.t146, 8, [], 0, false⟩
theorem i146_ok : i146.ok Tryz.prog 146 := I.of (fun _ => by kernel_rfl) (fun _ => by kernel_rfl) (by kernel_rfl) (fun _ => by kernel_rfl) (by kernel_rfl) (by kernel_rfl) (trivial) (nofun)
noncomputable def i147 : I := ⟨false, 1, Tryz.t147.desc, zo Tryz.t147, 8, [], 0, false⟩
theorem i147_ok : i147.ok Tryz.prog 147 := I.of (fun _ => by kernel_rfl) (fun _ => by kernel_rfl) (by kernel_rfl) (fun _ => by kernel_rfl) (by kernel_rfl) (by kernel_rfl) (trivial) (nofun)
noncomputable def i148 : I := ⟨false, 1, Tryz.t147.desc, zo Tryz.t148, 8, [], 0, false⟩
theorem i148_ok : i148.ok Tryz.prog 148 := I.of (fun _ => by kernel_rfl) (fun _ => by kernel_rfl) (by kernel_rfl) (fun _ => by kernel_rfl) (by kernel_rfl) (by kernel_rfl) (trivial) (nofun)
noncomputable def i149 : I := ⟨false, 1, Tryz.t149.desc, zo Tryz.t149, 8, [], 0, false⟩
theorem i149_ok : i149.ok Tryz.prog 149 := I.of (fun _ => by kernel_rfl) (fun _ => by kernel_rfl) (by kernel_rfl) (fun _ => by kernel_rfl) (by kernel_rfl) (by kernel_rfl) (trivial) (nofun)
noncomputable def i150 : I := ⟨false, 1, .slice 3, zo Tryz.t150, 24, [], 1, false⟩
theorem i150_ok : i150.ok Tryz.prog 150 := I.of (fun _ => by kernel_rfl) (fun _ => by kernel_rfl) (by kernel_rfl) (fun _ => by kernel_rfl) (by kernel_rfl) (by kernel_rfl) (fun _ => by kernel_rfl) (nofun)
noncomputable def i151 : I := ⟨false, 1, Tryz.t151.desc, zo Tryz.t151, 8, [], 0, false⟩
theorem i151_ok : i151.ok Tryz.prog 151 := I.of (fun _ => by kernel_rfl) (fun _ => by kernel_rfl) (by kernel_rfl) (fun _ => by kernel_rfl) (by kernel_rfl) (by kernel_rfl) (trivial) (nofun)
noncomputable def i152 : I := ⟨false, 1, Tryz.t152.desc, zo Tryz.t152, 8, [], 0, false⟩
theorem i152_ok : i152.ok Tryz.prog 152 := I.of (fun _ => by kernel_rfl) (fun _ => by kernel_rfl) (by kernel_rfl) (fun _ => by kernel_rfl) (by kernel_rfl) (by kernel_rfl) (trivial) (nofun)
noncomputable def i153 : I := ⟨false, 1, .int .u64, zo Tryz.t153, 8, [], 0, false⟩
theorem i153_ok : i153.ok Tryz.prog 153 := I.of (fun _ => by kernel_rfl) (fun _ => by kernel_rfl) (by kernel_rfl) (fun _ => by kernel_rfl) (by kernel_rfl) (by kernel_rfl) (trivial) (nofun)
noncomputable def i155 : I := ⟨false, 1, Tryz.t155.desc, zo Tryz.t155, 8, [], 0, false⟩
theorem i155_ok : i155.ok Tryz.prog 155 := I.of (fun _ => by kernel_rfl) (fun _ => by kernel_rfl) (by kernel_rfl) (fun _ => by kernel_rfl) (by kernel_rfl) (by kernel_rfl) (trivial) (nofun)
noncomputable def i156 : I := ⟨false, 1, Tryz.t156.desc, zo Tryz.t156, 8, [], 0, false⟩
theorem i156_ok : i156.ok Tryz.prog 156 := I.of (fun _ => by kernel_rfl) (fun _ => by kernel_rfl) (by kernel_rfl) (fun _ => by kernel_rfl) (by kernel_rfl) (by kernel_rfl) (trivial) (nofun)
noncomputable def i157 : I := ⟨true, 32, .array 32 5, zo Tryz.t157, 32, [], 1, false⟩
theorem i157_ok : i157.ok Tryz.prog 157 := I.of (fun _ => by kernel_rfl) (fun _ => by kernel_rfl) (by kernel_rfl) (fun _ => by kernel_rfl) (by kernel_rfl) (by kernel_rfl) (⟨fun _ => by kernel_rfl, fun _ => by kernel_rfl⟩) (nofun)
noncomputable def i158 : I := ⟨true, 32, .array 32 5, zo Tryz.t158, 32, [], 1, false⟩
theorem i158_ok : i158.ok Tryz.prog 158 := I.of (fun _ => by kernel_rfl) (fun _ => by kernel_rfl) (by kernel_rfl) (fun _ => by kernel_rfl) (by kernel_rfl) (by kernel_rfl) (⟨fun _ => by kernel_rfl, fun _ => by kernel_rfl⟩) (nofun)
noncomputable def i160 : I := ⟨false, 1, Tryz.t160.desc, zo Tryz.t160, 8, [], 0, false⟩
theorem i160_ok : i160.ok Tryz.prog 160 := I.of (fun _ => by kernel_rfl) (fun _ => by kernel_rfl) (by kernel_rfl) (fun _ => by kernel_rfl) (by kernel_rfl) (by kernel_rfl) (trivial) (nofun)
noncomputable def i161 : I := ⟨false, 1, Tryz.t161.desc, zo Tryz.t161, 8, [], 0, false⟩
theorem i161_ok : i161.ok Tryz.prog 161 := I.of (fun _ => by kernel_rfl) (fun _ => by kernel_rfl) (by kernel_rfl) (fun _ => by kernel_rfl) (by kernel_rfl) (by kernel_rfl) (trivial) (nofun)
noncomputable def i162 : I := ⟨true, 33, Tryz.t162.desc, zo Tryz.t162, 40, [(0, 1), (1, 32)], 0, false⟩
theorem i162_ok : i162.ok Tryz.prog 162 := I.of (fun _ => by kernel_rfl) (fun _ => by kernel_rfl) (by kernel_rfl) (fun _ => by kernel_rfl) (by kernel_rfl) (by kernel_rfl) (fun _ => by kernel_rfl) (nofun)
noncomputable def i163 : I := ⟨true, 33, Tryz.t162.desc, zo Tryz.t163, 40, [(0, 1), (1, 32)], 0, false⟩
theorem i163_ok : i163.ok Tryz.prog 163 := I.of (fun _ => by kernel_rfl) (fun _ => by kernel_rfl) (by kernel_rfl) (fun _ => by kernel_rfl) (by kernel_rfl) (by kernel_rfl) (fun _ => by kernel_rfl) (nofun)
noncomputable def i164 : I := ⟨false, 1, Tryz.t164.desc, zo Tryz.t164, 8, [], 0, false⟩
theorem i164_ok : i164.ok Tryz.prog 164 := I.of (fun _ => by kernel_rfl) (fun _ => by kernel_rfl) (by kernel_rfl) (fun _ => by kernel_rfl) (by kernel_rfl) (by kernel_rfl) (trivial) (nofun)
noncomputable def i165 : I := ⟨false, 1, Tryz.t165.desc, zo Tryz.t165, 8, [], 0, false⟩
theorem i165_ok : i165.ok Tryz.prog 165 := I.of (fun _ => by kernel_rfl) (fun _ => by kernel_rfl) (by kernel_rfl) (fun _ => by kernel_rfl) (by kernel_rfl) (by kernel_rfl) (trivial) (nofun)
noncomputable def i166 : I := ⟨false, 1, Tryz.t166.desc, zo Tryz.t166, 8, [], 0, false⟩
theorem i166_ok : i166.ok Tryz.prog 166 := I.of (fun _ => by kernel_rfl) (fun _ => by kernel_rfl) (by kernel_rfl) (fun _ => by kernel_rfl) (by kernel_rfl) (by kernel_rfl) (trivial) (nofun)
noncomputable def i167 : I := ⟨true, 3, Tryz.t167.desc, zo Tryz.t167, 32, [(0, 1), (1, 1), (2, 1)], 0, false⟩
theorem i167_ok : i167.ok Tryz.prog 167 := I.of (fun _ => by kernel_rfl) (fun _ => by kernel_rfl) (by kernel_rfl) (fun _ => by kernel_rfl) (by kernel_rfl) (by kernel_rfl) (fun _ => by kernel_rfl) (nofun)
noncomputable def i168 : I := ⟨true, 3, Tryz.t167.desc, zo Tryz.t168, 32, [(0, 1), (1, 1), (2, 1)], 0, false⟩
theorem i168_ok : i168.ok Tryz.prog 168 := I.of (fun _ => by kernel_rfl) (fun _ => by kernel_rfl) (by kernel_rfl) (fun _ => by kernel_rfl) (by kernel_rfl) (by kernel_rfl) (fun _ => by kernel_rfl) (nofun)
noncomputable def i169 : I := ⟨false, 1, Tryz.t169.desc, zo Tryz.t169, 8, [], 0, false⟩
theorem i169_ok : i169.ok Tryz.prog 169 := I.of (fun _ => by kernel_rfl) (fun _ => by kernel_rfl) (by kernel_rfl) (fun _ => by kernel_rfl) (by kernel_rfl) (by kernel_rfl) (trivial) (nofun)
noncomputable def i171 : I := ⟨false, 1, Tryz.t171.desc, zo Tryz.t171, 8, [], 0, false⟩
theorem i171_ok : i171.ok Tryz.prog 171 := I.of (fun _ => by kernel_rfl) (fun _ => by kernel_rfl) (by kernel_rfl) (fun _ => by kernel_rfl) (by kernel_rfl) (by kernel_rfl) (trivial) (nofun)
noncomputable def i173 : I := ⟨false, 1, Tryz.t173.desc, zo Tryz.t173, 8, [], 0, false⟩
theorem i173_ok : i173.ok Tryz.prog 173 := I.of (fun _ => by kernel_rfl) (fun _ => by kernel_rfl) (by kernel_rfl) (fun _ => by kernel_rfl) (by kernel_rfl) (by kernel_rfl) (trivial) (nofun)
noncomputable def i174 : I := ⟨false, 1, .int .u64, zo Tryz.t174, 8, [], 0, false⟩
theorem i174_ok : i174.ok Tryz.prog 174 := I.of (fun _ => by kernel_rfl) (fun _ => by kernel_rfl) (by kernel_rfl) (fun _ => by kernel_rfl) (by kernel_rfl) (by kernel_rfl) (trivial) (nofun)
noncomputable def i175 : I := ⟨false, 1, Tryz.t175.desc, zo Tryz.t175, 8, [], 0, false⟩
theorem i175_ok : i175.ok Tryz.prog 175 := I.of (fun _ => by kernel_rfl) (fun _ => by kernel_rfl) (by kernel_rfl) (fun _ => by kernel_rfl) (by kernel_rfl) (by kernel_rfl) (trivial) (nofun)
noncomputable def i176 : I := ⟨false, 1, Tryz.t176.desc, zo Tryz.t176, 8, [], 0, false⟩
theorem i176_ok : i176.ok Tryz.prog 176 := I.of (fun _ => by kernel_rfl) (fun _ => by kernel_rfl) (by kernel_rfl) (fun _ => by kernel_rfl) (by kernel_rfl) (by kernel_rfl) (trivial) (nofun)
noncomputable def i178 : I := ⟨false, 1, Tryz.t178.desc, zo Tryz.t178, 8, [], 0, false⟩
theorem i178_ok : i178.ok Tryz.prog 178 := I.of (fun _ => by kernel_rfl) (fun _ => by kernel_rfl) (by kernel_rfl) (fun _ => by kernel_rfl) (by kernel_rfl) (by kernel_rfl) (trivial) (nofun)
noncomputable def i180 : I := ⟨false, 1, Tryz.t180.desc, zo Tryz.t180, 8, [], 0, false⟩
theorem i180_ok : i180.ok Tryz.prog 180 := I.of (fun _ => by kernel_rfl) (fun _ => by kernel_rfl) (by kernel_rfl) (fun _ => by kernel_rfl) (by kernel_rfl) (by kernel_rfl) (trivial) (nofun)
noncomputable def i181 : I := ⟨false, 1, Tryz.t181.desc, zo Tryz.t181, 8, [], 0, false⟩
theorem i181_ok : i181.ok Tryz.prog 181 := I.of (fun _ => by kernel_rfl) (fun _ => by kernel_rfl) (by kernel_rfl) (fun _ => by kernel_rfl) (by kernel_rfl) (by kernel_rfl) (trivial) (nofun)
noncomputable def i182 : I := ⟨false, 1, Tryz.t182.desc, zo Tryz.t182, 8, [], 0, false⟩
theorem i182_ok : i182.ok Tryz.prog 182 := I.of (fun _ => by kernel_rfl) (fun _ => by kernel_rfl) (by kernel_rfl) (fun _ => by kernel_rfl) (by kernel_rfl) (by kernel_rfl) (trivial) (nofun)
noncomputable def i183 : I := ⟨false, 1, Tryz.t183.desc, zo Tryz.t183, 8, [], 0, false⟩
theorem i183_ok : i183.ok Tryz.prog 183 := I.of (fun _ => by kernel_rfl) (fun _ => by kernel_rfl) (by kernel_rfl) (fun _ => by kernel_rfl) (by kernel_rfl) (by kernel_rfl) (trivial) (nofun)
noncomputable def i184 : I := ⟨false, 1, Tryz.t183.desc, zo Tryz.t184, 8, [], 0, false⟩
theorem i184_ok : i184.ok Tryz.prog 184 := I.of (fun _ => by kernel_rfl) (fun _ => by kernel_rfl) (by kernel_rfl) (fun _ => by kernel_rfl) (by kernel_rfl) (by kernel_rfl) (trivial) (nofun)
noncomputable def i185 : I := ⟨false, 1, Tryz.t185.desc, zo Tryz.t185, 8, [], 0, false⟩
theorem i185_ok : i185.ok Tryz.prog 185 := I.of (fun _ => by kernel_rfl) (fun _ => by kernel_rfl) (by kernel_rfl) (fun _ => by kernel_rfl) (by kernel_rfl) (by kernel_rfl) (trivial) (nofun)
noncomputable def i186 : I := ⟨false, 1, Tryz.t186.desc, zo Tryz.t186, 8, [], 0, false⟩
theorem i186_ok : i186.ok Tryz.prog 186 := I.of (fun _ => by kernel_rfl) (fun _ => by kernel_rfl) (by kernel_rfl) (fun _ => by kernel_rfl) (by kernel_rfl) (by kernel_rfl) (trivial) (nofun)
noncomputable def i187 : I := ⟨false, 1, Tryz.t187.desc, zo Tryz.t187, 8, [], 0, false⟩
theorem i187_ok : i187.ok Tryz.prog 187 := I.of (fun _ => by kernel_rfl) (fun _ => by kernel_rfl) (by kernel_rfl) (fun _ => by kernel_rfl) (by kernel_rfl) (by kernel_rfl) (trivial) (nofun)
noncomputable def i188 : I := ⟨false, 1, Tryz.t188.desc, zo Tryz.t188, 8, [], 0, false⟩
theorem i188_ok : i188.ok Tryz.prog 188 := I.of (fun _ => by kernel_rfl) (fun _ => by kernel_rfl) (by kernel_rfl) (fun _ => by kernel_rfl) (by kernel_rfl) (by kernel_rfl) (trivial) (nofun)
noncomputable def i189 : I := ⟨false, 1, Tryz.t189.desc, zo Tryz.t189, 8, [], 0, false⟩
theorem i189_ok : i189.ok Tryz.prog 189 := I.of (fun _ => by kernel_rfl) (fun _ => by kernel_rfl) (by kernel_rfl) (fun _ => by kernel_rfl) (by kernel_rfl) (by kernel_rfl) (trivial) (nofun)
noncomputable def i190 : I := ⟨false, 1, .pointer 201, zo Tryz.t190, 8, [], 0, false⟩
theorem i190_ok : i190.ok Tryz.prog 190 := I.of (fun _ => by kernel_rfl) (fun _ => by kernel_rfl) (by kernel_rfl) (fun _ => by kernel_rfl) (by kernel_rfl) (by kernel_rfl) (trivial) (nofun)
noncomputable def i192 : I := ⟨false, 1, Tryz.t192.desc, zo Tryz.t192, 8, [], 0, false⟩
theorem i192_ok : i192.ok Tryz.prog 192 := I.of (fun _ => by kernel_rfl) (fun _ => by kernel_rfl) (by kernel_rfl) (fun _ => by kernel_rfl) (by kernel_rfl) (by kernel_rfl) (trivial) (nofun)
noncomputable def i193 : I := ⟨true, 3, Tryz.t193.desc, zo Tryz.t193, 48, [(0, 1), (1, 1), (2, 1)], 0, false⟩
theorem i193_ok : i193.ok Tryz.prog 193 := I.of (fun _ => by kernel_rfl) (fun _ => by kernel_rfl) (by kernel_rfl) (fun _ => by kernel_rfl) (by kernel_rfl) (by kernel_rfl) (fun _ => by kernel_rfl) (nofun)
noncomputable def i194 : I := ⟨true, 3, Tryz.t193.desc, zo Tryz.t194, 48, [(0, 1), (1, 1), (2, 1)], 0, false⟩
theorem i194_ok : i194.ok Tryz.prog 194 := I.of (fun _ => by kernel_rfl) (fun _ => by kernel_rfl) (by kernel_rfl) (fun _ => by kernel_rfl) (by kernel_rfl) (by kernel_rfl) (fun _ => by kernel_rfl) (nofun)
noncomputable def i196 : I := ⟨false, 1, Tryz.t196.desc, zo Tryz.t196, 8, [], 0, false⟩
theorem i196_ok : i196.ok Tryz.prog 196 := I.of (fun _ => by kernel_rfl) (fun _ => by kernel_rfl) (by kernel_rfl) (fun _ => by kernel_rfl) (by kernel_rfl) (by kernel_rfl) (trivial) (nofun)
noncomputable def i197 : I := ⟨false, 1, .slice 260, zo Tryz.t197, 24, [], 43, false⟩
theorem i197_ok : i197.ok Tryz.prog 197 := I.of (fun _ => by kernel_rfl) (fun _ => by kernel_rfl) (by kernel_rfl) (fun _ => by kernel_rfl) (by kernel_rfl) (by kernel_rfl) (fun _ => by kernel_rfl) (nofun)
noncomputable def i198 : I := ⟨false, 1, .map 9 3, zo Tryz.t198, 8, [], 0, false⟩
theorem i198_ok : i198.ok Tryz.prog 198 := I.of (fun _ => by kernel_rfl) (fun _ => by kernel_rfl) (by kernel_rfl) (fun _ => by kernel_rfl) (by kernel_rfl) (by kernel_rfl) (trivial) (nofun)
noncomputable def i199 : I := ⟨false, 1, .map 9 137, zo Tryz.t199, 8, [], 0, false⟩
theorem i199_ok : i199.ok Tryz.prog 199 := I.of (fun _ => by kernel_rfl) (fun _ => by kernel_rfl) (by kernel_rfl) (fun _ => by kernel_rfl) (by kernel_rfl) (by kernel_rfl) (trivial) (nofun)
noncomputable def i200 : I := ⟨true, 5, Tryz.t200.desc, zo Tryz.t200, 56, [(0, 1), (1, 1), (2, 1), (3, 1), (4, 1)], 0, false⟩
theorem i200_ok : i200.ok Tryz.prog 200 := I.of (fun _ => by kernel_rfl) (fun _ => by kernel_rfl) (by kernel_rfl) (fun _ => by kernel_rfl) (by kernel_rfl) (by kernel_rfl) (fun _ => by kernel_rfl) (nofun)
noncomputable def i201 : I := ⟨true, 5, Tryz.t200.desc, zo Tryz.t201, 56, [(0, 1), (1, 1), (2, 1), (3, 1), (4, 1)], 0, false⟩
theorem i201_ok : i201.ok Tryz.prog 201 := I.of (fun _ => by kernel_rfl) (fun _ => by kernel_rfl) (by kernel_rfl) (fun _ => by kernel_rfl) (by kernel_rfl) (by kernel_rfl) (fun _ => by kernel_rfl) (nofun)
noncomputable def i202 : I := ⟨false, 1, Tryz.t202.desc, zo Tryz.t202, 8, [], 0, false⟩
theorem i202_ok : i202.ok Tryz.prog 202 := I.of (fun _ => by kernel_rfl) (fun _ => by kernel_rfl) (by kernel_rfl) (fun _ => by kernel_rfl) (by kernel_rfl) (by kernel_rfl) (trivial) (nofun)
noncomputable def i203 : I := ⟨false, 1, Tryz.t203.desc, zo Tryz.t203, 8, [], 0, false⟩
theorem i203_ok : i203.ok Tryz.prog 203 := I.of (fun _ => by kernel_rfl) (fun _ => by kernel_rfl) (by kernel_rfl) (fun _ => by kernel_rfl) (by kernel_rfl) (by kernel_rfl) (trivial) (nofun)
noncomputable def i204 : I := ⟨false, 1, Tryz.t204.desc, zo Tryz.t204, 8, [], 0, false⟩
theorem i204_ok : i204.ok Tryz.prog 204 := I.of (fun _ => by kernel_rfl) (fun _ => by kernel_rfl) (by kernel_rfl) (fun _ => by kernel_rfl) (by kernel_rfl) (by kernel_rfl) (trivial) (nofun)
noncomputable def i205 : I := ⟨false, 1, Tryz.t205.desc, zo Tryz.t205, 8, [], 0, false⟩
theorem i205_ok : i205.ok Tryz.prog 205 := I.of (fun _ => by kernel_rfl) (fun _ => by kernel_rfl) (by kernel_rfl) (fun _ => by kernel_rfl) (by kernel_rfl) (by kernel_rfl) (trivial) (nofun)
noncomputable def i206 : I := ⟨false, 1, Tryz.t205.desc, zo Tryz.t206, 8, [], 0, false⟩
theorem i206_ok : i206.ok Tryz.prog 206 := I.of (fun _ => by kernel_rfl) (fun _ => by kernel_rfl) (by kernel_rfl) (fun _ => by kernel_rfl) (by kernel_rfl) (by kernel_rfl) (trivial) (nofun)
noncomputable def i207 : I := ⟨false, 1, Tryz.t207.desc, zo Tryz.t207, 8, [], 0, false⟩
theorem i207_ok : i207.ok Tryz.prog 207 := I.of (fun _ => by kernel_rfl) (fun _ => by kernel_rfl) (by kernel_rfl) (fun _ => by kernel_rfl) (by kernel_rfl) (by kernel_rfl) (trivial) (nofun)
noncomputable def i208 : I := ⟨false, 1, Tryz.t208.desc, zo Tryz.t208, 8, [], 0, false⟩
theorem i208_ok : i208.ok Tryz.prog 208 := I.of (fun _ => by kernel_rfl) (fun _ => by kernel_rfl) (by kernel_rfl) (fun _ => by kernel_rfl) (by kernel_rfl) (by kernel_rfl) (trivial) (nofun)
noncomputable def i209 : I := ⟨false, 1, .int .u32, zo Tryz.t209, 4, [], 0, false⟩
theorem i209_ok : i209.ok Tryz.prog 209 := I.of (fun _ => by kernel_rfl) (fun _ => by kernel_rfl) (by kernel_rfl) (fun _ => by kernel_rfl) (by kernel_rfl) (by kernel_rfl) (trivial) (nofun)
noncomputable def i210 : I := ⟨false, 1, Tryz.t210.desc, zo Tryz.t210, 8, [], 0, false⟩
theorem i210_ok : i210.ok Tryz.prog 210 := I.of (fun _ => by kernel_rfl) (fun _ => by kernel_rfl) (by kernel_rfl) (fun _ => by kernel_rfl) (by kernel_rfl) (by kernel_rfl) (trivial) (nofun)
noncomputable def i211 : I := ⟨false, 1, Tryz.t211.desc, zo Tryz.t211, 8, [], 0, false⟩
theorem i211_ok : i211.ok Tryz.prog 211 := I.of (fun _ => by kernel_rfl) (fun _ => by kernel_rfl) (by kernel_rfl) (fun _ => by kernel_rfl) (by kernel_rfl) (by kernel_rfl) (trivial) (nofun)
noncomputable def i212 : I := ⟨true, 5, Tryz.t212.desc, zo Tryz.t212, 48, [(0, 1), (1, 1), (2, 1), (3, 1), (4, 1)], 0, false⟩
theorem i212_ok : i212.ok Tryz.prog 212 := I.of (fun _ => by kernel_rfl) (fun _ => by kernel_rfl) (by kernel_rfl) (fun _ => by kernel_rfl) (by kernel_rfl) (by kernel_rfl) (fun _ => by kernel_rfl) (nofun)
noncomputable def i213 : I := ⟨true, 5, Tryz.t212.desc, zo Tryz.t213, 48, [(0, 1), (1, 1), (2, 1), (3, 1), (4, 1)], 0, false⟩
theorem i213_ok : i213.ok Tryz.prog 213 := I.of (fun _ => by kernel_rfl) (fun _ => by kernel_rfl) (by kernel_rfl) (fun _ => by kernel_rfl) (by kernel_rfl) (by kernel_rfl) (fun _ => by kernel_rfl) (nofun)
noncomputable def i215 : I := ⟨false, 1, Tryz.t215.desc, zo Tryz.t215, 8, [], 0, false⟩
theorem i215_ok : i215.ok Tryz.prog 215 := I.of (fun _ => by kernel_rfl) (fun _ => by kernel_rfl) (by kernel_rfl) (fun _ => by kernel_rfl) (by kernel_rfl) (by kernel_rfl) (trivial) (nofun)
noncomputable def i216 : I := ⟨false, 1, Tryz.t216.desc, zo Tryz.t216, 8, [], 0, false⟩
theorem i216_ok : i216.ok Tryz.prog 216 := I.of (fun _ => by kernel_rfl) (fun _ => by kernel_rfl) (by kernel_rfl) (fun _ => by kernel_rfl) (by kernel_rfl) (by kernel_rfl) (trivial) (nofun)
noncomputable def i217 : I := ⟨false, 1, Tryz.t217.desc, zo Tryz.t217, 8, [], 0, false⟩
theorem i217_ok : i217.ok Tryz.prog 217 := I.of (fun _ => by kernel_rfl) (fun _ => by kernel_rfl) (by kernel_rfl) (fun _ => by kernel_rfl) (by kernel_rfl) (by kernel_rfl) (trivial) (nofun)
noncomputable def i218 : I := ⟨false, 1, Tryz.t218.desc, zo Tryz.t218, 8, [], 0, false⟩
theorem i218_ok : i218.ok Tryz.prog 218 := I.of (fun _ => by kernel_rfl) (fun _ => by kernel_rfl) (by kernel_rfl) (fun _ => by kernel_rfl) (by kernel_rfl) (by kernel_rfl) (trivial) (nofun)
noncomputable def i219 : I := ⟨false, 1, Tryz.t219.desc, zo Tryz.t219, 8, [], 0, false⟩
theorem i219_ok : i219.ok Tryz.prog 219 := I.of (fun _ => by kernel_rfl) (fun _ => by kernel_rfl) (by kernel_rfl) (fun _ => by kernel_rfl) (by kernel_rfl) (by kernel_rfl) (trivial) (nofun)
noncomputable def i220 : I := ⟨false, 1, Tryz.t220.desc, zo Tryz.t220, 8, [], 0, false⟩
theorem i220_ok : i220.ok Tryz.prog 220 := I.of (fun _ => by kernel_rfl) (fun _ => by kernel_rfl) (by kernel_rfl) (fun _ => by kernel_rfl) (by kernel_rfl) (by kernel_rfl) (trivial) (nofun)
noncomputable def i221 : I := ⟨false, 1, Tryz.t221.desc, zo Tryz.t221, 8, [], 0, false⟩
theorem i221_ok : i221.ok Tryz.prog 221 := I.of (fun _ => by kernel_rfl) (fun _ => by kernel_rfl) (by kernel_rfl) (fun _ => by kernel_rfl) (by kernel_rfl) (by kernel_rfl) (trivial) (nofun)
noncomputable def i222 : I := ⟨false, 1, Tryz.t222.desc, zo Tryz.t222, 8, [], 0, false⟩
theorem i222_ok : i222.ok Tryz.prog 222 := I.of (fun _ => by kernel_rfl) (fun _ => by kernel_rfl) (by kernel_rfl) (fun _ => by kernel_rfl) (by kernel_rfl) (by kernel_rfl) (trivial) (nofun)
noncomputable def i223 : I := ⟨false, 1, Tryz.t223.desc, zo Tryz.t223, 8, [], 0, false⟩
theorem i223_ok : i223.ok Tryz.prog 223 := I.of (fun _ => by kernel_rfl) (fun _ => by kernel_rfl) (by kernel_rfl) (fun _ => by kernel_rfl) (by kernel_rfl) (by kernel_rfl) (trivial) (nofun)
noncomputable def i224 : I := ⟨false, 1, Tryz.t224.desc, zo Tryz.t224, 8, [], 0, false⟩
theorem i224_ok : i224.ok Tryz.prog 224 := I.of (fun _ => by kernel_rfl) (fun _ => by kernel_rfl) (by kernel_rfl) (fun _ => by kernel_rfl) (by kernel_rfl) (by kernel_rfl) (trivial) (nofun)
noncomputable def i225 : I := ⟨false, 1, Tryz.t225.desc, zo Tryz.t225, 8, [], 0, false⟩
theorem i225_ok : i225.ok Tryz.prog 225 := I.of (fun _ => by kernel_rfl) (fun _ => by kernel_rfl) (by kernel_rfl) (fun _ => by kernel_rfl) (by kernel_rfl) (by kernel_rfl) (trivial) (nofun)
noncomputable def i226 : I := ⟨false, 1, .pointer 228, zo Tryz.t226, 8, [], 0, false⟩
theorem i226_ok : i226.ok Tryz.prog 226 := I.of (fun _ => by kernel_rfl) (fun _ => by kernel_rfl) (by kernel_rfl) (fun _ => by kernel_rfl) (by kernel_rfl) (by kernel_rfl) (trivial) (nofun)
noncomputable def i227 : I := ⟨true, 2, Tryz.t227.desc, zo Tryz.t227, 32, [(0, 1), (1, 1)], 0, false⟩
theorem i227_ok : i227.ok Tryz.prog 227 := I.of (fun _ => by kernel_rfl) (fun _ => by kernel_rfl) (by kernel_rfl) (fun _ => by kernel_rfl) (by kernel_rfl) (by kernel_rfl) (fun _ => by kernel_rfl) (nofun)
noncomputable def i228 : I := ⟨true, 2, Tryz.t227.desc, zo Tryz.t228, 32, [(0, 1), (1, 1)], 0, false⟩
theorem i228_ok : i228.ok Tryz.prog 228 := I.of (fun _ => by kernel_rfl) (fun _ => by kernel_rfl) (by kernel_rfl) (fun _ => by kernel_rfl) (by kernel_rfl) (by kernel_rfl) (fun _ => by kernel_rfl) (nofun)
noncomputable def i229 : I := ⟨false, 1, Tryz.t229.desc, zo Tryz.t229, 8, [], 0, false⟩
theorem i229_ok : i229.ok Tryz.prog 229 := I.of (fun _ => by kernel_rfl) (fun _ => by kernel_rfl) (by kernel_rfl) (fun _ => by kernel_rfl) (by kernel_rfl) (by kernel_rfl) (trivial) (nofun)
noncomputable def i230 : I := ⟨false, 1, Tryz.t230.desc, zo Tryz.t230, 16, [], 0, false⟩
theorem i230_ok : i230.ok Tryz.prog 230 := I.of (fun _ => by kernel_rfl) (fun _ => by kernel_rfl) (by kernel_rfl) (fun _ => by kernel_rfl) (by kernel_rfl) (by kernel_rfl) (trivial) (nofun)
noncomputable def i231 : I := ⟨false, 1, Tryz.t230.desc, zo Tryz.t231, 16, [], 0, false⟩
theorem i231_ok : i231.ok Tryz.prog 231 := I.of (fun _ => by kernel_rfl) (fun _ => by kernel_rfl) (by kernel_rfl) (fun _ => by kernel_rfl) (by kernel_rfl) (by kernel_rfl) (trivial) (nofun)
noncomputable def i233 : I := ⟨false, 1, Tryz.t233.desc, zo Tryz.t233, 8, [], 0, false⟩
theorem i233_ok : i233.ok Tryz.prog 233 := I.of (fun _ => by kernel_rfl) (fun _ => by kernel_rfl) (by kernel_rfl) (fun _ => by kernel_rfl) (by kernel_rfl) (by kernel_rfl) (trivial) (nofun)
noncomputable def i234 : I := ⟨false, 1, Tryz.t234.desc, zo Tryz.t234, 8, [], 0, false⟩
theorem i234_ok : i234.ok Tryz.prog 234 := I.of (fun _ => by kernel_rfl) (fun _ => by kernel_rfl) (by kernel_rfl) (fun _ => by kernel_rfl) (by kernel_rfl) (by kernel_rfl) (trivial) (nofun)
noncomputable def i235 : I := ⟨false, 1, Tryz.t235.desc, zo Tryz.t235, 8, [], 0, false⟩
theorem i235_ok : i235.ok Tryz.prog 235 := I.of (fun _ => by kernel_rfl) (fun _ => by kernel_rfl) (by kernel_rfl) (fun _ => by kernel_rfl) (by kernel_rfl) (by kernel_rfl) (trivial) (nofun)
noncomputable def i236 : I := ⟨false, 1, .slice 252, zo Tryz.t236, 24, [], 42, false⟩
theorem i236_ok : i236.ok Tryz.prog 236 := I.of (fun _ => by kernel_rfl) (fun _ => by kernel_rfl) (by kernel_rfl) (fun _ => by kernel_rfl) (by kernel_rfl) (by kernel_rfl) (fun _ => by kernel_rfl) (nofun)
noncomputable def i238 : I := ⟨false, 1, Tryz.t238.desc, zo Tryz.t238, 8, [], 0, false⟩
theorem i238_ok : i238.ok Tryz.prog 238 := I.of (fun _ => by kernel_rfl) (fun _ => by kernel_rfl) (by kernel_rfl) (fun _ => by kernel_rfl) (by kernel_rfl) (by kernel_rfl) (trivial) (nofun)
noncomputable def i240 : I := ⟨false, 1, Tryz.t240.desc, zo Tryz.t240, 8, [], 0, false⟩
theorem i240_ok : i240.ok Tryz.prog 240 := I.of (fun _ => by kernel_rfl) (fun _ => by kernel_rfl) (by kernel_rfl) (fun _ => by kernel_rfl) (by kernel_rfl) (by kernel_rfl) (trivial) (nofun)
noncomputable def i241 : I := ⟨false, 1, .int .i64, zo Tryz.t241, 8, [], 0, false⟩
theorem i241_ok : i241.ok Tryz.prog 241 := I.of (fun _ => by kernel_rfl) (fun _ => by kernel_rfl) (by kernel_rfl) (fun _ => by kernel_rfl) (by kernel_rfl) (by kernel_rfl) (trivial) (nofun)
noncomputable def i242 : I := ⟨false, 1, .int .i64, zo Tryz.t242, 8, [], 0, false⟩
theorem i242_ok : i242.ok Tryz.prog 242 := I.of (fun _ => by kernel_rfl) (fun _ => by kernel_rfl) (by kernel_rfl) (fun _ => by kernel_rfl) (by kernel_rfl) (by kernel_rfl) (trivial) (nofun)
noncomputable def i243 : I := ⟨true, 4, .array 4 174, zo Tryz.t243, 32, [], 1, false⟩
theorem i243_ok : i243.ok Tryz.prog 243 := I.of (fun _ => by kernel_rfl) (fun _ => by kernel_rfl) (by kernel_rfl) (fun _ => by kernel_rfl) (by kernel_rfl) (by kernel_rfl) (⟨fun _ => by kernel_rfl, fun _ => by kernel_rfl⟩) (nofun)
noncomputable def i244 : I := ⟨true, 4, .array 4 174, zo Tryz.t244, 32, [], 1, false⟩
theorem i244_ok : i244.ok Tryz.prog 244 := I.of (fun _ => by kernel_rfl) (fun _ => by kernel_rfl) (by kernel_rfl) (fun _ => by kernel_rfl) (by kernel_rfl) (by kernel_rfl) (⟨fun _ => by kernel_rfl, fun _ => by kernel_rfl⟩) (nofun)
noncomputable def i245 : I := ⟨false, 1, .slice 247, zo Tryz.t245, 24, [], 9, false⟩
theorem i245_ok : i245.ok Tryz.prog 245 := I.of (fun _ => by kernel_rfl) (fun _ => by kernel_rfl) (by kernel_rfl) (fun _ => by kernel_rfl) (by kernel_rfl) (by kernel_rfl) (fun _ => by kernel_rfl) (nofun)
noncomputable def i246 : I := ⟨true, 9, Tryz.t246.desc, zo Tryz.t246, 88, [(0, 1), (1, 4), (5, 1), (6, 1), (7, 1), (8, 1)], 0, false⟩
theorem i246_ok : i246.ok Tryz.prog 246 := I.of (fun _ => by kernel_rfl) (fun _ => by kernel_rfl) (by kernel_rfl) (fun _ => by kernel_rfl) (by kernel_rfl) (by kernel_rfl) (fun _ => by kernel_rfl) (nofun)
noncomputable def i247 : I := ⟨true, 9, Tryz.t246.desc, zo Tryz.t247, 88, [(0, 1), (1, 4), (5, 1), (6, 1), (7, 1), (8, 1)], 0, false⟩
theorem i247_ok : i247.ok Tryz.prog 247 := I.of (fun _ => by kernel_rfl) (fun _ => by kernel_rfl) (by kernel_rfl) (fun _ => by kernel_rfl) (by kernel_rfl) (by kernel_rfl) (fun _ => by kernel_rfl) (nofun)
noncomputable def i248 : I := ⟨true, 11, Tryz.t248.desc, zo Tryz.t248, 104, [(0, 1), (1, 1), (2, 9)], 0, false⟩
theorem i248_ok : i248.ok Tryz.prog 248 := I.of (fun _ => by kernel_rfl) (fun _ => by kernel_rfl) (by kernel_rfl) (fun _ => by kernel_rfl) (by kernel_rfl) (by kernel_rfl) (fun _ => by kernel_rfl) (nofun)
noncomputable def i249 : I := ⟨true, 11, Tryz.t248.desc, zo Tryz.t249, 104, [(0, 1), (1, 1), (2, 9)], 0, false⟩
theorem i249_ok : i249.ok Tryz.prog 249 := I.of (fun _ => by kernel_rfl) (fun _ => by kernel_rfl) (by kernel_rfl) (fun _ => by kernel_rfl) (by kernel_rfl) (by kernel_rfl) (fun _ => by kernel_rfl) (nofun)
noncomputable def i250 : I := ⟨false, 1, .slice 397, zo Tryz.t250, 24, [], 2, false⟩
theorem i250_ok : i250.ok Tryz.prog 250 := I.of (fun _ => by kernel_rfl) (fun _ => by kernel_rfl) (by kernel_rfl) (fun _ => by kernel_rfl) (by kernel_rfl) (by kernel_rfl) (fun _ => by kernel_rfl) (nofun)
noncomputable def i251 : I := ⟨true, 42, Tryz.t251.desc, zo Tryz.t251, 424, [(0, 1), (1, 1), (2, 11), (13, 11), (24, 1), (25, 1), (26, 1), (27, 9), (36, 1), (37, 1), (38, 1), (39, 1), (40, 1), (41, 1)], 0, false⟩
theorem i251_ok : i251.ok Tryz.prog 251 := I.of (fun _ => by kernel_rfl) (fun _ => by kernel_rfl) (by kernel_rfl) (fun _ => by kernel_rfl) (by kernel_rfl) (by kernel_rfl) (fun _ => by kernel_rfl) (nofun)
noncomputable def i252 : I := ⟨true, 42, Tryz.t251.desc, zo Tryz.t252, 424, [(0, 1), (1, 1), (2, 11), (13, 11), (24, 1), (25, 1), (26, 1), (27, 9), (36, 1), (37, 1), (38, 1), (39, 1), (40, 1), (41, 1)], 0, false⟩
theorem i252_ok : i252.ok Tryz.prog 252 := I.of (fun _ => by kernel_rfl) (fun _ => by kernel_rfl) (by kernel_rfl) (fun _ => by kernel_rfl) (by kernel_rfl) (by kernel_rfl) (fun _ => by kernel_rfl) (nofun)
noncomputable def i253 : I := ⟨false, 1, .pointer 258, zo Tryz.t253, 8, [], 0, false⟩
theorem i253_ok : i253.ok Tryz.prog 253 := I.of (fun _ => by kernel_rfl) (fun _ => by kernel_rfl) (by kernel_rfl) (fun _ => by kernel_rfl) (by kernel_rfl) (by kernel_rfl) (trivial) (nofun)
noncomputable def i254 : I := ⟨false, 1, .slice 4, zo Tryz.t254, 24, [], 1, false⟩
theorem i254_ok : i254.ok Tryz.prog 254 := I.of (fun _ => by kernel_rfl) (fun _ => by kernel_rfl) (by kernel_rfl) (fun _ => by kernel_rfl) (by kernel_rfl) (by kernel_rfl) (fun _ => by kernel_rfl) (nofun)
noncomputable def i255 : I := ⟨false, 1, .map 9 22, zo Tryz.t255, 8, [], 0, false⟩
theorem i255_ok : i255.ok Tryz.prog 255 := I.of (fun _ => by kernel_rfl) (fun _ => by kernel_rfl) (by kernel_rfl) (fun _ => by kernel_rfl) (by kernel_rfl) (by kernel_rfl) (trivial) (nofun)
noncomputable def i256 : I := ⟨false, 1, .pointer 247, zo Tryz.t256, 8, [], 0, false⟩
theorem i256_ok : i256.ok Tryz.prog 256 := I.of (fun _ => by kernel_rfl) (fun _ => by kernel_rfl) (by kernel_rfl) (fun _ => by kernel_rfl) (by kernel_rfl) (by kernel_rfl) (trivial) (nofun)
noncomputable def i257 : I := ⟨true, 15, Tryz.t257.desc, zo Tryz.t257, 216, [(0, 1), (1, 1), (2, 1), (3, 1), (4, 1), (5, 1), (6, 1), (7, 1), (8, 1), (9, 1), (10, 1), (11, 1), (12, 1), (13, 1), (14, 1)], 0, false⟩
theorem i257_ok : i257.ok Tryz.prog 257 := I.of (fun _ => by kernel_rfl) (fun _ => by kernel_rfl) (by kernel_rfl) (fun _ => by kernel_rfl) (by kernel_rfl) (by kernel_rfl) (fun _ => by kernel_rfl) (nofun)
noncomputable def i258 : I := ⟨true, 15, Tryz.t257.desc, zo Tryz.t258, 216, [(0, 1), (1, 1), (2, 1), (3, 1), (4, 1), (5, 1), (6, 1), (7, 1), (8, 1), (9, 1), (10, 1), (11, 1), (12, 1), (13, 1), (14, 1)], 0, false⟩
theorem i258_ok : i258.ok Tryz.prog 258 := I.of (fun _ => by kernel_rfl) (fun _ => by kernel_rfl) (by kernel_rfl) (fun _ => by kernel_rfl) (by kernel_rfl) (by kernel_rfl) (fun _ => by kernel_rfl) (nofun)
noncomputable def i259 : I := ⟨true, 43, Tryz.t259.desc, zo Tryz.t259, 432, [(0, 42), (42, 1)], 0, false⟩
theorem i259_ok : i259.ok Tryz.prog 259 := I.of (fun _ => by kernel_rfl) (fun _ => by kernel_rfl) (by kernel_rfl) (fun _ => by kernel_rfl) (by kernel_rfl) (by kernel_rfl) (fun _ => by kernel_rfl) (nofun)
noncomputable def i260 : I := ⟨true, 43, Tryz.t259.desc, zo Tryz.t260, 432, [(0, 42), (42, 1)], 0, false⟩
theorem i260_ok : i260.ok Tryz.prog 260 := I.of (fun _ => by kernel_rfl) (fun _ => by kernel_rfl) (by kernel_rfl) (fun _ => by kernel_rfl) (by kernel_rfl) (by kernel_rfl) (fun _ => by kernel_rfl) (nofun)
noncomputable def i262 : I := ⟨false, 1, Tryz.t262.desc, zo Tryz.t262, 8, [], 0, false⟩
theorem i262_ok : i262.ok Tryz.prog 262 := I.of (fun _ => by kernel_rfl) (fun _ => by kernel_rfl) (by kernel_rfl) (fun _ => by kernel_rfl) (by kernel_rfl) (by kernel_rfl) (trivial) (nofun)
noncomputable def i263 : I := ⟨false, 1, Tryz.t263.desc, zo Tryz.t263, 8, [], 0, false⟩
theorem i263_ok : i263.ok Tryz.prog 263 := I.of (fun _ => by kernel_rfl) (fun _ => by kernel_rfl) (by kernel_rfl) (fun _ => by kernel_rfl) (by kernel_rfl) (by kernel_rfl) (trivial) (nofun)
noncomputable def i264 : I := ⟨false, 1, Tryz.t264.desc, zo Tryz.t264, 8, [], 0, false⟩
theorem i264_ok : i264.ok Tryz.prog 264 := I.of (fun _ => by kernel_rfl) (fun _ => by kernel_rfl) (by kernel_rfl) (fun _ => by kernel_rfl) (by kernel_rfl) (by kernel_rfl) (trivial) (nofun)
noncomputable def i265 : I := ⟨false, 1, Tryz.t265.desc, zo Tryz.t265, 8, [], 0, false⟩
theorem i265_ok : i265.ok Tryz.prog 265 := I.of (fun _ => by kernel_rfl) (fun _ => by kernel_rfl) (by kernel_rfl) (fun _ => by kernel_rfl) (by kernel_rfl) (by kernel_rfl) (trivial) (nofun)
noncomputable def i266 : I := ⟨false, 1, Tryz.t266.desc, zo Tryz.t266, 8, [], 0, false⟩
theorem i266_ok : i266.ok Tryz.prog 266 := I.of (fun _ => by kernel_rfl) (fun _ => by kernel_rfl) (by kernel_rfl) (fun _ => by kernel_rfl) (by kernel_rfl) (by kernel_rfl) (trivial) (nofun)
noncomputable def i267 : I := ⟨false, 1, Tryz.t267.desc, zo Tryz.t267, 8, [], 0, false⟩
theorem i267_ok : i267.ok Tryz.prog 267 := I.of (fun _ => by kernel_rfl) (fun _ => by kernel_rfl) (by kernel_rfl) (fun _ => by kernel_rfl) (by kernel_rfl) (by kernel_rfl) (trivial) (nofun)
noncomputable def i268 : I := ⟨false, 1, Tryz.t268.desc, zo Tryz.t268, 8, [], 0, false⟩
theorem i268_ok : i268.ok Tryz.prog 268 := I.of (fun _ => by kernel_rfl) (fun _ => by kernel_rfl) (by kernel_rfl) (fun _ => by kernel_rfl) (by kernel_rfl) (by kernel_rfl) (trivial) (nofun)
noncomputable def i269 : I := ⟨false, 1, Tryz.t269.desc, zo Tryz.t269, 8, [], 0, false⟩
theorem i269_ok : i269.ok Tryz.prog 269 := I.of (fun _ => by kernel_rfl) (fun _ => by kernel_rfl) (by kernel_rfl) (fun _ => by kernel_rfl) (by kernel_rfl) (by kernel_rfl) (trivial) (nofun)
noncomputable def i270 : I := ⟨false, 1, Tryz.t270.desc, zo Tryz.t270, 8, [], 0, false⟩
theorem i270_ok : i270.ok Tryz.prog 270 := I.of (fun _ => by kernel_rfl) (fun _ => by kernel_rfl) (by kernel_rfl) (fun _ => by kernel_rfl) (by kernel_rfl) (by kernel_rfl) (trivial) (nofun)
noncomputable def i271 : I := ⟨false, 1, Tryz.t271.desc, zo Tryz.t271, 8, [], 0, false⟩
theorem i271_ok : i271.ok Tryz.prog 271 := I.of (fun _ => by kernel_rfl) (fun _ => by kernel_rfl) (by kernel_rfl) (fun _ => by kernel_rfl) (by kernel_rfl) (by kernel_rfl) (trivial) (nofun)
noncomputable def i272 : I := ⟨false, 1, Tryz.t272.desc, zo Tryz.t272, 8, [], 0, false⟩
theorem i272_ok : i272.ok Tryz.prog 272 := I.of (fun _ => by kernel_rfl) (fun _ => by kernel_rfl) (by kernel_rfl) (fun _ => by kernel_rfl) (by kernel_rfl) (by kernel_rfl) (trivial) (nofun)
noncomputable def i273 : I := ⟨false, 1, Tryz.t273.desc, zo Tryz.t273, 8, [], 0, false⟩
theorem i273_ok : i273.ok Tryz.prog 273 := I.of (fun _ => by kernel_rfl) (fun _ => by kernel_rfl) (by kernel_rfl) (fun _ => by kernel_rfl) (by kernel_rfl) (by kernel_rfl) (trivial) (nofun)
noncomputable def i274 : I := ⟨false, 1, Tryz.t274.desc, zo Tryz.t274, 8, [], 0, false⟩
theorem i274_ok : i274.ok Tryz.prog 274 := I.of (fun _ => by kernel_rfl) (fun _ => by kernel_rfl) (by kernel_rfl) (fun _ => by kernel_rfl) (by kernel_rfl) (by kernel_rfl) (trivial) (nofun)
noncomputable def i275 : I := ⟨false, 1, .slice 133, zo Tryz.t275, 24, [], 1, false⟩
theorem i275_ok : i275.ok Tryz.prog 275 := I.of (fun _ => by kernel_rfl) (fun _ => by kernel_rfl) (by kernel_rfl) (fun _ => by kernel_rfl) (by kernel_rfl) (by kernel_rfl) (fun _ => by kernel_rfl) (nofun)
noncomputable def i276 : I := ⟨false, 1, .pointer 5, zo Tryz.t276, 8, [], 0, false⟩
theorem i276_ok : i276.ok Tryz.prog 276 := I.of (fun _ => by kernel_rfl) (fun _ => by kernel_rfl) (by kernel_rfl) (fun _ => by kernel_rfl) (by kernel_rfl) (by kernel_rfl) (trivial) (nofun)
noncomputable def i277 : I := ⟨false, 1, .pointer 279, zo Tryz.t277, 8, [], 0, false⟩
theorem i277_ok : i277.ok Tryz.prog 277 := I.of (fun _ => by kernel_rfl) (fun _ => by kernel_rfl) (by kernel_rfl) (fun _ => by kernel_rfl) (by kernel_rfl) (by kernel_rfl) (trivial) (nofun)
noncomputable def i278 : I := ⟨true, 46, Tryz.t278.desc, zo Tryz.t278, 456, [(0, 1), (1, 1), (2, 1), (3, 1), (4, 42)], 0, false⟩
theorem i278_ok : i278.ok Tryz.prog 278 := I.of (fun _ => by kernel_rfl) (fun _ => by kernel_rfl) (by kernel_rfl) (fun _ => by kernel_rfl) (by kernel_rfl) (by kernel_rfl) (fun _ => by kernel_rfl) (nofun)
noncomputable def i279 : I := ⟨true, 46, Tryz.t278.desc, zo Tryz.t279, 456, [(0, 1), (1, 1), (2, 1), (3, 1), (4, 42)], 0, false⟩
theorem i279_ok : i279.ok Tryz.prog 279 := I.of (fun _ => by kernel_rfl) (fun _ => by kernel_rfl) (by kernel_rfl) (fun _ => by kernel_rfl) (by kernel_rfl) (by kernel_rfl) (fun _ => by kernel_rfl) (nofun)
noncomputable def i281 : I := ⟨false, 1, Tryz.t281.desc, zo Tryz.t281, 8, [], 0, false⟩
theorem i281_ok : i281.ok Tryz.prog 281 := I.of (fun _ => by kernel_rfl) (fun _ => by kernel_rfl) (by kernel_rfl) (fun _ => by kernel_rfl) (by kernel_rfl) (by kernel_rfl) (trivial) (nofun)
noncomputable def i283 : I := ⟨false, 1, Tryz.t283.desc, zo Tryz.t283, 8, [], 0, false⟩
theorem i283_ok : i283.ok Tryz.prog 283 := I.of (fun _ => by kernel_rfl) (fun _ => by kernel_rfl) (by kernel_rfl) (fun _ => by kernel_rfl) (by kernel_rfl) (by kernel_rfl) (trivial) (nofun)
noncomputable def i284 : I := ⟨false, 1, Tryz.t284.desc, zo Tryz.t284, 8, [], 0, false⟩
theorem i284_ok : i284.ok Tryz.prog 284 := I.of (fun _ => by kernel_rfl) (fun _ => by kernel_rfl) (by kernel_rfl) (fun _ => by kernel_rfl) (by kernel_rfl) (by kernel_rfl) (trivial) (nofun)
noncomputable def i285 : I := ⟨true, 1, Tryz.t285.desc, zo Tryz.t285, 8, [(0, 1)], 0, false⟩
theorem i285_ok : i285.ok Tryz.prog 285 := I.of (fun _ => by kernel_rfl) (fun _ => by kernel_rfl) (by kernel_rfl) (fun _ => by kernel_rfl) (by kernel_rfl) (by kernel_rfl) (fun _ => by kernel_rfl) (nofun)
noncomputable def i286 : I := ⟨true, 1, Tryz.t285.desc, zo Tryz.t286, 8, [(0, 1)], 0, false⟩
theorem i286_ok : i286.ok Tryz.prog 286 := I.of (fun _ => by kernel_rfl) (fun _ => by kernel_rfl) (by kernel_rfl) (fun _ => by kernel_rfl) (by kernel_rfl) (by kernel_rfl) (fun _ => by kernel_rfl) (nofun)
noncomputable def i288 : I := ⟨false, 1, Tryz.t288.desc, zo Tryz.t288, 8, [], 0, false⟩
theorem i288_ok : i288.ok Tryz.prog 288 := I.of (fun _ => by kernel_rfl) (fun _ => by kernel_rfl) (by kernel_rfl) (fun _ => by kernel_rfl) (by kernel_rfl) (by kernel_rfl) (trivial) (nofun)
noncomputable def i289 : I := ⟨false, 1, Tryz.t289.desc, zo Tryz.t289, 8, [], 0, false⟩
theorem i289_ok : i289.ok Tryz.prog 289 := I.of (fun _ => by kernel_rfl) (fun _ => by kernel_rfl) (by kernel_rfl) (fun _ => by kernel_rfl) (by kernel_rfl) (by kernel_rfl) (trivial) (nofun)
noncomputable def i290 : I := ⟨false, 1, Tryz.t290.desc, zo Tryz.t290, 8, [], 0, false⟩
theorem i290_ok : i290.ok Tryz.prog 290 := I.of (fun _ => by kernel_rfl) (fun _ => by kernel_rfl) (by kernel_rfl) (fun _ => by kernel_rfl) (by kernel_rfl) (by kernel_rfl) (trivial) (nofun)
noncomputable def i291 : I := ⟨false, 1, Tryz.t291.desc, zo Tryz.t291, 8, [], 0, false⟩
theorem i291_ok : i291.ok Tryz.prog 291 := I.of (fun _ => by kernel_rfl) (fun _ => by kernel_rfl) (by kernel_rfl) (fun _ => by kernel_rfl) (by kernel_rfl) (by kernel_rfl) (trivial) (nofun)
noncomputable def i292 : I := ⟨false, 1, Tryz.t292.desc, zo Tryz.t292, 8, [], 0, false⟩
theorem i292_ok : i292.ok Tryz.prog 292 := I.of (fun _ => by kernel_rfl) (fun _ => by kernel_rfl) (by kernel_rfl) (fun _ => by kernel_rfl) (by kernel_rfl) (by kernel_rfl) (trivial) (nofun)
noncomputable def i293 : I := ⟨false, 1, .unsafePointer, zo Tryz.t293, 8, [], 0, false⟩
theorem i293_ok : i293.ok Tryz.prog 293 := I.of (fun _ => by kernel_rfl) (fun _ => by kernel_rfl) (by kernel_rfl) (fun _ => by kernel_rfl) (by kernel_rfl) (by kernel_rfl) (trivial) (nofun)
noncomputable def i294 : I := ⟨false, 1, Tryz.t294.desc, zo Tryz.t294, 8, [], 0, false⟩
theorem i294_ok : i294.ok Tryz.prog 294 := I.of (fun _ => by kernel_rfl) (fun _ => by kernel_rfl) (by kernel_rfl) (fun _ => by kernel_rfl) (by kernel_rfl) (by kernel_rfl) (trivial) (nofun)
noncomputable def i295 : I := ⟨false, 1, Tryz.t295.desc, zo Tryz.t295, 8, [], 0, false⟩
theorem i295_ok : i295.ok Tryz.prog 295 := I.of (fun _ => by kernel_rfl) (fun _ => by kernel_rfl) (by kernel_rfl) (fun _ => by kernel_rfl) (by kernel_rfl) (by kernel_rfl) (trivial) (nofun)
noncomputable def i297 : I := ⟨false, 1, Tryz.t297.desc, zo Tryz.t297, 8, [], 0, false⟩
theorem i297_ok : i297.ok Tryz.prog 297 := I.of (fun _ => by kernel_rfl) (fun _ => by kernel_rfl) (by kernel_rfl) (fun _ => by kernel_rfl) (by kernel_rfl) (by kernel_rfl) (trivial) (nofun)
noncomputable def i299 : I := ⟨false, 1, Tryz.t299.desc, zo Tryz.t299, 8, [], 0, false⟩
theorem i299_ok : i299.ok Tryz.prog 299 := I.of (fun _ => by kernel_rfl) (fun _ => by kernel_rfl) (by kernel_rfl) (fun _ => by kernel_rfl) (by kernel_rfl) (by kernel_rfl) (trivial) (nofun)
noncomputable def i300 : I := ⟨false, 1, Tryz.t300.desc, zo Tryz.t300, 8, [], 0, false⟩
theorem i300_ok : i300.ok Tryz.prog 300 := I.of (fun _ => by kernel_rfl) (fun _ => by kernel_rfl) (by kernel_rfl) (fun _ => by kernel_rfl) (by kernel_rfl) (by kernel_rfl) (trivial) (nofun)
noncomputable def i301 : I := ⟨false, 1, Tryz.t301.desc, zo Tryz.t301, 8, [], 0, false⟩
theorem i301_ok : i301.ok Tryz.prog 301 := I.of (fun _ => by kernel_rfl) (fun _ => by kernel_rfl) (by kernel_rfl) (fun _ => by kernel_rfl) (by kernel_rfl) (by kernel_rfl) (trivial) (nofun)
noncomputable def i302 : I := ⟨false, 1, Tryz.t302.desc, zo Tryz.t302, 8, [], 0, false⟩
theorem i302_ok : i302.ok Tryz.prog 302 := I.of (fun _ => by kernel_rfl) (fun _ => by kernel_rfl) (by kernel_rfl) (fun _ => by kernel_rfl) (by kernel_rfl) (by kernel_rfl) (trivial) (nofun)
noncomputable def i303 : I := ⟨false, 1, Tryz.t303.desc, zo Tryz.t303, 8, [], 0, false⟩
theorem i303_ok : i303.ok Tryz.prog 303 := I.of (fun _ => by kernel_rfl) (fun _ => by kernel_rfl) (by kernel_rfl) (fun _ => by kernel_rfl) (by kernel_rfl) (by kernel_rfl) (trivial) (nofun)
noncomputable def i304 : I := ⟨false, 1, .pointer 252, zo Tryz.t304, 8, [], 0, false⟩
theorem i304_ok : i304.ok Tryz.prog 304 := I.of (fun _ => by kernel_rfl) (fun _ => by kernel_rfl) (by kernel_rfl) (fun _ => by kernel_rfl) (by kernel_rfl) (by kernel_rfl) (trivial) (nofun)
noncomputable def i305 : I := ⟨false, 1, Tryz.t305.desc, zo Tryz.t305, 8, [], 0, false⟩
theorem i305_ok : i305.ok Tryz.prog 305 := I.of (fun _ => by kernel_rfl) (fun _ => by kernel_rfl) (by kernel_rfl) (fun _ => by kernel_rfl) (by kernel_rfl) (by kernel_rfl) (trivial) (nofun)
noncomputable def i306 : I := ⟨false, 1, Tryz.t306.desc, zo Tryz.t306, 8, [], 0, false⟩
theorem i306_ok : i306.ok Tryz.prog 306 := I.of (fun _ => by kernel_rfl) (fun _ => by kernel_rfl) (by kernel_rfl) (fun _ => by kernel_rfl) (by kernel_rfl) (by kernel_rfl) (trivial) (nofun)
noncomputable def i307 : I := ⟨false, 1, Tryz.t307.desc, zo Tryz.t307, 8, [], 0, false⟩
theorem i307_ok : i307.ok Tryz.prog 307 := I.of (fun _ => by kernel_rfl) (fun _ => by kernel_rfl) (by kernel_rfl) (fun _ => by kernel_rfl) (by kernel_rfl) (by kernel_rfl) (trivial) (nofun)
noncomputable def i309 : I := ⟨false, 1, Tryz.t309.desc, zo Tryz.t309, 8, [], 0, false⟩
theorem i309_ok : i309.ok Tryz.prog 309 := I.of (fun _ => by kernel_rfl) (fun _ => by kernel_rfl) (by kernel_rfl) (fun _ => by kernel_rfl) (by kernel_rfl) (by kernel_rfl) (trivial) (nofun)
noncomputable def i310 : I := ⟨false, 1, Tryz.t310.desc, zo Tryz.t310, 8, [], 0, false⟩
theorem i310_ok : i310.ok Tryz.prog 310 := I.of (fun _ => by kernel_rfl) (fun _ => by kernel_rfl) (by kernel_rfl) (fun _ => by kernel_rfl) (by kernel_rfl) (by kernel_rfl) (trivial) (nofun)
noncomputable def i311 : I := ⟨false, 1, Tryz.t311.desc, zo Tryz.t311, 8, [], 0, false⟩
theorem i311_ok : i311.ok Tryz.prog 311 := I.of (fun _ => by kernel_rfl) (fun _ => by kernel_rfl) (by kernel_rfl) (fun _ => by kernel_rfl) (by kernel_rfl) (by kernel_rfl) (trivial) (nofun)
noncomputable def i312 : I := ⟨false, 1, .int .i64, zo Tryz.t312, 8, [], 0, false⟩
theorem i312_ok : i312.ok Tryz.prog 312 := I.of (fun _ => by kernel_rfl) (fun _ => by kernel_rfl) (by kernel_rfl) (fun _ => by kernel_rfl) (by kernel_rfl) (by kernel_rfl) (trivial) (nofun)
noncomputable def i314 : I := ⟨false, 1, Tryz.t314.desc, zo Tryz.t314, 8, [], 0, false⟩
theorem i314_ok : i314.ok Tryz.prog 314 := I.of (fun _ => by kernel_rfl) (fun _ => by kernel_rfl) (by kernel_rfl) (fun _ => by kernel_rfl) (by kernel_rfl) (by kernel_rfl) (trivial) (nofun)
noncomputable def i315 : I := ⟨false, 1, Tryz.t315.desc, zo Tryz.t315, 8, [], 0, false⟩
theorem i315_ok : i315.ok Tryz.prog 315 := I.of (fun _ => by kernel_rfl) (fun _ => by kernel_rfl) (by kernel_rfl) (fun _ => by kernel_rfl) (by kernel_rfl) (by kernel_rfl) (trivial) (nofun)
noncomputable def i316 : I := ⟨false, 1, Tryz.t316.desc, zo Tryz.t316, 8, [], 0, false⟩
theorem i316_ok : i316.ok Tryz.prog 316 := I.of (fun _ => by kernel_rfl) (fun _ => by kernel_rfl) (by kernel_rfl) (fun _ => by kernel_rfl) (by kernel_rfl) (by kernel_rfl) (trivial) (nofun)
noncomputable def i317 : I := ⟨false, 1, Tryz.t317.desc, zo Tryz.t317, 8, [], 0, false⟩
theorem i317_ok : i317.ok Tryz.prog 317 := I.of (fun _ => by kernel_rfl) (fun _ => by kernel_rfl) (by kernel_rfl) (fun _ => by kernel_rfl) (by kernel_rfl) (by kernel_rfl) (trivial) (nofun)
noncomputable def i318 : I := ⟨false, 1, Tryz.t318.desc, zo Tryz.t318, 8, [], 0, false⟩
theorem i318_ok : i318.ok Tryz.prog 318 := I.of (fun _ => by kernel_rfl) (fun _ => by kernel_rfl) (by kernel_rfl) (fun _ => by kernel_rfl) (by kernel_rfl) (by kernel_rfl) (trivial) (nofun)
noncomputable def i319 : I := ⟨false, 1, Tryz.t319.desc, zo Tryz.t319, 8, [], 0, false⟩
theorem i319_ok : i319.ok Tryz.prog 319 := I.of (fun _ => by kernel_rfl) (fun _ => by kernel_rfl) (by kernel_rfl) (fun _ => by kernel_rfl) (by kernel_rfl) (by kernel_rfl) (trivial) (nofun)
noncomputable def i320 : I := ⟨false, 1, Tryz.t320.desc, zo Tryz.t320, 8, [], 0, false⟩
theorem i320_ok : i320.ok Tryz.prog 320 := I.of (fun _ => by kernel_rfl) (fun _ => by kernel_rfl) (by kernel_rfl) (fun _ => by kernel_rfl) (by kernel_rfl) (by kernel_rfl) (trivial) (nofun)
noncomputable def i321 : I := ⟨false, 1, Tryz.t321.desc, zo Tryz.t321, 8, [], 0, false⟩
theorem i321_ok : i321.ok Tryz.prog 321 := I.of (fun _ => by kernel_rfl) (fun _ => by kernel_rfl) (by kernel_rfl) (fun _ => by kernel_rfl) (by kernel_rfl) (by kernel_rfl) (trivial) (nofun)
noncomputable def i322 : I := ⟨false, 1, Tryz.t322.desc, zo Tryz.t322, 8, [], 0, false⟩
theorem i322_ok : i322.ok Tryz.prog 322 := I.of (fun _ => by kernel_rfl) (fun _ => by kernel_rfl) (by kernel_rfl) (fun _ => by kernel_rfl) (by kernel_rfl) (by kernel_rfl) (trivial) (nofun)
noncomputable def i323 : I := ⟨false, 1, Tryz.t323.desc, zo Tryz.t323, 8, [], 0, false⟩
theorem i323_ok : i323.ok Tryz.prog 323 := I.of (fun _ => by kernel_rfl) (fun _ => by kernel_rfl) (by kernel_rfl) (fun _ => by kernel_rfl) (by kernel_rfl) (by kernel_rfl) (trivial) (nofun)
noncomputable def i324 : I := ⟨false, 1, Tryz.t324.desc, zo Tryz.t324, 8, [], 0, false⟩
theorem i324_ok : i324.ok Tryz.prog 324 := I.of (fun _ => by kernel_rfl) (fun _ => by kernel_rfl) (by kernel_rfl) (fun _ => by kernel_rfl) (by kernel_rfl) (by kernel_rfl) (trivial) (nofun)
noncomputable def i326 : I := ⟨false, 1, Tryz.t326.desc, zo Tryz.t326, 8, [], 0, false⟩
theorem i326_ok : i326.ok Tryz.prog 326 := I.of (fun _ => by kernel_rfl) (fun _ => by kernel_rfl) (by kernel_rfl) (fun _ => by kernel_rfl) (by kernel_rfl) (by kernel_rfl) (trivial) (nofun)
noncomputable def i328 : I := ⟨false, 1, Tryz.t328.desc, zo Tryz.t328, 8, [], 0, false⟩
theorem i328_ok : i328.ok Tryz.prog 328 := I.of (fun _ => by kernel_rfl) (fun _ => by kernel_rfl) (by kernel_rfl) (fun _ => by kernel_rfl) (by kernel_rfl) (by kernel_rfl) (trivial) (nofun)
noncomputable def i329 : I := ⟨false, 1, Tryz.t329.desc, zo Tryz.t329, 8, [], 0, false⟩
theorem i329_ok : i329.ok Tryz.prog 329 := I.of (fun _ => by kernel_rfl) (fun _ => by kernel_rfl) (by kernel_rfl) (fun _ => by kernel_rfl) (by kernel_rfl) (by kernel_rfl) (trivial) (nofun)
noncomputable def i331 : I := ⟨false, 1, Tryz.t331.desc, zo Tryz.t331, 8, [], 0, false⟩
theorem i331_ok : i331.ok Tryz.prog 331 := I.of (fun _ => by kernel_rfl) (fun _ => by kernel_rfl) (by kernel_rfl) (fun _ => by kernel_rfl) (by kernel_rfl) (by kernel_rfl) (trivial) (nofun)
noncomputable def i332 : I := ⟨false, 1, Tryz.t332.desc, zo Tryz.t332, 8, [], 0, false⟩
theorem i332_ok : i332.ok Tryz.prog 332 := I.of (fun _ => by kernel_rfl) (fun _ => by kernel_rfl) (by kernel_rfl) (fun _ => by kernel_rfl) (by kernel_rfl) (by kernel_rfl) (trivial) (nofun)
noncomputable def i333 : I := ⟨true, 4, Tryz.t333.desc, zo Tryz.t333, 16, [(0, 1), (1, 1), (2, 1), (3, 1)], 0, false⟩
theorem i333_ok : i333.ok Tryz.prog 333 := I.of (fun _ => by kernel_rfl) (fun _ => by kernel_rfl) (by kernel_rfl) (fun _ => by kernel_rfl) (by kernel_rfl) (by kernel_rfl) (fun _ => by kernel_rfl) (nofun)
noncomputable def i334 : I := ⟨true, 4, Tryz.t333.desc, zo Tryz.t334, 16, [(0, 1), (1, 1), (2, 1), (3, 1)], 0, false⟩
theorem i334_ok : i334.ok Tryz.prog 334 := I.of (fun _ => by kernel_rfl) (fun _ => by kernel_rfl) (by kernel_rfl) (fun _ => by kernel_rfl) (by kernel_rfl) (by kernel_rfl) (fun _ => by kernel_rfl) (nofun)
noncomputable def i336 : I := ⟨false, 1, Tryz.t336.desc, zo Tryz.t336, 8, [], 0, false⟩
theorem i336_ok : i336.ok Tryz.prog 336 := I.of (fun _ => by kernel_rfl) (fun _ => by kernel_rfl) (by kernel_rfl) (fun _ => by kernel_rfl) (by kernel_rfl) (by kernel_rfl) (trivial) (nofun)
noncomputable def i337 : I := ⟨false, 1, Tryz.t337.desc, zo Tryz.t337, 8, [], 0, false⟩
theorem i337_ok : i337.ok Tryz.prog 337 := I.of (fun _ => by kernel_rfl) (fun _ => by kernel_rfl) (by kernel_rfl) (fun _ => by kernel_rfl) (by kernel_rfl) (by kernel_rfl) (trivial) (nofun)
noncomputable def i338 : I := ⟨false, 1, .pointer 249, zo Tryz.t338, 8, [], 0, false⟩
theorem i338_ok : i338.ok Tryz.prog 338 := I.of (fun _ => by kernel_rfl) (fun _ => by kernel_rfl) (by kernel_rfl) (fun _ => by kernel_rfl) (by kernel_rfl) (by kernel_rfl) (trivial) (nofun)
noncomputable def i339 : I := ⟨false, 1, Tryz.t339.desc, zo Tryz.t339, 8, [], 0, false⟩
theorem i339_ok : i339.ok Tryz.prog 339 := I.of (fun _ => by kernel_rfl) (fun _ => by kernel_rfl) (by kernel_rfl) (fun _ => by kernel_rfl) (by kernel_rfl) (by kernel_rfl) (trivial) (nofun)
noncomputable def i340 : I := ⟨false, 1, Tryz.t340.desc, zo Tryz.t340, 8, [], 0, false⟩
theorem i340_ok : i340.ok Tryz.prog 340 := I.of (fun _ => by kernel_rfl) (fun _ => by kernel_rfl) (by kernel_rfl) (fun _ => by kernel_rfl) (by kernel_rfl) (by kernel_rfl) (trivial) (nofun)
noncomputable def i341 : I := ⟨false, 1, Tryz.t341.desc, zo Tryz.t341, 8, [], 0, false⟩
theorem i341_ok : i341.ok Tryz.prog 341 := I.of (fun _ => by kernel_rfl) (fun _ => by kernel_rfl) (by kernel_rfl) (fun _ => by kernel_rfl) (by kernel_rfl) (by kernel_rfl) (trivial) (nofun)
noncomputable def i342 : I := ⟨false, 1, Tryz.t342.desc, zo Tryz.t342, 8, [], 0, false⟩
theorem i342_ok : i342.ok Tryz.prog 342 := I.of (fun _ => by kernel_rfl) (fun _ => by kernel_rfl) (by kernel_rfl) (fun _ => by kernel_rfl) (by kernel_rfl) (by kernel_rfl) (trivial) (nofun)
noncomputable def i343 : I := ⟨false, 1, Tryz.t343.desc, zo Tryz.t343, 8, [], 0, false⟩
theorem i343_ok : i343.ok Tryz.prog 343 := I.of (fun _ => by kernel_rfl) (fun _ => by kernel_rfl) (by kernel_rfl) (fun _ => by kernel_rfl) (by kernel_rfl) (by kernel_rfl) (trivial) (nofun)
noncomputable def i345 : I := ⟨false, 1, Tryz.t345.desc, zo Tryz.t345, 8, [], 0, false⟩
theorem i345_ok : i345.ok Tryz.prog 345 := I.of (fun _ => by kernel_rfl) (fun _ => by kernel_rfl) (by kernel_rfl) (fun _ => by kernel_rfl) (by kernel_rfl) (by kernel_rfl) (trivial) (nofun)
noncomputable def i346 : I := ⟨false, 1, Tryz.t346.desc, zo Tryz.t346, 8, [], 0, false⟩
theorem i346_ok : i346.ok Tryz.prog 346 := I.of (fun _ => by kernel_rfl) (fun _ => by kernel_rfl) (by kernel_rfl) (fun _ => by kernel_rfl) (by kernel_rfl) (by kernel_rfl) (trivial) (nofun)
noncomputable def i347 : I := ⟨false, 1, .int .u64, zo Tryz.t347, 8, [], 0, false⟩
theorem i347_ok : i347.ok Tryz.prog 347 := I.of (fun _ => by kernel_rfl) (fun _ => by kernel_rfl) (by kernel_rfl) (fun _ => by kernel_rfl) (by kernel_rfl) (by kernel_rfl) (trivial) (nofun)
noncomputable def i348 : I := ⟨false, 1, Tryz.t348.desc, zo Tryz.t348, 8, [], 0, false⟩
theorem i348_ok : i348.ok Tryz.prog 348 := I.of (fun _ => by kernel_rfl) (fun _ => by kernel_rfl) (by kernel_rfl) (fun _ => by kernel_rfl) (by kernel_rfl) (by kernel_rfl) (trivial) (nofun)
noncomputable def i349 : I := ⟨false, 1, Tryz.t349.desc, zo Tryz.t349, 8, [], 0, false⟩
theorem i349_ok : i349.ok Tryz.prog 349 := I.of (fun _ => by kernel_rfl) (fun _ => by kernel_rfl) (by kernel_rfl) (fun _ => by kernel_rfl) (by kernel_rfl) (by kernel_rfl) (trivial) (nofun)
noncomputable def i350 : I := ⟨false, 1, Tryz.t350.desc, zo Tryz.t350, 8, [], 0, false⟩
theorem i350_ok : i350.ok Tryz.prog 350 := I.of (fun _ => by kernel_rfl) (fun _ => by kernel_rfl) (by kernel_rfl) (fun _ => by kernel_rfl) (by kernel_rfl) (by kernel_rfl) (trivial) (nofun)
noncomputable def i351 : I := ⟨false, 1, .pointer 3, zo Tryz.t351, 8, [], 0, false⟩
theorem i351_ok : i351.ok Tryz.prog 351 := I.of (fun _ => by kernel_rfl) (fun _ => by kernel_rfl) (by kernel_rfl) (fun _ => by kernel_rfl) (by kernel_rfl) (by kernel_rfl) (trivial) (nofun)
noncomputable def i352 : I := ⟨false, 1, Tryz.t352.desc, zo Tryz.t352, 8, [], 0, false⟩
theorem i352_ok : i352.ok Tryz.prog 352 := I.of (fun _ => by kernel_rfl) (fun _ => by kernel_rfl) (by kernel_rfl) (fun _ => by kernel_rfl) (by kernel_rfl) (by kernel_rfl) (trivial) (nofun)
noncomputable def i354 : I := ⟨false, 1, Tryz.t354.desc, zo Tryz.t354, 8, [], 0, false⟩
theorem i354_ok : i354.ok Tryz.prog 354 := I.of (fun _ => by kernel_rfl) (fun _ => by kernel_rfl) (by kernel_rfl) (fun _ => by kernel_rfl) (by kernel_rfl) (by kernel_rfl) (trivial) (nofun)
noncomputable def i355 : I := ⟨false, 1, Tryz.t355.desc, zo Tryz.t355, 8, [], 0, false⟩
theorem i355_ok : i355.ok Tryz.prog 355 := I.of (fun _ => by kernel_rfl) (fun _ => by kernel_rfl) (by kernel_rfl) (fun _ => by kernel_rfl) (by kernel_rfl) (by kernel_rfl) (trivial) (nofun)
noncomputable def i356 : I := ⟨false, 1, Tryz.t356.desc, zo Tryz.t356, 8, [], 0, false⟩
theorem i356_ok : i356.ok Tryz.prog 356 := I.of (fun _ => by kernel_rfl) (fun _ => by kernel_rfl) (by kernel_rfl) (fun _ => by kernel_rfl) (by kernel_rfl) (by kernel_rfl) (trivial) (nofun)
noncomputable def i358 : I := ⟨false, 1, Tryz.t358.desc, zo Tryz.t358, 8, [], 0, false⟩
theorem i358_ok : i358.ok Tryz.prog 358 := I.of (fun _ => by kernel_rfl) (fun _ => by kernel_rfl) (by kernel_rfl) (fun _ => by kernel_rfl) (by kernel_rfl) (by kernel_rfl) (trivial) (nofun)
noncomputable def i360 : I := ⟨false, 1, Tryz.t360.desc, zo Tryz.t360, 8, [], 0, false⟩
theorem i360_ok : i360.ok Tryz.prog 360 := I.of (fun _ => by kernel_rfl) (fun _ => by kernel_rfl) (by kernel_rfl) (fun _ => by kernel_rfl) (by kernel_rfl) (by kernel_rfl) (trivial) (nofun)
noncomputable def i361 : I := ⟨false, 1, Tryz.t361.desc, zo Tryz.t361, 8, [], 0, false⟩
theorem i361_ok : i361.ok Tryz.prog 361 := I.of (fun _ => by kernel_rfl) (fun _ => by kernel_rfl) (by kernel_rfl) (fun _ => by kernel_rfl) (by kernel_rfl) (by kernel_rfl) (trivial) (nofun)
noncomputable def i362 : I := ⟨false, 1, Tryz.t362.desc, zo Tryz.t362, 8, [], 0, false⟩
theorem i362_ok : i362.ok Tryz.prog 362 := I.of (fun _ => by kernel_rfl) (fun _ => by kernel_rfl) (by kernel_rfl) (fun _ => by kernel_rfl) (by kernel_rfl) (by kernel_rfl) (trivial) (nofun)
noncomputable def i363 : I := ⟨false, 1, Tryz.t363.desc, zo Tryz.t363, 8, [], 0, false⟩
theorem i363_ok : i363.ok Tryz.prog 363 := I.of (fun _ => by kernel_rfl) (fun _ => by kernel_rfl) (by kernel_rfl) (fun _ => by kernel_rfl) (by kernel_rfl) (by kernel_rfl) (trivial) (nofun)
noncomputable def i364 : I := ⟨true, 2, Tryz.t364.desc, zo Tryz.t364, 16, [(0, 1), (1, 1)], 0, false⟩
theorem i364_ok : i364.ok Tryz.prog 364 := I.of (fun _ => by kernel_rfl) (fun _ => by kernel_rfl) (by kernel_rfl) (fun _ => by kernel_rfl) (by kernel_rfl) (by kernel_rfl) (fun _ => by kernel_rfl) (nofun)
noncomputable def i365 : I := ⟨true, 2, Tryz.t364.desc, zo Tryz.t365, 16, [(0, 1), (1, 1)], 0, false⟩
theorem i365_ok : i365.ok Tryz.prog 365 := I.of (fun _ => by kernel_rfl) (fun _ => by kernel_rfl) (by kernel_rfl) (fun _ => by kernel_rfl) (by kernel_rfl) (by kernel_rfl) (fun _ => by kernel_rfl) (nofun)
noncomputable def i366 : I := ⟨true, 20, .array 10 365, zo Tryz.t366, 160, [], 2, false⟩
theorem i366_ok : i366.ok Tryz.prog 366 := I.of (fun _ => by kernel_rfl) (fun _ => by kernel_rfl) (by kernel_rfl) (fun _ => by kernel_rfl) (by kernel_rfl) (by kernel_rfl) (⟨fun _ => by kernel_rfl, fun _ => by kernel_rfl⟩) (nofun)
noncomputable def i367 : I := ⟨true, 20, .array 10 365, zo Tryz.t367, 160, [], 2, false⟩
theorem i367_ok : i367.ok Tryz.prog 367 := I.of (fun _ => by kernel_rfl) (fun _ => by kernel_rfl) (by kernel_rfl) (fun _ => by kernel_rfl) (by kernel_rfl) (by kernel_rfl) (⟨fun _ => by kernel_rfl, fun _ => by kernel_rfl⟩) (nofun)
noncomputable def i369 : I := ⟨false, 1, Tryz.t369.desc, zo Tryz.t369, 8, [], 0, false⟩
theorem i369_ok : i369.ok Tryz.prog 369 := I.of (fun _ => by kernel_rfl) (fun _ => by kernel_rfl) (by kernel_rfl) (fun _ => by kernel_rfl) (by kernel_rfl) (by kernel_rfl) (trivial) (nofun)
noncomputable def i370 : I := ⟨false, 1, Tryz.t370.desc, zo Tryz.t370, 8, [], 0, false⟩
theorem i370_ok : i370.ok Tryz.prog 370 := I.of (fun _ => by kernel_rfl) (fun _ => by kernel_rfl) (by kernel_rfl) (fun _ => by kernel_rfl) (by kernel_rfl) (by kernel_rfl) (trivial) (nofun)
noncomputable def i371 : I := ⟨false, 1, Tryz.t371.desc, zo Tryz.t371, 8, [], 0, false⟩
theorem i371_ok : i371.ok Tryz.prog 371 := I.of (fun _ => by kernel_rfl) (fun _ => by kernel_rfl) (by kernel_rfl) (fun _ => by kernel_rfl) (by kernel_rfl) (by kernel_rfl) (trivial) (nofun)
noncomputable def i372 : I := ⟨false, 1, Tryz.t372.desc, zo Tryz.t372, 8, [], 0, false⟩
theorem i372_ok : i372.ok Tryz.prog 372 := I.of (fun _ => by kernel_rfl) (fun _ => by kernel_rfl) (by kernel_rfl) (fun _ => by kernel_rfl) (by kernel_rfl) (by kernel_rfl) (trivial) (nofun)
noncomputable def i373 : I := ⟨false, 1, Tryz.t373.desc, zo Tryz.t373, 8, [], 0, false⟩
theorem i373_ok : i373.ok Tryz.prog 373 := I.of (fun _ => by kernel_rfl) (fun _ => by kernel_rfl) (by kernel_rfl) (fun _ => by kernel_rfl) (by kernel_rfl) (by kernel_rfl) (trivial) (nofun)
noncomputable def i374 : I := ⟨false, 1, Tryz.t374.desc, zo Tryz.t374, 8, [], 0, false⟩
theorem i374_ok : i374.ok Tryz.prog 374 := I.of (fun _ => by kernel_rfl) (fun _ => by kernel_rfl) (by kernel_rfl) (fun _ => by kernel_rfl) (by kernel_rfl) (by kernel_rfl) (trivial) (nofun)
noncomputable def i376 : I := ⟨false, 1, Tryz.t376.desc, zo Tryz.t376, 8, [], 0, false⟩
theorem i376_ok : i376.ok Tryz.prog 376 := I.of (fun _ => by kernel_rfl) (fun _ => by kernel_rfl) (by kernel_rfl) (fun _ => by kernel_rfl) (by kernel_rfl) (by kernel_rfl) (trivial) (nofun)
noncomputable def i377 : I := ⟨false, 1, .pointer 347, zo Tryz.t377, 8, [], 0, false⟩
theorem i377_ok : i377.ok Tryz.prog 377 := I.of (fun _ => by kernel_rfl) (fun _ => by kernel_rfl) (by kernel_rfl) (fun _ => by kernel_rfl) (by kernel_rfl) (by kernel_rfl) (trivial) (nofun)
noncomputable def i379 : I := ⟨false, 1, Tryz.t379.desc, zo Tryz.t379, 8, [], 0, false⟩
theorem i379_ok : i379.ok Tryz.prog 379 := I.of (fun _ => by kernel_rfl) (fun _ => by kernel_rfl) (by kernel_rfl) (fun _ => by kernel_rfl) (by kernel_rfl) (by kernel_rfl) (trivial) (nofun)
noncomputable def i380 : I := ⟨false, 1, Tryz.t380.desc, zo Tryz.t380, 8, [], 0, false⟩
theorem i380_ok : i380.ok Tryz.prog 380 := I.of (fun _ => by kernel_rfl) (fun _ => by kernel_rfl) (by kernel_rfl) (fun _ => by kernel_rfl) (by kernel_rfl) (by kernel_rfl) (trivial) (nofun)
noncomputable def i381 : I := ⟨true, 256, .array 256 4, zo Tryz.t381, 256, [], 1, false⟩
theorem i381_ok : i381.ok Tryz.prog 381 := I.of (fun _ => by kernel_rfl) (fun _ => by kernel_rfl) (by kernel_rfl) (fun _ => by kernel_rfl) (by kernel_rfl) (by kernel_rfl) (⟨fun _ => by kernel_rfl, fun _ => by kernel_rfl⟩) (nofun)
noncomputable def i382 : I := ⟨true, 256, .array 256 4, zo Tryz.t382, 256, [], 1, false⟩
theorem i382_ok : i382.ok Tryz.prog 382 := I.of (fun _ => by kernel_rfl) (fun _ => by kernel_rfl) (by kernel_rfl) (fun _ => by kernel_rfl) (by kernel_rfl) (by kernel_rfl) (⟨fun _ => by kernel_rfl, fun _ => by kernel_rfl⟩) (nofun)
noncomputable def i384 : I := ⟨false, 1, Tryz.t384.desc, zo Tryz.t384, 8, [], 0, false⟩
theorem i384_ok : i384.ok Tryz.prog 384 := I.of (fun _ => by kernel_rfl) (fun _ => by kernel_rfl) (by kernel_rfl) (fun _ => by kernel_rfl) (by kernel_rfl) (by kernel_rfl) (trivial) (nofun)
noncomputable def i385 : I := ⟨false, 1, Tryz.t385.desc, zo Tryz.t385, 8, [], 0, false⟩
theorem i385_ok : i385.ok Tryz.prog 385 := I.of (fun _ => by kernel_rfl) (fun _ => by kernel_rfl) (by kernel_rfl) (fun _ => by kernel_rfl) (by kernel_rfl) (by kernel_rfl) (trivial) (nofun)
noncomputable def i386 : I := ⟨false, 1, .pointer 382, zo Tryz.t386, 8, [], 0, false⟩
theorem i386_ok : i386.ok Tryz.prog 386 := I.of (fun _ => by kernel_rfl) (fun _ => by kernel_rfl) (by kernel_rfl) (fun _ => by kernel_rfl) (by kernel_rfl) (by kernel_rfl) (trivial) (nofun)
noncomputable def i387 : I := ⟨false, 1, Tryz.t387.desc, zo Tryz.t387, 8, [], 0, false⟩
theorem i387_ok : i387.ok Tryz.prog 387 := I.of (fun _ => by kernel_rfl) (fun _ => by kernel_rfl) (by kernel_rfl) (fun _ => by kernel_rfl) (by kernel_rfl) (by kernel_rfl) (trivial) (nofun)
noncomputable def i388 : I := ⟨false, 1, .pointer 391, zo Tryz.t388, 8, [], 0, false⟩
theorem i388_ok : i388.ok Tryz.prog 388 := I.of (fun _ => by kernel_rfl) (fun _ => by kernel_rfl) (by kernel_rfl) (fun _ => by kernel_rfl) (by kernel_rfl) (by kernel_rfl) (trivial) (nofun)
noncomputable def i389 : I := ⟨false, 1, .slice 421, zo Tryz.t389, 24, [], 7, false⟩
theorem i389_ok : i389.ok Tryz.prog 389 := I.of (fun _ => by kernel_rfl) (fun _ => by kernel_rfl) (by kernel_rfl) (fun _ => by kernel_rfl) (by kernel_rfl) (by kernel_rfl) (fun _ => by kernel_rfl) (nofun)
noncomputable def i390 : I := ⟨true, 4, Tryz.t390.desc, zo Tryz.t390, 56, [(0, 1), (1, 1), (2, 1), (3, 1)], 0, false⟩
theorem i390_ok : i390.ok Tryz.prog 390 := I.of (fun _ => by kernel_rfl) (fun _ => by kernel_rfl) (by kernel_rfl) (fun _ => by kernel_rfl) (by kernel_rfl) (by kernel_rfl) (fun _ => by kernel_rfl) (nofun)
noncomputable def i391 : I := ⟨true, 4, Tryz.t390.desc, zo Tryz.t391, 56, [(0, 1), (1, 1), (2, 1), (3, 1)], 0, false⟩
theorem i391_ok : i391.ok Tryz.prog 391 := I.of (fun _ => by kernel_rfl) (fun _ => by kernel_rfl) (by kernel_rfl) (fun _ => by kernel_rfl) (by kernel_rfl) (by kernel_rfl) (fun _ => by kernel_rfl) (nofun)
noncomputable def i392 : I := ⟨false, 1, .pointer 394, zo Tryz.t392, 8, [], 0, false⟩
theorem i392_ok : i392.ok Tryz.prog 392 := I.of (fun _ => by kernel_rfl) (fun _ => by kernel_rfl) (by kernel_rfl) (fun _ => by kernel_rfl) (by kernel_rfl) (by kernel_rfl) (trivial) (nofun)
noncomputable def i393 : I := ⟨true, 3, Tryz.t393.desc, zo Tryz.t393, 40, [(0, 1), (1, 1), (2, 1)], 0, false⟩
theorem i393_ok : i393.ok Tryz.prog 393 := I.of (fun _ => by kernel_rfl) (fun _ => by kernel_rfl) (by kernel_rfl) (fun _ => by kernel_rfl) (by kernel_rfl) (by kernel_rfl) (fun _ => by kernel_rfl) (nofun)
noncomputable def i394 : I := ⟨true, 3, Tryz.t393.desc, zo Tryz.t394, 40, [(0, 1), (1, 1), (2, 1)], 0, false⟩
theorem i394_ok : i394.ok Tryz.prog 394 := I.of (fun _ => by kernel_rfl) (fun _ => by kernel_rfl) (by kernel_rfl) (fun _ => by kernel_rfl) (by kernel_rfl) (by kernel_rfl) (fun _ => by kernel_rfl) (nofun)
noncomputable def i395 : I := ⟨false, 1, Tryz.t395.desc, zo Tryz.t395, 8, [], 0, false⟩
theorem i395_ok : i395.ok Tryz.prog 395 := I.of (fun _ => by kernel_rfl) (fun _ => by kernel_rfl) (by kernel_rfl) (fun _ => by kernel_rfl) (by kernel_rfl) (by kernel_rfl) (trivial) (nofun)
noncomputable def i396 : I := ⟨true, 2, Tryz.t396.desc, zo Tryz.t396, 24, [(0, 1), (1, 1)], 0, false⟩
theorem i396_ok : i396.ok Tryz.prog 396 := I.of (fun _ => by kernel_rfl) (fun _ => by kernel_rfl) (by kernel_rfl) (fun _ => by kernel_rfl) (by kernel_rfl) (by kernel_rfl) (fun _ => by kernel_rfl) (nofun)
noncomputable def i397 : I := ⟨true, 2, Tryz.t396.desc, zo Tryz.t397, 24, [(0, 1), (1, 1)], 0, false⟩
theorem i397_ok : i397.ok Tryz.prog 397 := I.of (fun _ => by kernel_rfl) (fun _ => by kernel_rfl) (by kernel_rfl) (fun _ => by kernel_rfl) (by kernel_rfl) (by kernel_rfl) (fun _ => by kernel_rfl) (nofun)
noncomputable def i398 : I := ⟨false, 1, Tryz.t398.desc, zo Tryz.t398, 8, [], 0, false⟩
theorem i398_ok : i398.ok Tryz.prog 398 := I.of (fun _ => by kernel_rfl) (fun _ => by kernel_rfl) (by kernel_rfl) (fun _ => by kernel_rfl) (by kernel_rfl) (by kernel_rfl) (trivial) (nofun)
noncomputable def i399 : I := ⟨false, 1, .pointer 4, zo Tryz.t399, 8, [], 0, false⟩
theorem i399_ok : i399.ok Tryz.prog 399 := I.of (fun _ => by kernel_rfl) (fun _ => by kernel_rfl) (by kernel_rfl) (fun _ => by kernel_rfl) (by kernel_rfl) (by kernel_rfl) (trivial) (nofun)
noncomputable def i400 : I := ⟨false, 1, .pointer 428, zo Tryz.t400, 8, [], 0, false⟩
theorem i400_ok : i400.ok Tryz.prog 400 := I.of (fun _ => by kernel_rfl) (fun _ => by kernel_rfl) (by kernel_rfl) (fun _ => by kernel_rfl) (by kernel_rfl) (by kernel_rfl) (trivial) (nofun)
noncomputable def i402 : I := ⟨false, 1, Tryz.t402.desc, zo Tryz.t402, 8, [], 0, false⟩
theorem i402_ok : i402.ok Tryz.prog 402 := I.of (fun _ => by kernel_rfl) (fun _ => by kernel_rfl) (by kernel_rfl) (fun _ => by kernel_rfl) (by kernel_rfl) (by kernel_rfl) (trivial) (nofun)
noncomputable def i403 : I := ⟨true, 5, Tryz.t403.desc, zo Tryz.t403, 40, [(0, 1), (1, 1), (2, 1), (3, 1), (4, 1)], 0, false⟩
theorem i403_ok : i403.ok Tryz.prog 403 := I.of (fun _ => by kernel_rfl) (fun _ => by kernel_rfl) (by kernel_rfl) (fun _ => by kernel_rfl) (by kernel_rfl) (by kernel_rfl) (fun _ => by kernel_rfl) (nofun)
theorem k404_ok : KeyOk Tryz.prog 404 5 := by
  refine ⟨deep_law (m := 2) (by decide) (by kernel_rfl) (by kernel_rfl) (by kernel_rfl), fun zs hl hz => ?_⟩
  obtain ⟨z0, z1, z2, z3, z4, rfl⟩ : ∃ z0 z1 z2 z3 z4, zs = [z0, z1, z2, z3, z4] := by
    match zs, hl with
    | [z0, z1, z2, z3, z4], _ => exact ⟨z0, z1, z2, z3, z4, rfl⟩
  simp only [List.mem_cons, List.not_mem_nil, or_false, forall_eq_or_imp, forall_eq] at hz
  obtain ⟨hz0, hz1, hz2, hz3, hz4⟩ := hz
  have hf : (Tryz.prog.keyType 404 && (Value.agg ([z0, z1, z2, z3, z4].map (Value.int .i64)).toArray).formed Tryz.prog 404) = true := by kernel_rfl
  unfold keyOf
  rw [Tryz.underlying404]
  dsimp only
  rw [if_pos hf]
  obtain ⟨d, hd⟩ : ∃ d, Tryz.prog.types.size + 1 = d + 2 := ⟨_, rfl⟩
  rw [hd]
  unfold Program.keyLits
  rw [Tryz.underlying404]
  have hc : Tryz.prog.cellsOf 404 = 5 := by kernel_rfl
  have hc3 : Tryz.prog.cellsOf 3 = 1 := by kernel_rfl
  have h1 : ∀ n : Int, (Lit.int .i64 n).wf = true → Tryz.prog.keyLits (d + 1) 3 [.int .i64 n] = some [.int .i64 n] := fun n hn => by
    unfold Program.keyLits
    rw [Tryz.underlying3]
    simp [hn]
  simp [hc, hc3, Value.cells, h1 _ (wf64 hz0), h1 _ (wf64 hz1), h1 _ (wf64 hz2), h1 _ (wf64 hz3), h1 _ (wf64 hz4)]
noncomputable def i404 : I := ⟨true, 5, Tryz.t403.desc, zo Tryz.t404, 40, [(0, 1), (1, 1), (2, 1), (3, 1), (4, 1)], 0, true⟩
theorem i404_ok : i404.ok Tryz.prog 404 := I.of (fun _ => by kernel_rfl) (fun _ => by kernel_rfl) (by kernel_rfl) (fun _ => by kernel_rfl) (by kernel_rfl) (by kernel_rfl) (fun _ => by kernel_rfl) (fun _ => k404_ok)
noncomputable def i405 : I := ⟨false, 1, Tryz.t405.desc, zo Tryz.t405, 8, [], 0, false⟩
theorem i405_ok : i405.ok Tryz.prog 405 := I.of (fun _ => by kernel_rfl) (fun _ => by kernel_rfl) (by kernel_rfl) (fun _ => by kernel_rfl) (by kernel_rfl) (by kernel_rfl) (trivial) (nofun)
noncomputable def i406 : I := ⟨false, 1, .slice 174, zo Tryz.t406, 24, [], 1, false⟩
theorem i406_ok : i406.ok Tryz.prog 406 := I.of (fun _ => by kernel_rfl) (fun _ => by kernel_rfl) (by kernel_rfl) (fun _ => by kernel_rfl) (by kernel_rfl) (by kernel_rfl) (fun _ => by kernel_rfl) (nofun)
noncomputable def i407 : I := ⟨false, 1, .slice 174, zo Tryz.t407, 24, [], 1, false⟩
theorem i407_ok : i407.ok Tryz.prog 407 := I.of (fun _ => by kernel_rfl) (fun _ => by kernel_rfl) (by kernel_rfl) (fun _ => by kernel_rfl) (by kernel_rfl) (by kernel_rfl) (fun _ => by kernel_rfl) (nofun)
noncomputable def i408 : I := ⟨false, 1, Tryz.t408.desc, zo Tryz.t408, 8, [], 0, false⟩
theorem i408_ok : i408.ok Tryz.prog 408 := I.of (fun _ => by kernel_rfl) (fun _ => by kernel_rfl) (by kernel_rfl) (fun _ => by kernel_rfl) (by kernel_rfl) (by kernel_rfl) (trivial) (nofun)
noncomputable def i409 : I := ⟨false, 1, Tryz.t409.desc, zo Tryz.t409, 8, [], 0, false⟩
theorem i409_ok : i409.ok Tryz.prog 409 := I.of (fun _ => by kernel_rfl) (fun _ => by kernel_rfl) (by kernel_rfl) (fun _ => by kernel_rfl) (by kernel_rfl) (by kernel_rfl) (trivial) (nofun)
noncomputable def i410 : I := ⟨false, 1, .pointer 367, zo Tryz.t410, 8, [], 0, false⟩
theorem i410_ok : i410.ok Tryz.prog 410 := I.of (fun _ => by kernel_rfl) (fun _ => by kernel_rfl) (by kernel_rfl) (fun _ => by kernel_rfl) (by kernel_rfl) (by kernel_rfl) (trivial) (nofun)
noncomputable def i411 : I := ⟨false, 1, Tryz.t411.desc, zo Tryz.t411, 8, [], 0, false⟩
theorem i411_ok : i411.ok Tryz.prog 411 := I.of (fun _ => by kernel_rfl) (fun _ => by kernel_rfl) (by kernel_rfl) (fun _ => by kernel_rfl) (by kernel_rfl) (by kernel_rfl) (trivial) (nofun)
noncomputable def i412 : I := ⟨false, 1, Tryz.t412.desc, zo Tryz.t412, 8, [], 0, false⟩
theorem i412_ok : i412.ok Tryz.prog 412 := I.of (fun _ => by kernel_rfl) (fun _ => by kernel_rfl) (by kernel_rfl) (fun _ => by kernel_rfl) (by kernel_rfl) (by kernel_rfl) (trivial) (nofun)
noncomputable def i413 : I := ⟨false, 1, Tryz.t412.desc, zo Tryz.t413, 8, [], 0, false⟩
theorem i413_ok : i413.ok Tryz.prog 413 := I.of (fun _ => by kernel_rfl) (fun _ => by kernel_rfl) (by kernel_rfl) (fun _ => by kernel_rfl) (by kernel_rfl) (by kernel_rfl) (trivial) (nofun)
noncomputable def i414 : I := ⟨false, 1, Tryz.t414.desc, zo Tryz.t414, 8, [], 0, false⟩
theorem i414_ok : i414.ok Tryz.prog 414 := I.of (fun _ => by kernel_rfl) (fun _ => by kernel_rfl) (by kernel_rfl) (fun _ => by kernel_rfl) (by kernel_rfl) (by kernel_rfl) (trivial) (nofun)
noncomputable def i415 : I := ⟨false, 1, Tryz.t415.desc, zo Tryz.t415, 8, [], 0, false⟩
theorem i415_ok : i415.ok Tryz.prog 415 := I.of (fun _ => by kernel_rfl) (fun _ => by kernel_rfl) (by kernel_rfl) (fun _ => by kernel_rfl) (by kernel_rfl) (by kernel_rfl) (trivial) (nofun)
noncomputable def i416 : I := ⟨false, 1, Tryz.t416.desc, zo Tryz.t416, 8, [], 0, false⟩
theorem i416_ok : i416.ok Tryz.prog 416 := I.of (fun _ => by kernel_rfl) (fun _ => by kernel_rfl) (by kernel_rfl) (fun _ => by kernel_rfl) (by kernel_rfl) (by kernel_rfl) (trivial) (nofun)
noncomputable def i418 : I := ⟨false, 1, Tryz.t418.desc, zo Tryz.t418, 8, [], 0, false⟩
theorem i418_ok : i418.ok Tryz.prog 418 := I.of (fun _ => by kernel_rfl) (fun _ => by kernel_rfl) (by kernel_rfl) (fun _ => by kernel_rfl) (by kernel_rfl) (by kernel_rfl) (trivial) (nofun)
noncomputable def i419 : I := ⟨false, 1, Tryz.t419.desc, zo Tryz.t419, 8, [], 0, false⟩
theorem i419_ok : i419.ok Tryz.prog 419 := I.of (fun _ => by kernel_rfl) (fun _ => by kernel_rfl) (by kernel_rfl) (fun _ => by kernel_rfl) (by kernel_rfl) (by kernel_rfl) (trivial) (nofun)
noncomputable def i420 : I := ⟨true, 7, Tryz.t420.desc, zo Tryz.t420, 56, [(0, 1), (1, 4), (5, 1), (6, 1)], 0, false⟩
theorem i420_ok : i420.ok Tryz.prog 420 := I.of (fun _ => by kernel_rfl) (fun _ => by kernel_rfl) (by kernel_rfl) (fun _ => by kernel_rfl) (by kernel_rfl) (by kernel_rfl) (fun _ => by kernel_rfl) (nofun)
noncomputable def i421 : I := ⟨true, 7, Tryz.t420.desc, zo Tryz.t421, 56, [(0, 1), (1, 4), (5, 1), (6, 1)], 0, false⟩
theorem i421_ok : i421.ok Tryz.prog 421 := I.of (fun _ => by kernel_rfl) (fun _ => by kernel_rfl) (by kernel_rfl) (fun _ => by kernel_rfl) (by kernel_rfl) (by kernel_rfl) (fun _ => by kernel_rfl) (nofun)
noncomputable def i422 : I := ⟨false, 1, Tryz.t422.desc, zo Tryz.t422, 8, [], 0, false⟩
theorem i422_ok : i422.ok Tryz.prog 422 := I.of (fun _ => by kernel_rfl) (fun _ => by kernel_rfl) (by kernel_rfl) (fun _ => by kernel_rfl) (by kernel_rfl) (by kernel_rfl) (trivial) (nofun)
noncomputable def i423 : I := ⟨false, 1, Tryz.t423.desc, zo Tryz.t423, 8, [], 0, false⟩
theorem i423_ok : i423.ok Tryz.prog 423 := I.of (fun _ => by kernel_rfl) (fun _ => by kernel_rfl) (by kernel_rfl) (fun _ => by kernel_rfl) (by kernel_rfl) (by kernel_rfl) (trivial) (nofun)
noncomputable def i424 : I := ⟨false, 1, Tryz.t424.desc, zo Tryz.t424, 8, [], 0, false⟩
theorem i424_ok : i424.ok Tryz.prog 424 := I.of (fun _ => by kernel_rfl) (fun _ => by kernel_rfl) (by kernel_rfl) (fun _ => by kernel_rfl) (by kernel_rfl) (by kernel_rfl) (trivial) (nofun)
noncomputable def i425 : I := ⟨false, 1, .map 404 407, zo Tryz.t425, 8, [], 0, false⟩
theorem i425_ok : i425.ok Tryz.prog 425 := I.of (fun _ => by kernel_rfl) (fun _ => by kernel_rfl) (by kernel_rfl) (fun _ => by kernel_rfl) (by kernel_rfl) (by kernel_rfl) (trivial) (nofun)
noncomputable def i426 : I := ⟨false, 1, .slice 430, zo Tryz.t426, 24, [], 10, false⟩
theorem i426_ok : i426.ok Tryz.prog 426 := I.of (fun _ => by kernel_rfl) (fun _ => by kernel_rfl) (by kernel_rfl) (fun _ => by kernel_rfl) (by kernel_rfl) (by kernel_rfl) (fun _ => by kernel_rfl) (nofun)
noncomputable def i427 : I := ⟨true, 4, Tryz.t427.desc, zo Tryz.t427, 56, [(0, 1), (1, 1), (2, 1), (3, 1)], 0, false⟩
theorem i427_ok : i427.ok Tryz.prog 427 := I.of (fun _ => by kernel_rfl) (fun _ => by kernel_rfl) (by kernel_rfl) (fun _ => by kernel_rfl) (by kernel_rfl) (by kernel_rfl) (fun _ => by kernel_rfl) (nofun)
noncomputable def i428 : I := ⟨true, 4, Tryz.t427.desc, zo Tryz.t428, 56, [(0, 1), (1, 1), (2, 1), (3, 1)], 0, false⟩
theorem i428_ok : i428.ok Tryz.prog 428 := I.of (fun _ => by kernel_rfl) (fun _ => by kernel_rfl) (by kernel_rfl) (fun _ => by kernel_rfl) (by kernel_rfl) (by kernel_rfl) (fun _ => by kernel_rfl) (nofun)
noncomputable def i429 : I := ⟨true, 10, Tryz.t429.desc, zo Tryz.t429, 112, [(0, 9), (9, 1)], 0, false⟩
theorem i429_ok : i429.ok Tryz.prog 429 := I.of (fun _ => by kernel_rfl) (fun _ => by kernel_rfl) (by kernel_rfl) (fun _ => by kernel_rfl) (by kernel_rfl) (by kernel_rfl) (fun _ => by kernel_rfl) (nofun)
noncomputable def i430 : I := ⟨true, 10, Tryz.t429.desc, zo Tryz.t430, 112, [(0, 9), (9, 1)], 0, false⟩
theorem i430_ok : i430.ok Tryz.prog 430 := I.of (fun _ => by kernel_rfl) (fun _ => by kernel_rfl) (by kernel_rfl) (fun _ => by kernel_rfl) (by kernel_rfl) (by kernel_rfl) (fun _ => by kernel_rfl) (nofun)
noncomputable def i432 : I := ⟨false, 1, Tryz.t432.desc, zo Tryz.t432, 8, [], 0, false⟩
theorem i432_ok : i432.ok Tryz.prog 432 := I.of (fun _ => by kernel_rfl) (fun _ => by kernel_rfl) (by kernel_rfl) (fun _ => by kernel_rfl) (by kernel_rfl) (by kernel_rfl) (trivial) (nofun)
noncomputable def i433 : I := ⟨false, 1, Tryz.t433.desc, zo Tryz.t433, 8, [], 0, false⟩
theorem i433_ok : i433.ok Tryz.prog 433 := I.of (fun _ => by kernel_rfl) (fun _ => by kernel_rfl) (by kernel_rfl) (fun _ => by kernel_rfl) (by kernel_rfl) (by kernel_rfl) (trivial) (nofun)
noncomputable def i434 : I := ⟨false, 1, Tryz.t434.desc, zo Tryz.t434, 8, [], 0, false⟩
theorem i434_ok : i434.ok Tryz.prog 434 := I.of (fun _ => by kernel_rfl) (fun _ => by kernel_rfl) (by kernel_rfl) (fun _ => by kernel_rfl) (by kernel_rfl) (by kernel_rfl) (trivial) (nofun)
noncomputable def i435 : I := ⟨false, 1, Tryz.t435.desc, zo Tryz.t435, 8, [], 0, false⟩
theorem i435_ok : i435.ok Tryz.prog 435 := I.of (fun _ => by kernel_rfl) (fun _ => by kernel_rfl) (by kernel_rfl) (fun _ => by kernel_rfl) (by kernel_rfl) (by kernel_rfl) (trivial) (nofun)
noncomputable def i436 : I := ⟨false, 1, Tryz.t436.desc, zo Tryz.t436, 8, [], 0, false⟩
theorem i436_ok : i436.ok Tryz.prog 436 := I.of (fun _ => by kernel_rfl) (fun _ => by kernel_rfl) (by kernel_rfl) (fun _ => by kernel_rfl) (by kernel_rfl) (by kernel_rfl) (trivial) (nofun)
noncomputable def i437 : I := ⟨false, 1, Tryz.t437.desc, zo Tryz.t437, 8, [], 0, false⟩
theorem i437_ok : i437.ok Tryz.prog 437 := I.of (fun _ => by kernel_rfl) (fun _ => by kernel_rfl) (by kernel_rfl) (fun _ => by kernel_rfl) (by kernel_rfl) (by kernel_rfl) (trivial) (nofun)
noncomputable def i438 : I := ⟨true, 24, .array 24 5, zo Tryz.t438, 24, [], 1, false⟩
theorem i438_ok : i438.ok Tryz.prog 438 := I.of (fun _ => by kernel_rfl) (fun _ => by kernel_rfl) (by kernel_rfl) (fun _ => by kernel_rfl) (by kernel_rfl) (by kernel_rfl) (⟨fun _ => by kernel_rfl, fun _ => by kernel_rfl⟩) (nofun)
noncomputable def i439 : I := ⟨false, 1, Tryz.t439.desc, zo Tryz.t439, 8, [], 0, false⟩
theorem i439_ok : i439.ok Tryz.prog 439 := I.of (fun _ => by kernel_rfl) (fun _ => by kernel_rfl) (by kernel_rfl) (fun _ => by kernel_rfl) (by kernel_rfl) (by kernel_rfl) (trivial) (nofun)
noncomputable def i441 : I := ⟨false, 1, Tryz.t441.desc, zo Tryz.t441, 8, [], 0, false⟩
theorem i441_ok : i441.ok Tryz.prog 441 := I.of (fun _ => by kernel_rfl) (fun _ => by kernel_rfl) (by kernel_rfl) (fun _ => by kernel_rfl) (by kernel_rfl) (by kernel_rfl) (trivial) (nofun)
noncomputable def i442 : I := ⟨false, 1, Tryz.t442.desc, zo Tryz.t442, 8, [], 0, false⟩
theorem i442_ok : i442.ok Tryz.prog 442 := I.of (fun _ => by kernel_rfl) (fun _ => by kernel_rfl) (by kernel_rfl) (fun _ => by kernel_rfl) (by kernel_rfl) (by kernel_rfl) (trivial) (nofun)
noncomputable def i443 : I := ⟨false, 1, Tryz.t443.desc, zo Tryz.t443, 8, [], 0, false⟩
theorem i443_ok : i443.ok Tryz.prog 443 := I.of (fun _ => by kernel_rfl) (fun _ => by kernel_rfl) (by kernel_rfl) (fun _ => by kernel_rfl) (by kernel_rfl) (by kernel_rfl) (trivial) (nofun)
noncomputable def i444 : I := ⟨true, 256, .array 256 5, zo Tryz.t444, 256, [], 1, false⟩
theorem i444_ok : i444.ok Tryz.prog 444 := I.of (fun _ => by kernel_rfl) (fun _ => by kernel_rfl) (by kernel_rfl) (fun _ => by kernel_rfl) (by kernel_rfl) (by kernel_rfl) (⟨fun _ => by kernel_rfl, fun _ => by kernel_rfl⟩) (nofun)
noncomputable def i445 : I := ⟨true, 2, Tryz.t445.desc, zo Tryz.t445, 2, [(0, 1), (1, 1)], 0, false⟩
theorem i445_ok : i445.ok Tryz.prog 445 := I.of (fun _ => by kernel_rfl) (fun _ => by kernel_rfl) (by kernel_rfl) (fun _ => by kernel_rfl) (by kernel_rfl) (by kernel_rfl) (fun _ => by kernel_rfl) (nofun)
noncomputable def i446 : I := ⟨true, 2, Tryz.t445.desc, zo Tryz.t446, 2, [(0, 1), (1, 1)], 0, false⟩
theorem i446_ok : i446.ok Tryz.prog 446 := I.of (fun _ => by kernel_rfl) (fun _ => by kernel_rfl) (by kernel_rfl) (fun _ => by kernel_rfl) (by kernel_rfl) (by kernel_rfl) (fun _ => by kernel_rfl) (nofun)
noncomputable def i447 : I := ⟨true, 32, .array 16 446, zo Tryz.t447, 32, [], 2, false⟩
theorem i447_ok : i447.ok Tryz.prog 447 := I.of (fun _ => by kernel_rfl) (fun _ => by kernel_rfl) (by kernel_rfl) (fun _ => by kernel_rfl) (by kernel_rfl) (by kernel_rfl) (⟨fun _ => by kernel_rfl, fun _ => by kernel_rfl⟩) (nofun)
noncomputable def i448 : I := ⟨false, 1, Tryz.t448.desc, zo Tryz.t448, 8, [], 0, false⟩
theorem i448_ok : i448.ok Tryz.prog 448 := I.of (fun _ => by kernel_rfl) (fun _ => by kernel_rfl) (by kernel_rfl) (fun _ => by kernel_rfl) (by kernel_rfl) (by kernel_rfl) (trivial) (nofun)
noncomputable def i450 : I := ⟨false, 1, Tryz.t450.desc, zo Tryz.t450, 8, [], 0, false⟩
theorem i450_ok : i450.ok Tryz.prog 450 := I.of (fun _ => by kernel_rfl) (fun _ => by kernel_rfl) (by kernel_rfl) (fun _ => by kernel_rfl) (by kernel_rfl) (by kernel_rfl) (trivial) (nofun)
noncomputable def i452 : I := ⟨false, 1, Tryz.t452.desc, zo Tryz.t452, 8, [], 0, false⟩
theorem i452_ok : i452.ok Tryz.prog 452 := I.of (fun _ => by kernel_rfl) (fun _ => by kernel_rfl) (by kernel_rfl) (fun _ => by kernel_rfl) (by kernel_rfl) (by kernel_rfl) (trivial) (nofun)
noncomputable def i453 : I := ⟨false, 1, Tryz.t453.desc, zo Tryz.t453, 8, [], 0, false⟩
theorem i453_ok : i453.ok Tryz.prog 453 := I.of (fun _ => by kernel_rfl) (fun _ => by kernel_rfl) (by kernel_rfl) (fun _ => by kernel_rfl) (by kernel_rfl) (by kernel_rfl) (trivial) (nofun)
noncomputable def i454 : I := ⟨false, 1, Tryz.t454.desc, zo Tryz.t454, 8, [], 0, false⟩
theorem i454_ok : i454.ok Tryz.prog 454 := I.of (fun _ => by kernel_rfl) (fun _ => by kernel_rfl) (by kernel_rfl) (fun _ => by kernel_rfl) (by kernel_rfl) (by kernel_rfl) (trivial) (nofun)
noncomputable def i455 : I := ⟨false, 1, Tryz.t455.desc, zo Tryz.t455, 8, [], 0, false⟩
theorem i455_ok : i455.ok Tryz.prog 455 := I.of (fun _ => by kernel_rfl) (fun _ => by kernel_rfl) (by kernel_rfl) (fun _ => by kernel_rfl) (by kernel_rfl) (by kernel_rfl) (trivial) (nofun)
noncomputable def i456 : I := ⟨false, 1, Tryz.t456.desc, zo Tryz.t456, 8, [], 0, false⟩
theorem i456_ok : i456.ok Tryz.prog 456 := I.of (fun _ => by kernel_rfl) (fun _ => by kernel_rfl) (by kernel_rfl) (fun _ => by kernel_rfl) (by kernel_rfl) (by kernel_rfl) (trivial) (nofun)
noncomputable def i457 : I := ⟨true, 20, .array 20 174, zo Tryz.t457, 160, [], 1, false⟩
theorem i457_ok : i457.ok Tryz.prog 457 := I.of (fun _ => by kernel_rfl) (fun _ => by kernel_rfl) (by kernel_rfl) (fun _ => by kernel_rfl) (by kernel_rfl) (by kernel_rfl) (⟨fun _ => by kernel_rfl, fun _ => by kernel_rfl⟩) (nofun)
noncomputable def i458 : I := ⟨true, 65, .array 65 5, zo Tryz.t458, 65, [], 1, false⟩
theorem i458_ok : i458.ok Tryz.prog 458 := I.of (fun _ => by kernel_rfl) (fun _ => by kernel_rfl) (by kernel_rfl) (fun _ => by kernel_rfl) (by kernel_rfl) (by kernel_rfl) (⟨fun _ => by kernel_rfl, fun _ => by kernel_rfl⟩) (nofun)
noncomputable def i459 : I := ⟨false, 1, Tryz.t459.desc, zo Tryz.t459, 8, [], 0, false⟩
theorem i459_ok : i459.ok Tryz.prog 459 := I.of (fun _ => by kernel_rfl) (fun _ => by kernel_rfl) (by kernel_rfl) (fun _ => by kernel_rfl) (by kernel_rfl) (by kernel_rfl) (trivial) (nofun)
noncomputable def i460 : I := ⟨true, 64, .array 64 5, zo Tryz.t460, 64, [], 1, false⟩
theorem i460_ok : i460.ok Tryz.prog 460 := I.of (fun _ => by kernel_rfl) (fun _ => by kernel_rfl) (by kernel_rfl) (fun _ => by kernel_rfl) (by kernel_rfl) (by kernel_rfl) (⟨fun _ => by kernel_rfl, fun _ => by kernel_rfl⟩) (nofun)
noncomputable def i461 : I := ⟨true, 4, Tryz.t461.desc, zo Tryz.t461, 40, [(0, 1), (1, 1), (2, 1), (3, 1)], 0, false⟩
theorem i461_ok : i461.ok Tryz.prog 461 := I.of (fun _ => by kernel_rfl) (fun _ => by kernel_rfl) (by kernel_rfl) (fun _ => by kernel_rfl) (by kernel_rfl) (by kernel_rfl) (fun _ => by kernel_rfl) (nofun)
noncomputable def i462 : I := ⟨true, 4, Tryz.t461.desc, zo Tryz.t462, 40, [(0, 1), (1, 1), (2, 1), (3, 1)], 0, false⟩
theorem i462_ok : i462.ok Tryz.prog 462 := I.of (fun _ => by kernel_rfl) (fun _ => by kernel_rfl) (by kernel_rfl) (fun _ => by kernel_rfl) (by kernel_rfl) (by kernel_rfl) (fun _ => by kernel_rfl) (nofun)
noncomputable def i463 : I := ⟨true, 0, .array 0 16, zo Tryz.t463, 0, [], 1, false⟩
theorem i463_ok : i463.ok Tryz.prog 463 := I.of (fun _ => by kernel_rfl) (fun _ => by kernel_rfl) (by kernel_rfl) (fun _ => by kernel_rfl) (by kernel_rfl) (by kernel_rfl) (⟨fun _ => by kernel_rfl, fun _ => by kernel_rfl⟩) (nofun)
noncomputable def i464 : I := ⟨true, 0, Tryz.t464.desc, zo Tryz.t464, 0, [(0, 0)], 0, false⟩
theorem i464_ok : i464.ok Tryz.prog 464 := I.of (fun _ => by kernel_rfl) (fun _ => by kernel_rfl) (by kernel_rfl) (fun _ => by kernel_rfl) (by kernel_rfl) (by kernel_rfl) (fun _ => by kernel_rfl) (nofun)
noncomputable def i465 : I := ⟨true, 0, Tryz.t464.desc, zo Tryz.t465, 0, [(0, 0)], 0, false⟩
theorem i465_ok : i465.ok Tryz.prog 465 := I.of (fun _ => by kernel_rfl) (fun _ => by kernel_rfl) (by kernel_rfl) (fun _ => by kernel_rfl) (by kernel_rfl) (by kernel_rfl) (fun _ => by kernel_rfl) (nofun)
noncomputable def i466 : I := ⟨false, 1, .int .u8, zo Tryz.t466, 1, [], 0, false⟩
theorem i466_ok : i466.ok Tryz.prog 466 := I.of (fun _ => by kernel_rfl) (fun _ => by kernel_rfl) (by kernel_rfl) (fun _ => by kernel_rfl) (by kernel_rfl) (by kernel_rfl) (trivial) (nofun)
noncomputable def i467 : I := ⟨false, 1, .int .u8, zo Tryz.t467, 1, [], 0, false⟩
theorem i467_ok : i467.ok Tryz.prog 467 := I.of (fun _ => by kernel_rfl) (fun _ => by kernel_rfl) (by kernel_rfl) (fun _ => by kernel_rfl) (by kernel_rfl) (by kernel_rfl) (trivial) (nofun)
noncomputable def i468 : I := ⟨false, 1, Tryz.t468.desc, zo Tryz.t468, 8, [], 0, false⟩
theorem i468_ok : i468.ok Tryz.prog 468 := I.of (fun _ => by kernel_rfl) (fun _ => by kernel_rfl) (by kernel_rfl) (fun _ => by kernel_rfl) (by kernel_rfl) (by kernel_rfl) (trivial) (nofun)
noncomputable def i469 : I := ⟨false, 1, .int .i32, zo Tryz.t469, 4, [], 0, false⟩
theorem i469_ok : i469.ok Tryz.prog 469 := I.of (fun _ => by kernel_rfl) (fun _ => by kernel_rfl) (by kernel_rfl) (fun _ => by kernel_rfl) (by kernel_rfl) (by kernel_rfl) (trivial) (nofun)
noncomputable def i470 : I := ⟨false, 1, .int .i32, zo Tryz.t470, 4, [], 0, false⟩
theorem i470_ok : i470.ok Tryz.prog 470 := I.of (fun _ => by kernel_rfl) (fun _ => by kernel_rfl) (by kernel_rfl) (fun _ => by kernel_rfl) (by kernel_rfl) (by kernel_rfl) (trivial) (nofun)
noncomputable def i471 : I := ⟨true, 11, Tryz.t471.desc, zo Tryz.t471, 48, [(0, 1), (1, 1), (2, 1), (3, 1), (4, 1), (5, 1), (6, 1), (7, 1), (8, 1), (9, 1), (10, 1)], 0, false⟩
theorem i471_ok : i471.ok Tryz.prog 471 := I.of (fun _ => by kernel_rfl) (fun _ => by kernel_rfl) (by kernel_rfl) (fun _ => by kernel_rfl) (by kernel_rfl) (by kernel_rfl) (fun _ => by kernel_rfl) (nofun)
noncomputable def i472 : I := ⟨true, 11, Tryz.t471.desc, zo Tryz.t472, 48, [(0, 1), (1, 1), (2, 1), (3, 1), (4, 1), (5, 1), (6, 1), (7, 1), (8, 1), (9, 1), (10, 1)], 0, false⟩
theorem i472_ok : i472.ok Tryz.prog 472 := I.of (fun _ => by kernel_rfl) (fun _ => by kernel_rfl) (by kernel_rfl) (fun _ => by kernel_rfl) (by kernel_rfl) (by kernel_rfl) (fun _ => by kernel_rfl) (nofun)
noncomputable def itab : Tb := (.node (.node (.node (.node (.node (.node (.node (.node (.node .leaf (some i255) .leaf) (some i127) .leaf) (some i63) (.node (.node .leaf (some i319) .leaf) none (.node .leaf (some i447) .leaf))) none (.node (.node .leaf none (.node .leaf (some i415) .leaf)) (some i95) (.node (.node .leaf (some i351) .leaf) (some i223) .leaf))) (some i15) (.node (.node (.node (.node .leaf (some i271) .leaf) (some i143) (.node .leaf (some i399) .leaf)) (some i79) (.node .leaf (some i207) (.node .leaf (some i463) .leaf))) (some i47) (.node (.node (.node .leaf (some i303) .leaf) (some i175) .leaf) (some i111) (.node (.node .leaf (some i367) .leaf) none .leaf)))) (some i7) (.node (.node (.node (.node (.node .leaf (some i263) .leaf) (some i135) (.node .leaf (some i391) .leaf)) (some i71) (.node .leaf (some i199) (.node .leaf (some i455) .leaf))) (some i39) (.node (.node (.node .leaf (some i295) .leaf) (some i167) (.node .leaf (some i423) .leaf)) (some i103) (.node .leaf (some i231) .leaf))) (some i23) (.node (.node (.node (.node .leaf (some i279) .leaf) (some i151) (.node .leaf (some i407) .leaf)) (some i87) (.node (.node .leaf (some i343) .leaf) (some i215) (.node .leaf (some i471) .leaf))) (some i55) (.node (.node (.node .leaf (some i311) .leaf) (some i183) (.node .leaf (some i439) .leaf)) (some i119) (.node .leaf (some i247) .leaf))))) (some i3) (.node (.node (.node (.node (.node (.node .leaf (some i259) .leaf) none (.node .leaf (some i387) .leaf)) none (.node (.node .leaf (some i323) .leaf) none .leaf)) (some i35) (.node (.node (.node .leaf (some i291) .leaf) (some i163) (.node .leaf (some i419) .leaf)) (some i99) (.node (.node .leaf (some i355) .leaf) (some i227) .leaf))) (some i19) (.node (.node (.node (.node .leaf (some i275) .leaf) (some i147) (.node .leaf (some i403) .leaf)) (some i83) (.node (.node .leaf (some i339) .leaf) (some i211) (.node .leaf (some i467) .leaf))) (some i51) (.node (.node (.node .leaf (some i307) .leaf) none (.node .leaf (some i435) .leaf)) none (.node (.node .leaf (some i371) .leaf) (some i243) .leaf)))) (some i11) (.node (.node (.node (.node (.node .leaf (some i267) .leaf) none (.node .leaf (some i395) .leaf)) none (.node (.node .leaf (some i331) .leaf) (some i203) (.node .leaf (some i459) .leaf))) (some i43) (.node (.node (.node .leaf (some i299) .leaf) (some i171) (.node .leaf (some i427) .leaf)) (some i107) (.node (.node .leaf (some i363) .leaf) (some i235) .leaf))) none (.node (.node (.node (.node .leaf (some i283) .leaf) (some i155) (.node .leaf (some i411) .leaf)) (some i91) (.node (.node .leaf (some i347) .leaf) (some i219) .leaf)) none (.node (.node (.node .leaf (some i315) .leaf) (some i187) (.node .leaf (some i443) .leaf)) (some i123) (.node (.node .leaf (some i379) .leaf) (some i251) .leaf)))))) (some i1) (.node (.node (.node (.node (.node (.node (.node .leaf (some i257) .leaf) (some i129) (.node .leaf (some i385) .leaf)) (some i65) (.node (.node .leaf (some i321) .leaf) (some i193) .leaf)) (some i33) (.node (.node (.node .leaf (some i289) .leaf) (some i161) .leaf) none (.node .leaf (some i225) .leaf))) (some i17) (.node (.node (.node (.node .leaf (some i273) .leaf) (some i145) .leaf) (some i81) (.node (.node .leaf (some i337) .leaf) (some i209) (.node .leaf (some i465) .leaf))) (some i49) (.node (.node (.node .leaf (some i305) .leaf) none (.node .leaf (some i433) .leaf)) (some i113) (.node (.node .leaf (some i369) .leaf) (some i241) .leaf)))) (some i9) (.node (.node (.node (.node (.node .leaf (some i265) .leaf) (some i137) (.node .leaf (some i393) .leaf)) (some i73) (.node (.node .leaf (some i329) .leaf) (some i201) (.node .leaf (some i457) .leaf))) (some i41) (.node (.node (.node .leaf (some i297) .leaf) (some i169) (.node .leaf (some i425) .leaf)) (some i105) (.node (.node .leaf (some i361) .leaf) (some i233) .leaf))) none (.node (.node (.node (.node .leaf (some i281) .leaf) (some i153) (.node .leaf (some i409) .leaf)) (some i89) (.node (.node .leaf (some i345) .leaf) (some i217) .leaf)) (some i57) (.node (.node .leaf (some i185) (.node .leaf (some i441) .leaf)) (some i121) (.node (.node .leaf (some i377) .leaf) (some i249) .leaf))))) (some i5) (.node (.node (.node (.node (.node .leaf (some i133) (.node .leaf (some i389) .leaf)) (some i69) (.node .leaf (some i197) (.node .leaf (some i453) .leaf))) (some i37) (.node (.node (.node .leaf (some i293) .leaf) (some i165) (.node .leaf (some i421) .leaf)) (some i101) (.node .leaf (some i229) .leaf))) (some i21) (.node (.node (.node (.node .leaf (some i277) .leaf) (some i149) (.node .leaf (some i405) .leaf)) (some i85) (.node (.node .leaf (some i341) .leaf) (some i213) (.node .leaf (some i469) .leaf))) (some i53) (.node (.node (.node .leaf (some i309) .leaf) (some i181) (.node .leaf (some i437) .leaf)) (some i117) (.node (.node .leaf (some i373) .leaf) (some i245) .leaf)))) (some i13) (.node (.node (.node (.node (.node .leaf (some i269) .leaf) (some i141) (.node .leaf (some i397) .leaf)) (some i77) (.node (.node .leaf (some i333) .leaf) (some i205) (.node .leaf (some i461) .leaf))) (some i45) (.node (.node (.node .leaf (some i301) .leaf) (some i173) (.node .leaf (some i429) .leaf)) (some i109) (.node (.node .leaf (some i365) .leaf) none .leaf))) none (.node (.node (.node (.node .leaf (some i285) .leaf) (some i157) (.node .leaf (some i413) .leaf)) (some i93) (.node (.node .leaf (some i349) .leaf) (some i221) .leaf)) (some i61) (.node (.node (.node .leaf (some i317) .leaf) (some i189) (.node .leaf (some i445) .leaf)) (some i125) (.node (.node .leaf (some i381) .leaf) (some i253) .leaf))))))) none (.node (.node (.node (.node (.node (.node (.node (.node .leaf (some i256) .leaf) none (.node .leaf (some i384) .leaf)) (some i64) (.node (.node .leaf (some i320) .leaf) (some i192) (.node .leaf (some i448) .leaf))) (some i32) (.node (.node (.node .leaf (some i288) .leaf) (some i160) (.node .leaf (some i416) .leaf)) (some i96) (.node (.node .leaf (some i352) .leaf) (some i224) .leaf))) (some i16) (.node (.node (.node (.node .leaf (some i272) .leaf) (some i144) (.node .leaf (some i400) .leaf)) (some i80) (.node (.node .leaf (some i336) .leaf) (some i208) (.node .leaf (some i464) .leaf))) (some i48) (.node (.node (.node .leaf (some i304) .leaf) (some i176) (.node .leaf (some i432) .leaf)) (some i112) (.node .leaf (some i240) .leaf)))) (some i8) (.node (.node (.node (.node (.node .leaf (some i264) .leaf) (some i136) (.node .leaf (some i392) .leaf)) none (.node (.node .leaf (some i328) .leaf) (some i200) (.node .leaf (some i456) .leaf))) (some i40) (.node (.node .leaf (some i168) (.node .leaf (some i424) .leaf)) (some i104) (.node (.node .leaf (some i360) .leaf) none .leaf))) (some i24) (.node (.node (.node .leaf (some i152) (.node .leaf (some i408) .leaf)) (some i88) (.node .leaf (some i216) (.node .leaf (some i472) .leaf))) (some i56) (.node (.node (.node .leaf (some i312) .leaf) (some i184) .leaf) (some i120) (.node (.node .leaf (some i376) .leaf) (some i248) .leaf))))) (some i4) (.node (.node (.node (.node (.node (.node .leaf (some i260) .leaf) (some i132) (.node .leaf (some i388) .leaf)) (some i68) (.node (.node .leaf (some i324) .leaf) (some i196) (.node .leaf (some i452) .leaf))) (some i36) (.node (.node (.node .leaf (some i292) .leaf) (some i164) (.node .leaf (some i420) .leaf)) none (.node (.node .leaf (some i356) .leaf) (some i228) .leaf))) (some i20) (.node (.node (.node (.node .leaf (some i276) .leaf) (some i148) (.node .leaf (some i404) .leaf)) none (.node (.node .leaf (some i340) .leaf) (some i212) (.node .leaf (some i468) .leaf))) (some i52) (.node (.node .leaf (some i180) (.node .leaf (some i436) .leaf)) (some i116) (.node (.node .leaf (some i372) .leaf) (some i244) .leaf)))) (some i12) (.node (.node (.node (.node (.node .leaf (some i268) .leaf) (some i140) (.node .leaf (some i396) .leaf)) (some i76) (.node (.node .leaf (some i332) .leaf) (some i204) (.node .leaf (some i460) .leaf))) (some i44) (.node (.node (.node .leaf (some i300) .leaf) none (.node .leaf (some i428) .leaf)) (some i108) (.node (.node .leaf (some i364) .leaf) (some i236) .leaf))) (some i28) (.node (.node (.node (.node .leaf (some i284) .leaf) (some i156) (.node .leaf (some i412) .leaf)) (some i92) (.node (.node .leaf (some i348) .leaf) (some i220) .leaf)) (some i60) (.node (.node (.node .leaf (some i316) .leaf) (some i188) (.node .leaf (some i444) .leaf)) (some i124) (.node (.node .leaf (some i380) .leaf) (some i252) .leaf)))))) (some i2) (.node (.node (.node (.node (.node (.node (.node .leaf (some i258) .leaf) (some i130) (.node .leaf (some i386) .leaf)) (some i66) (.node (.node .leaf (some i322) .leaf) (some i194) (.node .leaf (some i450) .leaf))) (some i34) (.node (.node (.node .leaf (some i290) .leaf) (some i162) (.node .leaf (some i418) .leaf)) (some i98) (.node (.node .leaf (some i354) .leaf) (some i226) .leaf))) (some i18) (.node (.node (.node (.node .leaf (some i274) .leaf) (some i146) (.node .leaf (some i402) .leaf)) none (.node (.node .leaf (some i338) .leaf) (some i210) (.node .leaf (some i466) .leaf))) (some i50) (.node (.node (.node .leaf (some i306) .leaf) (some i178) (.node .leaf (some i434) .leaf)) (some i114) (.node (.node .leaf (some i370) .leaf) (some i242) .leaf)))) (some i10) (.node (.node (.node (.node (.node .leaf (some i266) .leaf) (some i138) (.node .leaf (some i394) .leaf)) (some i74) (.node .leaf (some i202) (.node .leaf (some i458) .leaf))) none (.node (.node .leaf none (.node .leaf (some i426) .leaf)) (some i106) (.node (.node .leaf (some i362) .leaf) (some i234) .leaf))) (some i26) (.node (.node (.node .leaf none (.node .leaf (some i410) .leaf)) (some i90) (.node (.node .leaf (some i346) .leaf) (some i218) .leaf)) (some i58) (.node (.node (.node .leaf (some i314) .leaf) (some i186) (.node .leaf (some i442) .leaf)) (some i122) (.node .leaf (some i250) .leaf))))) (some i6) (.node (.node (.node (.node (.node (.node .leaf (some i262) .leaf) none (.node .leaf (some i390) .leaf)) (some i70) (.node (.node .leaf (some i326) .leaf) (some i198) (.node .leaf (some i454) .leaf))) (some i38) (.node (.node (.node .leaf (some i294) .leaf) (some i166) (.node .leaf (some i422) .leaf)) (some i102) (.node (.node .leaf (some i358) .leaf) (some i230) .leaf))) (some i22) (.node (.node (.node (.node .leaf (some i278) .leaf) (some i150) (.node .leaf (some i406) .leaf)) (some i86) (.node (.node .leaf (some i342) .leaf) none (.node .leaf (some i470) .leaf))) (some i54) (.node (.node (.node .leaf (some i310) .leaf) (some i182) (.node .leaf (some i438) .leaf)) (some i118) (.node (.node .leaf (some i374) .leaf) (some i246) .leaf)))) (some i14) (.node (.node (.node (.node (.node .leaf (some i270) .leaf) (some i142) (.node .leaf (some i398) .leaf)) (some i78) (.node (.node .leaf (some i334) .leaf) (some i206) (.node .leaf (some i462) .leaf))) (some i46) (.node (.node (.node .leaf (some i302) .leaf) (some i174) (.node .leaf (some i430) .leaf)) (some i110) (.node (.node .leaf (some i366) .leaf) (some i238) .leaf))) (some i30) (.node (.node (.node (.node .leaf (some i286) .leaf) (some i158) (.node .leaf (some i414) .leaf)) (some i94) (.node (.node .leaf (some i350) .leaf) (some i222) .leaf)) none (.node (.node (.node .leaf (some i318) .leaf) (some i190) (.node .leaf (some i446) .leaf)) (some i126) (.node (.node .leaf (some i382) .leaf) (some i254) .leaf))))))))
set_option maxHeartbeats 4000000 in
theorem itab_ok : itab.ok Tryz.prog := fun _ _ h => T.all_get (f := fun k => k) (Q := fun t i => i.ok Tryz.prog t) (show T.All _ itab _ from ⟨trivial, ⟨i1_ok, ⟨i3_ok, ⟨i7_ok, ⟨i15_ok, ⟨trivial, ⟨i63_ok, ⟨i127_ok, ⟨i255_ok, trivial, trivial⟩, trivial⟩, ⟨trivial, ⟨i319_ok, trivial, trivial⟩, ⟨i447_ok, trivial, trivial⟩⟩⟩, ⟨i95_ok, ⟨trivial, trivial, ⟨i415_ok, trivial, trivial⟩⟩, ⟨i223_ok, ⟨i351_ok, trivial, trivial⟩, trivial⟩⟩⟩, ⟨i47_ok, ⟨i79_ok, ⟨i143_ok, ⟨i271_ok, trivial, trivial⟩, ⟨i399_ok, trivial, trivial⟩⟩, ⟨i207_ok, trivial, ⟨i463_ok, trivial, trivial⟩⟩⟩, ⟨i111_ok, ⟨i175_ok, ⟨i303_ok, trivial, trivial⟩, trivial⟩, ⟨trivial, ⟨i367_ok, trivial, trivial⟩, trivial⟩⟩⟩⟩, ⟨i23_ok, ⟨i39_ok, ⟨i71_ok, ⟨i135_ok, ⟨i263_ok, trivial, trivial⟩, ⟨i391_ok, trivial, trivial⟩⟩, ⟨i199_ok, trivial, ⟨i455_ok, trivial, trivial⟩⟩⟩, ⟨i103_ok, ⟨i167_ok, ⟨i295_ok, trivial, trivial⟩, ⟨i423_ok, trivial, trivial⟩⟩, ⟨i231_ok, trivial, trivial⟩⟩⟩, ⟨i55_ok, ⟨i87_ok, ⟨i151_ok, ⟨i279_ok, trivial, trivial⟩, ⟨i407_ok, trivial, trivial⟩⟩, ⟨i215_ok, ⟨i343_ok, trivial, trivial⟩, ⟨i471_ok, trivial, trivial⟩⟩⟩, ⟨i119_ok, ⟨i183_ok, ⟨i311_ok, trivial, trivial⟩, ⟨i439_ok, trivial, trivial⟩⟩, ⟨i247_ok, trivial, trivial⟩⟩⟩⟩⟩, ⟨i11_ok, ⟨i19_ok, ⟨i35_ok, ⟨trivial, ⟨trivial, ⟨i259_ok, trivial, trivial⟩, ⟨i387_ok, trivial, trivial⟩⟩, ⟨trivial, ⟨i323_ok, trivial, trivial⟩, trivial⟩⟩, ⟨i99_ok, ⟨i163_ok, ⟨i291_ok, trivial, trivial⟩, ⟨i419_ok, trivial, trivial⟩⟩, ⟨i227_ok, ⟨i355_ok, trivial, trivial⟩, trivial⟩⟩⟩, ⟨i51_ok, ⟨i83_ok, ⟨i147_ok, ⟨i275_ok, trivial, trivial⟩, ⟨i403_ok, trivial, trivial⟩⟩, ⟨i211_ok, ⟨i339_ok, trivial, trivial⟩, ⟨i467_ok, trivial, trivial⟩⟩⟩, ⟨trivial, ⟨trivial, ⟨i307_ok, trivial, trivial⟩, ⟨i435_ok, trivial, trivial⟩⟩, ⟨i243_ok, ⟨i371_ok, trivial, trivial⟩, trivial⟩⟩⟩⟩, ⟨trivial, ⟨i43_ok, ⟨trivial, ⟨trivial, ⟨i267_ok, trivial, trivial⟩, ⟨i395_ok, trivial, trivial⟩⟩, ⟨i203_ok, ⟨i331_ok, trivial, trivial⟩, ⟨i459_ok, trivial, trivial⟩⟩⟩, ⟨i107_ok, ⟨i171_ok, ⟨i299_ok, trivial, trivial⟩, ⟨i427_ok, trivial, trivial⟩⟩, ⟨i235_ok, ⟨i363_ok, trivial, trivial⟩, trivial⟩⟩⟩, ⟨trivial, ⟨i91_ok, ⟨i155_ok, ⟨i283_ok, trivial, trivial⟩, ⟨i411_ok, trivial, trivial⟩⟩, ⟨i219_ok, ⟨i347_ok, trivial, trivial⟩, trivial⟩⟩, ⟨i123_ok, ⟨i187_ok, ⟨i315_ok, trivial, trivial⟩, ⟨i443_ok, trivial, trivial⟩⟩, ⟨i251_ok, ⟨i379_ok, trivial, trivial⟩, trivial⟩⟩⟩⟩⟩⟩, ⟨i5_ok, ⟨i9_ok, ⟨i17_ok, ⟨i33_ok, ⟨i65_ok, ⟨i129_ok, ⟨i257_ok, trivial, trivial⟩, ⟨i385_ok, trivial, trivial⟩⟩, ⟨i193_ok, ⟨i321_ok, trivial, trivial⟩, trivial⟩⟩, ⟨trivial, ⟨i161_ok, ⟨i289_ok, trivial, trivial⟩, trivial⟩, ⟨i225_ok, trivial, trivial⟩⟩⟩, ⟨i49_ok, ⟨i81_ok, ⟨i145_ok, ⟨i273_ok, trivial, trivial⟩, trivial⟩, ⟨i209_ok, ⟨i337_ok, trivial, trivial⟩, ⟨i465_ok, trivial, trivial⟩⟩⟩, ⟨i113_ok, ⟨trivial, ⟨i305_ok, trivial, trivial⟩, ⟨i433_ok, trivial, trivial⟩⟩, ⟨i241_ok, ⟨i369_ok, trivial, trivial⟩, trivial⟩⟩⟩⟩, ⟨trivial, ⟨i41_ok, ⟨i73_ok, ⟨i137_ok, ⟨i265_ok, trivial, trivial⟩, ⟨i393_ok, trivial, trivial⟩⟩, ⟨i201_ok, ⟨i329_ok, trivial, trivial⟩, ⟨i457_ok, trivial, trivial⟩⟩⟩, ⟨i105_ok, ⟨i169_ok, ⟨i297_ok, trivial, trivial⟩, ⟨i425_ok, trivial, trivial⟩⟩, ⟨i233_ok, ⟨i361_ok, trivial, trivial⟩, trivial⟩⟩⟩, ⟨i57_ok, ⟨i89_ok, ⟨i153_ok, ⟨i281_ok, trivial, trivial⟩, ⟨i409_ok, trivial, trivial⟩⟩, ⟨i217_ok, ⟨i345_ok, trivial, trivial⟩, trivial⟩⟩, ⟨i121_ok, ⟨i185_ok, trivial, ⟨i441_ok, trivial, trivial⟩⟩, ⟨i249_ok, ⟨i377_ok, trivial, trivial⟩, trivial⟩⟩⟩⟩⟩, ⟨i13_ok, ⟨i21_ok, ⟨i37_ok, ⟨i69_ok, ⟨i133_ok, trivial, ⟨i389_ok, trivial, trivial⟩⟩, ⟨i197_ok, trivial, ⟨i453_ok, trivial, trivial⟩⟩⟩, ⟨i101_ok, ⟨i165_ok, ⟨i293_ok, trivial, trivial⟩, ⟨i421_ok, trivial, trivial⟩⟩, ⟨i229_ok, trivial, trivial⟩⟩⟩, ⟨i53_ok, ⟨i85_ok, ⟨i149_ok, ⟨i277_ok, trivial, trivial⟩, ⟨i405_ok, trivial, trivial⟩⟩, ⟨i213_ok, ⟨i341_ok, trivial, trivial⟩, ⟨i469_ok, trivial, trivial⟩⟩⟩, ⟨i117_ok, ⟨i181_ok, ⟨i309_ok, trivial, trivial⟩, ⟨i437_ok, trivial, trivial⟩⟩, ⟨i245_ok, ⟨i373_ok, trivial, trivial⟩, trivial⟩⟩⟩⟩, ⟨trivial, ⟨i45_ok, ⟨i77_ok, ⟨i141_ok, ⟨i269_ok, trivial, trivial⟩, ⟨i397_ok, trivial, trivial⟩⟩, ⟨i205_ok, ⟨i333_ok, trivial, trivial⟩, ⟨i461_ok, trivial, trivial⟩⟩⟩, ⟨i109_ok, ⟨i173_ok, ⟨i301_ok, trivial, trivial⟩, ⟨i429_ok, trivial, trivial⟩⟩, ⟨trivial, ⟨i365_ok, trivial, trivial⟩, trivial⟩⟩⟩, ⟨i61_ok, ⟨i93_ok, ⟨i157_ok, ⟨i285_ok, trivial, trivial⟩, ⟨i413_ok, trivial, trivial⟩⟩, ⟨i221_ok, ⟨i349_ok, trivial, trivial⟩, trivial⟩⟩, ⟨i125_ok, ⟨i189_ok, ⟨i317_ok, trivial, trivial⟩, ⟨i445_ok, trivial, trivial⟩⟩, ⟨i253_ok, ⟨i381_ok, trivial, trivial⟩, trivial⟩⟩⟩⟩⟩⟩⟩, ⟨i2_ok, ⟨i4_ok, ⟨i8_ok, ⟨i16_ok, ⟨i32_ok, ⟨i64_ok, ⟨trivial, ⟨i256_ok, trivial, trivial⟩, ⟨i384_ok, trivial, trivial⟩⟩, ⟨i192_ok, ⟨i320_ok, trivial, trivial⟩, ⟨i448_ok, trivial, trivial⟩⟩⟩, ⟨i96_ok, ⟨i160_ok, ⟨i288_ok, trivial, trivial⟩, ⟨i416_ok, trivial, trivial⟩⟩, ⟨i224_ok, ⟨i352_ok, trivial, trivial⟩, trivial⟩⟩⟩, ⟨i48_ok, ⟨i80_ok, ⟨i144_ok, ⟨i272_ok, trivial, trivial⟩, ⟨i400_ok, trivial, trivial⟩⟩, ⟨i208_ok, ⟨i336_ok, trivial, trivial⟩, ⟨i464_ok, trivial, trivial⟩⟩⟩, ⟨i112_ok, ⟨i176_ok, ⟨i304_ok, trivial, trivial⟩, ⟨i432_ok, trivial, trivial⟩⟩, ⟨i240_ok, trivial, trivial⟩⟩⟩⟩, ⟨i24_ok, ⟨i40_ok, ⟨trivial, ⟨i136_ok, ⟨i264_ok, trivial, trivial⟩, ⟨i392_ok, trivial, trivial⟩⟩, ⟨i200_ok, ⟨i328_ok, trivial, trivial⟩, ⟨i456_ok, trivial, trivial⟩⟩⟩, ⟨i104_ok, ⟨i168_ok, trivial, ⟨i424_ok, trivial, trivial⟩⟩, ⟨trivial, ⟨i360_ok, trivial, trivial⟩, trivial⟩⟩⟩, ⟨i56_ok, ⟨i88_ok, ⟨i152_ok, trivial, ⟨i408_ok, trivial, trivial⟩⟩, ⟨i216_ok, trivial, ⟨i472_ok, trivial, trivial⟩⟩⟩, ⟨i120_ok, ⟨i184_ok, ⟨i312_ok, trivial, trivial⟩, trivial⟩, ⟨i248_ok, ⟨i376_ok, trivial, trivial⟩, trivial⟩⟩⟩⟩⟩, ⟨i12_ok, ⟨i20_ok, ⟨i36_ok, ⟨i68_ok, ⟨i132_ok, ⟨i260_ok, trivial, trivial⟩, ⟨i388_ok, trivial, trivial⟩⟩, ⟨i196_ok, ⟨i324_ok, trivial, trivial⟩, ⟨i452_ok, trivial, trivial⟩⟩⟩, ⟨trivial, ⟨i164_ok, ⟨i292_ok, trivial, trivial⟩, ⟨i420_ok, trivial, trivial⟩⟩, ⟨i228_ok, ⟨i356_ok, trivial, trivial⟩, trivial⟩⟩⟩, ⟨i52_ok, ⟨trivial, ⟨i148_ok, ⟨i276_ok, trivial, trivial⟩, ⟨i404_ok, trivial, trivial⟩⟩, ⟨i212_ok, ⟨i340_ok, trivial, trivial⟩, ⟨i468_ok, trivial, trivial⟩⟩⟩, ⟨i116_ok, ⟨i180_ok, trivial, ⟨i436_ok, trivial, trivial⟩⟩, ⟨i244_ok, ⟨i372_ok, trivial, trivial⟩, trivial⟩⟩⟩⟩, ⟨i28_ok, ⟨i44_ok, ⟨i76_ok, ⟨i140_ok, ⟨i268_ok, trivial, trivial⟩, ⟨i396_ok, trivial, trivial⟩⟩, ⟨i204_ok, ⟨i332_ok, trivial, trivial⟩, ⟨i460_ok, trivial, trivial⟩⟩⟩, ⟨i108_ok, ⟨trivial, ⟨i300_ok, trivial, trivial⟩, ⟨i428_ok, trivial, trivial⟩⟩, ⟨i236_ok, ⟨i364_ok, trivial, trivial⟩, trivial⟩⟩⟩, ⟨i60_ok, ⟨i92_ok, ⟨i156_ok, ⟨i284_ok, trivial, trivial⟩, ⟨i412_ok, trivial, trivial⟩⟩, ⟨i220_ok, ⟨i348_ok, trivial, trivial⟩, trivial⟩⟩, ⟨i124_ok, ⟨i188_ok, ⟨i316_ok, trivial, trivial⟩, ⟨i444_ok, trivial, trivial⟩⟩, ⟨i252_ok, ⟨i380_ok, trivial, trivial⟩, trivial⟩⟩⟩⟩⟩⟩, ⟨i6_ok, ⟨i10_ok, ⟨i18_ok, ⟨i34_ok, ⟨i66_ok, ⟨i130_ok, ⟨i258_ok, trivial, trivial⟩, ⟨i386_ok, trivial, trivial⟩⟩, ⟨i194_ok, ⟨i322_ok, trivial, trivial⟩, ⟨i450_ok, trivial, trivial⟩⟩⟩, ⟨i98_ok, ⟨i162_ok, ⟨i290_ok, trivial, trivial⟩, ⟨i418_ok, trivial, trivial⟩⟩, ⟨i226_ok, ⟨i354_ok, trivial, trivial⟩, trivial⟩⟩⟩, ⟨i50_ok, ⟨trivial, ⟨i146_ok, ⟨i274_ok, trivial, trivial⟩, ⟨i402_ok, trivial, trivial⟩⟩, ⟨i210_ok, ⟨i338_ok, trivial, trivial⟩, ⟨i466_ok, trivial, trivial⟩⟩⟩, ⟨i114_ok, ⟨i178_ok, ⟨i306_ok, trivial, trivial⟩, ⟨i434_ok, trivial, trivial⟩⟩, ⟨i242_ok, ⟨i370_ok, trivial, trivial⟩, trivial⟩⟩⟩⟩, ⟨i26_ok, ⟨trivial, ⟨i74_ok, ⟨i138_ok, ⟨i266_ok, trivial, trivial⟩, ⟨i394_ok, trivial, trivial⟩⟩, ⟨i202_ok, trivial, ⟨i458_ok, trivial, trivial⟩⟩⟩, ⟨i106_ok, ⟨trivial, trivial, ⟨i426_ok, trivial, trivial⟩⟩, ⟨i234_ok, ⟨i362_ok, trivial, trivial⟩, trivial⟩⟩⟩, ⟨i58_ok, ⟨i90_ok, ⟨trivial, trivial, ⟨i410_ok, trivial, trivial⟩⟩, ⟨i218_ok, ⟨i346_ok, trivial, trivial⟩, trivial⟩⟩, ⟨i122_ok, ⟨i186_ok, ⟨i314_ok, trivial, trivial⟩, ⟨i442_ok, trivial, trivial⟩⟩, ⟨i250_ok, trivial, trivial⟩⟩⟩⟩⟩, ⟨i14_ok, ⟨i22_ok, ⟨i38_ok, ⟨i70_ok, ⟨trivial, ⟨i262_ok, trivial, trivial⟩, ⟨i390_ok, trivial, trivial⟩⟩, ⟨i198_ok, ⟨i326_ok, trivial, trivial⟩, ⟨i454_ok, trivial, trivial⟩⟩⟩, ⟨i102_ok, ⟨i166_ok, ⟨i294_ok, trivial, trivial⟩, ⟨i422_ok, trivial, trivial⟩⟩, ⟨i230_ok, ⟨i358_ok, trivial, trivial⟩, trivial⟩⟩⟩, ⟨i54_ok, ⟨i86_ok, ⟨i150_ok, ⟨i278_ok, trivial, trivial⟩, ⟨i406_ok, trivial, trivial⟩⟩, ⟨trivial, ⟨i342_ok, trivial, trivial⟩, ⟨i470_ok, trivial, trivial⟩⟩⟩, ⟨i118_ok, ⟨i182_ok, ⟨i310_ok, trivial, trivial⟩, ⟨i438_ok, trivial, trivial⟩⟩, ⟨i246_ok, ⟨i374_ok, trivial, trivial⟩, trivial⟩⟩⟩⟩, ⟨i30_ok, ⟨i46_ok, ⟨i78_ok, ⟨i142_ok, ⟨i270_ok, trivial, trivial⟩, ⟨i398_ok, trivial, trivial⟩⟩, ⟨i206_ok, ⟨i334_ok, trivial, trivial⟩, ⟨i462_ok, trivial, trivial⟩⟩⟩, ⟨i110_ok, ⟨i174_ok, ⟨i302_ok, trivial, trivial⟩, ⟨i430_ok, trivial, trivial⟩⟩, ⟨i238_ok, ⟨i366_ok, trivial, trivial⟩, trivial⟩⟩⟩, ⟨trivial, ⟨i94_ok, ⟨i158_ok, ⟨i286_ok, trivial, trivial⟩, ⟨i414_ok, trivial, trivial⟩⟩, ⟨i222_ok, ⟨i350_ok, trivial, trivial⟩, trivial⟩⟩, ⟨i126_ok, ⟨i190_ok, ⟨i318_ok, trivial, trivial⟩, ⟨i446_ok, trivial, trivial⟩⟩, ⟨i254_ok, ⟨i382_ok, trivial, trivial⟩, trivial⟩⟩⟩⟩⟩⟩⟩⟩) h
noncomputable def ftab : T Func := (.node (.node (.node (.node (.node (.node (.node (.node (.node .leaf (some Tryz.f255) .leaf) (some Tryz.f127) .leaf) (some Tryz.f63) (.node (.node .leaf (some Tryz.f319) .leaf) (some Tryz.f191) .leaf)) (some Tryz.f31) (.node (.node (.node .leaf (some Tryz.f287) .leaf) (some Tryz.f159) .leaf) (some Tryz.f95) (.node .leaf (some Tryz.f223) .leaf))) (some Tryz.f15) (.node (.node (.node (.node .leaf (some Tryz.f271) .leaf) (some Tryz.f143) .leaf) (some Tryz.f79) (.node .leaf (some Tryz.f207) .leaf)) (some Tryz.f47) (.node (.node (.node .leaf (some Tryz.f303) .leaf) (some Tryz.f175) .leaf) (some Tryz.f111) (.node .leaf (some Tryz.f239) .leaf)))) (some Tryz.f7) (.node (.node (.node (.node (.node .leaf (some Tryz.f263) .leaf) (some Tryz.f135) .leaf) (some Tryz.f71) (.node (.node .leaf (some Tryz.f327) .leaf) (some Tryz.f199) .leaf)) (some Tryz.f39) (.node (.node (.node .leaf (some Tryz.f295) .leaf) (some Tryz.f167) .leaf) (some Tryz.f103) (.node .leaf (some Tryz.f231) .leaf))) (some Tryz.f23) (.node (.node (.node (.node .leaf (some Tryz.f279) .leaf) (some Tryz.f151) .leaf) (some Tryz.f87) (.node .leaf (some Tryz.f215) .leaf)) (some Tryz.f55) (.node (.node (.node .leaf (some Tryz.f311) .leaf) (some Tryz.f183) .leaf) (some Tryz.f119) (.node .leaf (some Tryz.f247) .leaf))))) (some Tryz.f3) (.node (.node (.node (.node (.node (.node .leaf (some Tryz.f259) .leaf) (some Tryz.f131) .leaf) (some Tryz.f67) (.node (.node .leaf (some Tryz.f323) .leaf) (some Tryz.f195) .leaf)) (some Tryz.f35) (.node (.node (.node .leaf (some Tryz.f291) .leaf) (some Tryz.f163) .leaf) (some Tryz.f99) (.node .leaf (some Tryz.f227) .leaf))) (some Tryz.f19) (.node (.node (.node (.node .leaf (some Tryz.f275) .leaf) (some Tryz.f147) .leaf) (some Tryz.f83) (.node .leaf (some Tryz.f211) .leaf)) (some Tryz.f51) (.node (.node (.node .leaf (some Tryz.f307) .leaf) (some Tryz.f179) .leaf) (some Tryz.f115) (.node .leaf (some Tryz.f243) .leaf)))) (some Tryz.f11) (.node (.node (.node (.node (.node .leaf (some Tryz.f267) .leaf) (some Tryz.f139) .leaf) (some Tryz.f75) (.node (.node .leaf (some Tryz.f331) .leaf) (some Tryz.f203) .leaf)) (some Tryz.f43) (.node (.node (.node .leaf (some Tryz.f299) .leaf) (some Tryz.f171) .leaf) (some Tryz.f107) (.node .leaf (some Tryz.f235) .leaf))) (some Tryz.f27) (.node (.node (.node (.node .leaf (some Tryz.f283) .leaf) (some Tryz.f155) .leaf) (some Tryz.f91) (.node .leaf (some Tryz.f219) .leaf)) (some Tryz.f59) (.node (.node (.node .leaf (some Tryz.f315) .leaf) (some Tryz.f187) .leaf) (some Tryz.f123) (.node .leaf (some Tryz.f251) .leaf)))))) none (.node (.node (.node (.node (.node (.node (.node .leaf (some Tryz.f257) .leaf) (some Tryz.f129) .leaf) (some Tryz.f65) (.node (.node .leaf (some Tryz.f321) .leaf) (some Tryz.f193) .leaf)) (some Tryz.f33) (.node (.node (.node .leaf (some Tryz.f289) .leaf) (some Tryz.f161) .leaf) (some Tryz.f97) (.node .leaf (some Tryz.f225) .leaf))) (some Tryz.f17) (.node (.node (.node (.node .leaf (some Tryz.f273) .leaf) (some Tryz.f145) .leaf) (some Tryz.f81) (.node .leaf (some Tryz.f209) .leaf)) (some Tryz.f49) (.node (.node (.node .leaf (some Tryz.f305) .leaf) (some Tryz.f177) .leaf) (some Tryz.f113) (.node .leaf (some Tryz.f241) .leaf)))) (some Tryz.f9) (.node (.node (.node (.node (.node .leaf (some Tryz.f265) .leaf) (some Tryz.f137) .leaf) (some Tryz.f73) (.node (.node .leaf (some Tryz.f329) .leaf) (some Tryz.f201) .leaf)) (some Tryz.f41) (.node (.node (.node .leaf (some Tryz.f297) .leaf) none .leaf) (some Tryz.f105) (.node (.node .leaf (some Tryz.f361) .leaf) (some Tryz.f233) .leaf))) (some Tryz.f25) (.node (.node (.node (.node .leaf (some Tryz.f281) .leaf) (some Tryz.f153) .leaf) (some Tryz.f89) (.node .leaf (some Tryz.f217) .leaf)) (some Tryz.f57) (.node (.node (.node .leaf (some Tryz.f313) .leaf) (some Tryz.f185) .leaf) (some Tryz.f121) (.node .leaf (some Tryz.f249) .leaf))))) (some Tryz.f5) (.node (.node (.node (.node (.node (.node .leaf (some Tryz.f261) .leaf) (some Tryz.f133) .leaf) (some Tryz.f69) (.node (.node .leaf (some Tryz.f325) .leaf) (some Tryz.f197) .leaf)) (some Tryz.f37) (.node (.node (.node .leaf (some Tryz.f293) .leaf) (some Tryz.f165) .leaf) (some Tryz.f101) (.node .leaf (some Tryz.f229) .leaf))) (some Tryz.f21) (.node (.node (.node (.node .leaf (some Tryz.f277) .leaf) (some Tryz.f149) .leaf) (some Tryz.f85) (.node .leaf (some Tryz.f213) .leaf)) (some Tryz.f53) (.node (.node (.node .leaf (some Tryz.f309) .leaf) (some Tryz.f181) .leaf) (some Tryz.f117) (.node .leaf (some Tryz.f245) .leaf)))) (some Tryz.f13) (.node (.node (.node (.node (.node .leaf (some Tryz.f269) .leaf) none .leaf) (some Tryz.f77) (.node (.node .leaf (some Tryz.f333) .leaf) none .leaf)) (some Tryz.f45) (.node (.node (.node .leaf (some Tryz.f301) .leaf) (some Tryz.f173) .leaf) (some Tryz.f109) (.node .leaf (some Tryz.f237) .leaf))) (some Tryz.f29) (.node (.node (.node (.node .leaf (some Tryz.f285) .leaf) (some Tryz.f157) .leaf) (some Tryz.f93) (.node .leaf (some Tryz.f221) .leaf)) (some Tryz.f61) (.node (.node (.node .leaf (some Tryz.f317) .leaf) (some Tryz.f189) .leaf) (some Tryz.f125) (.node .leaf (some Tryz.f253) .leaf))))))) none (.node (.node (.node (.node (.node (.node (.node (.node .leaf (some Tryz.f256) .leaf) (some Tryz.f128) .leaf) (some Tryz.f64) (.node (.node .leaf (some Tryz.f320) .leaf) (some Tryz.f192) .leaf)) (some Tryz.f32) (.node (.node (.node .leaf (some Tryz.f288) .leaf) (some Tryz.f160) .leaf) (some Tryz.f96) (.node .leaf (some Tryz.f224) .leaf))) (some Tryz.f16) (.node (.node (.node (.node .leaf (some Tryz.f272) .leaf) (some Tryz.f144) .leaf) (some Tryz.f80) (.node .leaf (some Tryz.f208) .leaf)) (some Tryz.f48) (.node (.node (.node .leaf (some Tryz.f304) .leaf) (some Tryz.f176) .leaf) (some Tryz.f112) .leaf))) (some Tryz.f8) (.node (.node (.node (.node (.node .leaf (some Tryz.f264) .leaf) (some Tryz.f136) .leaf) (some Tryz.f72) (.node (.node .leaf (some Tryz.f328) .leaf) (some Tryz.f200) .leaf)) (some Tryz.f40) (.node (.node (.node .leaf (some Tryz.f296) .leaf) (some Tryz.f168) .leaf) (some Tryz.f104) (.node .leaf (some Tryz.f232) .leaf))) (some Tryz.f24) (.node (.node (.node (.node .leaf (some Tryz.f280) .leaf) (some Tryz.f152) .leaf) (some Tryz.f88) (.node .leaf (some Tryz.f216) .leaf)) (some Tryz.f56) (.node (.node (.node .leaf (some Tryz.f312) .leaf) (some Tryz.f184) .leaf) (some Tryz.f120) (.node .leaf (some Tryz.f248) .leaf))))) (some Tryz.f4) (.node (.node (.node (.node (.node (.node .leaf (some Tryz.f260) .leaf) (some Tryz.f132) .leaf) (some Tryz.f68) (.node (.node .leaf (some Tryz.f324) .leaf) (some Tryz.f196) .leaf)) (some Tryz.f36) (.node (.node (.node .leaf (some Tryz.f292) .leaf) (some Tryz.f164) .leaf) (some Tryz.f100) (.node .leaf (some Tryz.f228) .leaf))) (some Tryz.f20) (.node (.node (.node (.node .leaf (some Tryz.f276) .leaf) none .leaf) (some Tryz.f84) (.node .leaf (some Tryz.f212) .leaf)) (some Tryz.f52) (.node (.node (.node .leaf (some Tryz.f308) .leaf) (some Tryz.f180) .leaf) (some Tryz.f116) (.node .leaf (some Tryz.f244) .leaf)))) (some Tryz.f12) (.node (.node (.node (.node (.node .leaf (some Tryz.f268) .leaf) (some Tryz.f140) .leaf) (some Tryz.f76) (.node (.node .leaf (some Tryz.f332) .leaf) (some Tryz.f204) .leaf)) (some Tryz.f44) (.node (.node (.node .leaf (some Tryz.f300) .leaf) (some Tryz.f172) .leaf) (some Tryz.f108) (.node .leaf (some Tryz.f236) .leaf))) (some Tryz.f28) (.node (.node (.node (.node .leaf (some Tryz.f284) .leaf) (some Tryz.f156) .leaf) (some Tryz.f92) (.node .leaf (some Tryz.f220) .leaf)) (some Tryz.f60) (.node (.node (.node .leaf (some Tryz.f316) .leaf) (some Tryz.f188) .leaf) (some Tryz.f124) (.node .leaf (some Tryz.f252) .leaf)))))) (some Tryz.f2) (.node (.node (.node (.node (.node (.node (.node .leaf (some Tryz.f258) .leaf) (some Tryz.f130) .leaf) (some Tryz.f66) (.node (.node .leaf (some Tryz.f322) .leaf) (some Tryz.f194) .leaf)) (some Tryz.f34) (.node (.node (.node .leaf (some Tryz.f290) .leaf) (some Tryz.f162) .leaf) (some Tryz.f98) (.node .leaf (some Tryz.f226) .leaf))) (some Tryz.f18) (.node (.node (.node (.node .leaf (some Tryz.f274) .leaf) none .leaf) (some Tryz.f82) (.node .leaf (some Tryz.f210) .leaf)) (some Tryz.f50) (.node (.node (.node .leaf (some Tryz.f306) .leaf) (some Tryz.f178) .leaf) (some Tryz.f114) (.node .leaf (some Tryz.f242) .leaf)))) (some Tryz.f10) (.node (.node (.node (.node (.node .leaf (some Tryz.f266) .leaf) (some Tryz.f138) .leaf) (some Tryz.f74) (.node (.node .leaf (some Tryz.f330) .leaf) (some Tryz.f202) .leaf)) (some Tryz.f42) (.node (.node (.node .leaf (some Tryz.f298) .leaf) (some Tryz.f170) .leaf) (some Tryz.f106) (.node .leaf (some Tryz.f234) .leaf))) (some Tryz.f26) (.node (.node (.node (.node .leaf (some Tryz.f282) .leaf) (some Tryz.f154) .leaf) (some Tryz.f90) (.node .leaf (some Tryz.f218) .leaf)) (some Tryz.f58) (.node (.node (.node .leaf (some Tryz.f314) .leaf) (some Tryz.f186) .leaf) (some Tryz.f122) (.node .leaf (some Tryz.f250) .leaf))))) (some Tryz.f6) (.node (.node (.node (.node (.node (.node .leaf (some Tryz.f262) .leaf) (some Tryz.f134) .leaf) (some Tryz.f70) (.node (.node .leaf (some Tryz.f326) .leaf) (some Tryz.f198) .leaf)) (some Tryz.f38) (.node (.node (.node .leaf (some Tryz.f294) .leaf) (some Tryz.f166) .leaf) (some Tryz.f102) (.node .leaf (some Tryz.f230) .leaf))) (some Tryz.f22) (.node (.node (.node (.node .leaf (some Tryz.f278) .leaf) (some Tryz.f150) .leaf) (some Tryz.f86) (.node .leaf (some Tryz.f214) .leaf)) (some Tryz.f54) (.node (.node (.node .leaf (some Tryz.f310) .leaf) (some Tryz.f182) .leaf) (some Tryz.f118) (.node .leaf (some Tryz.f246) .leaf)))) (some Tryz.f14) (.node (.node (.node (.node (.node .leaf (some Tryz.f270) .leaf) (some Tryz.f142) .leaf) (some Tryz.f78) (.node (.node .leaf (some Tryz.f334) .leaf) (some Tryz.f206) .leaf)) (some Tryz.f46) (.node (.node (.node .leaf (some Tryz.f302) .leaf) (some Tryz.f174) .leaf) (some Tryz.f110) (.node .leaf (some Tryz.f238) .leaf))) (some Tryz.f30) (.node (.node (.node (.node .leaf (some Tryz.f286) .leaf) (some Tryz.f158) .leaf) (some Tryz.f94) (.node .leaf (some Tryz.f222) .leaf)) (some Tryz.f62) (.node (.node (.node .leaf (some Tryz.f318) .leaf) (some Tryz.f190) .leaf) (some Tryz.f126) (.node .leaf (some Tryz.f254) .leaf))))))))
set_option maxHeartbeats 4000000 in
theorem ftab_ok : ∀ f fn, ftab.get f = some fn → fnOk Tryz.prog f fn := fun _ _ h => T.all_get (f := fun k => k) (Q := fnOk Tryz.prog) (show T.All _ ftab _ from ⟨trivial, ⟨trivial, ⟨⟨Tryz.func3, Tryz.call3⟩, ⟨⟨Tryz.func7, Tryz.call7⟩, ⟨⟨Tryz.func15, Tryz.call15⟩, ⟨⟨Tryz.func31, Tryz.call31⟩, ⟨⟨Tryz.func63, Tryz.call63⟩, ⟨⟨Tryz.func127, Tryz.call127⟩, ⟨⟨Tryz.func255, Tryz.call255⟩, trivial, trivial⟩, trivial⟩, ⟨⟨Tryz.func191, Tryz.call191⟩, ⟨⟨Tryz.func319, Tryz.call319⟩, trivial, trivial⟩, trivial⟩⟩, ⟨⟨Tryz.func95, Tryz.call95⟩, ⟨⟨Tryz.func159, Tryz.call159⟩, ⟨⟨Tryz.func287, Tryz.call287⟩, trivial, trivial⟩, trivial⟩, ⟨⟨Tryz.func223, Tryz.call223⟩, trivial, trivial⟩⟩⟩, ⟨⟨Tryz.func47, Tryz.call47⟩, ⟨⟨Tryz.func79, Tryz.call79⟩, ⟨⟨Tryz.func143, Tryz.call143⟩, ⟨⟨Tryz.func271, Tryz.call271⟩, trivial, trivial⟩, trivial⟩, ⟨⟨Tryz.func207, Tryz.call207⟩, trivial, trivial⟩⟩, ⟨⟨Tryz.func111, Tryz.call111⟩, ⟨⟨Tryz.func175, Tryz.call175⟩, ⟨⟨Tryz.func303, Tryz.call303⟩, trivial, trivial⟩, trivial⟩, ⟨⟨Tryz.func239, Tryz.call239⟩, trivial, trivial⟩⟩⟩⟩, ⟨⟨Tryz.func23, Tryz.call23⟩, ⟨⟨Tryz.func39, Tryz.call39⟩, ⟨⟨Tryz.func71, Tryz.call71⟩, ⟨⟨Tryz.func135, Tryz.call135⟩, ⟨⟨Tryz.func263, Tryz.call263⟩, trivial, trivial⟩, trivial⟩, ⟨⟨Tryz.func199, Tryz.call199⟩, ⟨⟨Tryz.func327, Tryz.call327⟩, trivial, trivial⟩, trivial⟩⟩, ⟨⟨Tryz.func103, Tryz.call103⟩, ⟨⟨Tryz.func167, Tryz.call167⟩, ⟨⟨Tryz.func295, Tryz.call295⟩, trivial, trivial⟩, trivial⟩, ⟨⟨Tryz.func231, Tryz.call231⟩, trivial, trivial⟩⟩⟩, ⟨⟨Tryz.func55, Tryz.call55⟩, ⟨⟨Tryz.func87, Tryz.call87⟩, ⟨⟨Tryz.func151, Tryz.call151⟩, ⟨⟨Tryz.func279, Tryz.call279⟩, trivial, trivial⟩, trivial⟩, ⟨⟨Tryz.func215, Tryz.call215⟩, trivial, trivial⟩⟩, ⟨⟨Tryz.func119, Tryz.call119⟩, ⟨⟨Tryz.func183, Tryz.call183⟩, ⟨⟨Tryz.func311, Tryz.call311⟩, trivial, trivial⟩, trivial⟩, ⟨⟨Tryz.func247, Tryz.call247⟩, trivial, trivial⟩⟩⟩⟩⟩, ⟨⟨Tryz.func11, Tryz.call11⟩, ⟨⟨Tryz.func19, Tryz.call19⟩, ⟨⟨Tryz.func35, Tryz.call35⟩, ⟨⟨Tryz.func67, Tryz.call67⟩, ⟨⟨Tryz.func131, Tryz.call131⟩, ⟨⟨Tryz.func259, Tryz.call259⟩, trivial, trivial⟩, trivial⟩, ⟨⟨Tryz.func195, Tryz.call195⟩, ⟨⟨Tryz.func323, Tryz.call323⟩, trivial, trivial⟩, trivial⟩⟩, ⟨⟨Tryz.func99, Tryz.call99⟩, ⟨⟨Tryz.func163, Tryz.call163⟩, ⟨⟨Tryz.func291, Tryz.call291⟩, trivial, trivial⟩, trivial⟩, ⟨⟨Tryz.func227, Tryz.call227⟩, trivial, trivial⟩⟩⟩, ⟨⟨Tryz.func51, Tryz.call51⟩, ⟨⟨Tryz.func83, Tryz.call83⟩, ⟨⟨Tryz.func147, Tryz.call147⟩, ⟨⟨Tryz.func275, Tryz.call275⟩, trivial, trivial⟩, trivial⟩, ⟨⟨Tryz.func211, Tryz.call211⟩, trivial, trivial⟩⟩, ⟨⟨Tryz.func115, Tryz.call115⟩, ⟨⟨Tryz.func179, Tryz.call179⟩, ⟨⟨Tryz.func307, Tryz.call307⟩, trivial, trivial⟩, trivial⟩, ⟨⟨Tryz.func243, Tryz.call243⟩, trivial, trivial⟩⟩⟩⟩, ⟨⟨Tryz.func27, Tryz.call27⟩, ⟨⟨Tryz.func43, Tryz.call43⟩, ⟨⟨Tryz.func75, Tryz.call75⟩, ⟨⟨Tryz.func139, Tryz.call139⟩, ⟨⟨Tryz.func267, Tryz.call267⟩, trivial, trivial⟩, trivial⟩, ⟨⟨Tryz.func203, Tryz.call203⟩, ⟨⟨Tryz.func331, Tryz.call331⟩, trivial, trivial⟩, trivial⟩⟩, ⟨⟨Tryz.func107, Tryz.call107⟩, ⟨⟨Tryz.func171, Tryz.call171⟩, ⟨⟨Tryz.func299, Tryz.call299⟩, trivial, trivial⟩, trivial⟩, ⟨⟨Tryz.func235, Tryz.call235⟩, trivial, trivial⟩⟩⟩, ⟨⟨Tryz.func59, Tryz.call59⟩, ⟨⟨Tryz.func91, Tryz.call91⟩, ⟨⟨Tryz.func155, Tryz.call155⟩, ⟨⟨Tryz.func283, Tryz.call283⟩, trivial, trivial⟩, trivial⟩, ⟨⟨Tryz.func219, Tryz.call219⟩, trivial, trivial⟩⟩, ⟨⟨Tryz.func123, Tryz.call123⟩, ⟨⟨Tryz.func187, Tryz.call187⟩, ⟨⟨Tryz.func315, Tryz.call315⟩, trivial, trivial⟩, trivial⟩, ⟨⟨Tryz.func251, Tryz.call251⟩, trivial, trivial⟩⟩⟩⟩⟩⟩, ⟨⟨Tryz.func5, Tryz.call5⟩, ⟨⟨Tryz.func9, Tryz.call9⟩, ⟨⟨Tryz.func17, Tryz.call17⟩, ⟨⟨Tryz.func33, Tryz.call33⟩, ⟨⟨Tryz.func65, Tryz.call65⟩, ⟨⟨Tryz.func129, Tryz.call129⟩, ⟨⟨Tryz.func257, Tryz.call257⟩, trivial, trivial⟩, trivial⟩, ⟨⟨Tryz.func193, Tryz.call193⟩, ⟨⟨Tryz.func321, Tryz.call321⟩, trivial, trivial⟩, trivial⟩⟩, ⟨⟨Tryz.func97, Tryz.call97⟩, ⟨⟨Tryz.func161, Tryz.call161⟩, ⟨⟨Tryz.func289, Tryz.call289⟩, trivial, trivial⟩, trivial⟩, ⟨⟨Tryz.func225, Tryz.call225⟩, trivial, trivial⟩⟩⟩, ⟨⟨Tryz.func49, Tryz.call49⟩, ⟨⟨Tryz.func81, Tryz.call81⟩, ⟨⟨Tryz.func145, Tryz.call145⟩, ⟨⟨Tryz.func273, Tryz.call273⟩, trivial, trivial⟩, trivial⟩, ⟨⟨Tryz.func209, Tryz.call209⟩, trivial, trivial⟩⟩, ⟨⟨Tryz.func113, Tryz.call113⟩, ⟨⟨Tryz.func177, Tryz.call177⟩, ⟨⟨Tryz.func305, Tryz.call305⟩, trivial, trivial⟩, trivial⟩, ⟨⟨Tryz.func241, Tryz.call241⟩, trivial, trivial⟩⟩⟩⟩, ⟨⟨Tryz.func25, Tryz.call25⟩, ⟨⟨Tryz.func41, Tryz.call41⟩, ⟨⟨Tryz.func73, Tryz.call73⟩, ⟨⟨Tryz.func137, Tryz.call137⟩, ⟨⟨Tryz.func265, Tryz.call265⟩, trivial, trivial⟩, trivial⟩, ⟨⟨Tryz.func201, Tryz.call201⟩, ⟨⟨Tryz.func329, Tryz.call329⟩, trivial, trivial⟩, trivial⟩⟩, ⟨⟨Tryz.func105, Tryz.call105⟩, ⟨trivial, ⟨⟨Tryz.func297, Tryz.call297⟩, trivial, trivial⟩, trivial⟩, ⟨⟨Tryz.func233, Tryz.call233⟩, ⟨⟨Tryz.func361, Tryz.call361⟩, trivial, trivial⟩, trivial⟩⟩⟩, ⟨⟨Tryz.func57, Tryz.call57⟩, ⟨⟨Tryz.func89, Tryz.call89⟩, ⟨⟨Tryz.func153, Tryz.call153⟩, ⟨⟨Tryz.func281, Tryz.call281⟩, trivial, trivial⟩, trivial⟩, ⟨⟨Tryz.func217, Tryz.call217⟩, trivial, trivial⟩⟩, ⟨⟨Tryz.func121, Tryz.call121⟩, ⟨⟨Tryz.func185, Tryz.call185⟩, ⟨⟨Tryz.func313, Tryz.call313⟩, trivial, trivial⟩, trivial⟩, ⟨⟨Tryz.func249, Tryz.call249⟩, trivial, trivial⟩⟩⟩⟩⟩, ⟨⟨Tryz.func13, Tryz.call13⟩, ⟨⟨Tryz.func21, Tryz.call21⟩, ⟨⟨Tryz.func37, Tryz.call37⟩, ⟨⟨Tryz.func69, Tryz.call69⟩, ⟨⟨Tryz.func133, Tryz.call133⟩, ⟨⟨Tryz.func261, Tryz.call261⟩, trivial, trivial⟩, trivial⟩, ⟨⟨Tryz.func197, Tryz.call197⟩, ⟨⟨Tryz.func325, Tryz.call325⟩, trivial, trivial⟩, trivial⟩⟩, ⟨⟨Tryz.func101, Tryz.call101⟩, ⟨⟨Tryz.func165, Tryz.call165⟩, ⟨⟨Tryz.func293, Tryz.call293⟩, trivial, trivial⟩, trivial⟩, ⟨⟨Tryz.func229, Tryz.call229⟩, trivial, trivial⟩⟩⟩, ⟨⟨Tryz.func53, Tryz.call53⟩, ⟨⟨Tryz.func85, Tryz.call85⟩, ⟨⟨Tryz.func149, Tryz.call149⟩, ⟨⟨Tryz.func277, Tryz.call277⟩, trivial, trivial⟩, trivial⟩, ⟨⟨Tryz.func213, Tryz.call213⟩, trivial, trivial⟩⟩, ⟨⟨Tryz.func117, Tryz.call117⟩, ⟨⟨Tryz.func181, Tryz.call181⟩, ⟨⟨Tryz.func309, Tryz.call309⟩, trivial, trivial⟩, trivial⟩, ⟨⟨Tryz.func245, Tryz.call245⟩, trivial, trivial⟩⟩⟩⟩, ⟨⟨Tryz.func29, Tryz.call29⟩, ⟨⟨Tryz.func45, Tryz.call45⟩, ⟨⟨Tryz.func77, Tryz.call77⟩, ⟨trivial, ⟨⟨Tryz.func269, Tryz.call269⟩, trivial, trivial⟩, trivial⟩, ⟨trivial, ⟨⟨Tryz.func333, Tryz.call333⟩, trivial, trivial⟩, trivial⟩⟩, ⟨⟨Tryz.func109, Tryz.call109⟩, ⟨⟨Tryz.func173, Tryz.call173⟩, ⟨⟨Tryz.func301, Tryz.call301⟩, trivial, trivial⟩, trivial⟩, ⟨⟨Tryz.func237, Tryz.call237⟩, trivial, trivial⟩⟩⟩, ⟨⟨Tryz.func61, Tryz.call61⟩, ⟨⟨Tryz.func93, Tryz.call93⟩, ⟨⟨Tryz.func157, Tryz.call157⟩, ⟨⟨Tryz.func285, Tryz.call285⟩, trivial, trivial⟩, trivial⟩, ⟨⟨Tryz.func221, Tryz.call221⟩, trivial, trivial⟩⟩, ⟨⟨Tryz.func125, Tryz.call125⟩, ⟨⟨Tryz.func189, Tryz.call189⟩, ⟨⟨Tryz.func317, Tryz.call317⟩, trivial, trivial⟩, trivial⟩, ⟨⟨Tryz.func253, Tryz.call253⟩, trivial, trivial⟩⟩⟩⟩⟩⟩⟩, ⟨⟨Tryz.func2, Tryz.call2⟩, ⟨⟨Tryz.func4, Tryz.call4⟩, ⟨⟨Tryz.func8, Tryz.call8⟩, ⟨⟨Tryz.func16, Tryz.call16⟩, ⟨⟨Tryz.func32, Tryz.call32⟩, ⟨⟨Tryz.func64, Tryz.call64⟩, ⟨⟨Tryz.func128, Tryz.call128⟩, ⟨⟨Tryz.func256, Tryz.call256⟩, trivial, trivial⟩, trivial⟩, ⟨⟨Tryz.func192, Tryz.call192⟩, ⟨⟨Tryz.func320, Tryz.call320⟩, trivial, trivial⟩, trivial⟩⟩, ⟨⟨Tryz.func96, Tryz.call96⟩, ⟨⟨Tryz.func160, Tryz.call160⟩, ⟨⟨Tryz.func288, Tryz.call288⟩, trivial, trivial⟩, trivial⟩, ⟨⟨Tryz.func224, Tryz.call224⟩, trivial, trivial⟩⟩⟩, ⟨⟨Tryz.func48, Tryz.call48⟩, ⟨⟨Tryz.func80, Tryz.call80⟩, ⟨⟨Tryz.func144, Tryz.call144⟩, ⟨⟨Tryz.func272, Tryz.call272⟩, trivial, trivial⟩, trivial⟩, ⟨⟨Tryz.func208, Tryz.call208⟩, trivial, trivial⟩⟩, ⟨⟨Tryz.func112, Tryz.call112⟩, ⟨⟨Tryz.func176, Tryz.call176⟩, ⟨⟨Tryz.func304, Tryz.call304⟩, trivial, trivial⟩, trivial⟩, trivial⟩⟩⟩, ⟨⟨Tryz.func24, Tryz.call24⟩, ⟨⟨Tryz.func40, Tryz.call40⟩, ⟨⟨Tryz.func72, Tryz.call72⟩, ⟨⟨Tryz.func136, Tryz.call136⟩, ⟨⟨Tryz.func264, Tryz.call264⟩, trivial, trivial⟩, trivial⟩, ⟨⟨Tryz.func200, Tryz.call200⟩, ⟨⟨Tryz.func328, Tryz.call328⟩, trivial, trivial⟩, trivial⟩⟩, ⟨⟨Tryz.func104, Tryz.call104⟩, ⟨⟨Tryz.func168, Tryz.call168⟩, ⟨⟨Tryz.func296, Tryz.call296⟩, trivial, trivial⟩, trivial⟩, ⟨⟨Tryz.func232, Tryz.call232⟩, trivial, trivial⟩⟩⟩, ⟨⟨Tryz.func56, Tryz.call56⟩, ⟨⟨Tryz.func88, Tryz.call88⟩, ⟨⟨Tryz.func152, Tryz.call152⟩, ⟨⟨Tryz.func280, Tryz.call280⟩, trivial, trivial⟩, trivial⟩, ⟨⟨Tryz.func216, Tryz.call216⟩, trivial, trivial⟩⟩, ⟨⟨Tryz.func120, Tryz.call120⟩, ⟨⟨Tryz.func184, Tryz.call184⟩, ⟨⟨Tryz.func312, Tryz.call312⟩, trivial, trivial⟩, trivial⟩, ⟨⟨Tryz.func248, Tryz.call248⟩, trivial, trivial⟩⟩⟩⟩⟩, ⟨⟨Tryz.func12, Tryz.call12⟩, ⟨⟨Tryz.func20, Tryz.call20⟩, ⟨⟨Tryz.func36, Tryz.call36⟩, ⟨⟨Tryz.func68, Tryz.call68⟩, ⟨⟨Tryz.func132, Tryz.call132⟩, ⟨⟨Tryz.func260, Tryz.call260⟩, trivial, trivial⟩, trivial⟩, ⟨⟨Tryz.func196, Tryz.call196⟩, ⟨⟨Tryz.func324, Tryz.call324⟩, trivial, trivial⟩, trivial⟩⟩, ⟨⟨Tryz.func100, Tryz.call100⟩, ⟨⟨Tryz.func164, Tryz.call164⟩, ⟨⟨Tryz.func292, Tryz.call292⟩, trivial, trivial⟩, trivial⟩, ⟨⟨Tryz.func228, Tryz.call228⟩, trivial, trivial⟩⟩⟩, ⟨⟨Tryz.func52, Tryz.call52⟩, ⟨⟨Tryz.func84, Tryz.call84⟩, ⟨trivial, ⟨⟨Tryz.func276, Tryz.call276⟩, trivial, trivial⟩, trivial⟩, ⟨⟨Tryz.func212, Tryz.call212⟩, trivial, trivial⟩⟩, ⟨⟨Tryz.func116, Tryz.call116⟩, ⟨⟨Tryz.func180, Tryz.call180⟩, ⟨⟨Tryz.func308, Tryz.call308⟩, trivial, trivial⟩, trivial⟩, ⟨⟨Tryz.func244, Tryz.call244⟩, trivial, trivial⟩⟩⟩⟩, ⟨⟨Tryz.func28, Tryz.call28⟩, ⟨⟨Tryz.func44, Tryz.call44⟩, ⟨⟨Tryz.func76, Tryz.call76⟩, ⟨⟨Tryz.func140, Tryz.call140⟩, ⟨⟨Tryz.func268, Tryz.call268⟩, trivial, trivial⟩, trivial⟩, ⟨⟨Tryz.func204, Tryz.call204⟩, ⟨⟨Tryz.func332, Tryz.call332⟩, trivial, trivial⟩, trivial⟩⟩, ⟨⟨Tryz.func108, Tryz.call108⟩, ⟨⟨Tryz.func172, Tryz.call172⟩, ⟨⟨Tryz.func300, Tryz.call300⟩, trivial, trivial⟩, trivial⟩, ⟨⟨Tryz.func236, Tryz.call236⟩, trivial, trivial⟩⟩⟩, ⟨⟨Tryz.func60, Tryz.call60⟩, ⟨⟨Tryz.func92, Tryz.call92⟩, ⟨⟨Tryz.func156, Tryz.call156⟩, ⟨⟨Tryz.func284, Tryz.call284⟩, trivial, trivial⟩, trivial⟩, ⟨⟨Tryz.func220, Tryz.call220⟩, trivial, trivial⟩⟩, ⟨⟨Tryz.func124, Tryz.call124⟩, ⟨⟨Tryz.func188, Tryz.call188⟩, ⟨⟨Tryz.func316, Tryz.call316⟩, trivial, trivial⟩, trivial⟩, ⟨⟨Tryz.func252, Tryz.call252⟩, trivial, trivial⟩⟩⟩⟩⟩⟩, ⟨⟨Tryz.func6, Tryz.call6⟩, ⟨⟨Tryz.func10, Tryz.call10⟩, ⟨⟨Tryz.func18, Tryz.call18⟩, ⟨⟨Tryz.func34, Tryz.call34⟩, ⟨⟨Tryz.func66, Tryz.call66⟩, ⟨⟨Tryz.func130, Tryz.call130⟩, ⟨⟨Tryz.func258, Tryz.call258⟩, trivial, trivial⟩, trivial⟩, ⟨⟨Tryz.func194, Tryz.call194⟩, ⟨⟨Tryz.func322, Tryz.call322⟩, trivial, trivial⟩, trivial⟩⟩, ⟨⟨Tryz.func98, Tryz.call98⟩, ⟨⟨Tryz.func162, Tryz.call162⟩, ⟨⟨Tryz.func290, Tryz.call290⟩, trivial, trivial⟩, trivial⟩, ⟨⟨Tryz.func226, Tryz.call226⟩, trivial, trivial⟩⟩⟩, ⟨⟨Tryz.func50, Tryz.call50⟩, ⟨⟨Tryz.func82, Tryz.call82⟩, ⟨trivial, ⟨⟨Tryz.func274, Tryz.call274⟩, trivial, trivial⟩, trivial⟩, ⟨⟨Tryz.func210, Tryz.call210⟩, trivial, trivial⟩⟩, ⟨⟨Tryz.func114, Tryz.call114⟩, ⟨⟨Tryz.func178, Tryz.call178⟩, ⟨⟨Tryz.func306, Tryz.call306⟩, trivial, trivial⟩, trivial⟩, ⟨⟨Tryz.func242, Tryz.call242⟩, trivial, trivial⟩⟩⟩⟩, ⟨⟨Tryz.func26, Tryz.call26⟩, ⟨⟨Tryz.func42, Tryz.call42⟩, ⟨⟨Tryz.func74, Tryz.call74⟩, ⟨⟨Tryz.func138, Tryz.call138⟩, ⟨⟨Tryz.func266, Tryz.call266⟩, trivial, trivial⟩, trivial⟩, ⟨⟨Tryz.func202, Tryz.call202⟩, ⟨⟨Tryz.func330, Tryz.call330⟩, trivial, trivial⟩, trivial⟩⟩, ⟨⟨Tryz.func106, Tryz.call106⟩, ⟨⟨Tryz.func170, Tryz.call170⟩, ⟨⟨Tryz.func298, Tryz.call298⟩, trivial, trivial⟩, trivial⟩, ⟨⟨Tryz.func234, Tryz.call234⟩, trivial, trivial⟩⟩⟩, ⟨⟨Tryz.func58, Tryz.call58⟩, ⟨⟨Tryz.func90, Tryz.call90⟩, ⟨⟨Tryz.func154, Tryz.call154⟩, ⟨⟨Tryz.func282, Tryz.call282⟩, trivial, trivial⟩, trivial⟩, ⟨⟨Tryz.func218, Tryz.call218⟩, trivial, trivial⟩⟩, ⟨⟨Tryz.func122, Tryz.call122⟩, ⟨⟨Tryz.func186, Tryz.call186⟩, ⟨⟨Tryz.func314, Tryz.call314⟩, trivial, trivial⟩, trivial⟩, ⟨⟨Tryz.func250, Tryz.call250⟩, trivial, trivial⟩⟩⟩⟩⟩, ⟨⟨Tryz.func14, Tryz.call14⟩, ⟨⟨Tryz.func22, Tryz.call22⟩, ⟨⟨Tryz.func38, Tryz.call38⟩, ⟨⟨Tryz.func70, Tryz.call70⟩, ⟨⟨Tryz.func134, Tryz.call134⟩, ⟨⟨Tryz.func262, Tryz.call262⟩, trivial, trivial⟩, trivial⟩, ⟨⟨Tryz.func198, Tryz.call198⟩, ⟨⟨Tryz.func326, Tryz.call326⟩, trivial, trivial⟩, trivial⟩⟩, ⟨⟨Tryz.func102, Tryz.call102⟩, ⟨⟨Tryz.func166, Tryz.call166⟩, ⟨⟨Tryz.func294, Tryz.call294⟩, trivial, trivial⟩, trivial⟩, ⟨⟨Tryz.func230, Tryz.call230⟩, trivial, trivial⟩⟩⟩, ⟨⟨Tryz.func54, Tryz.call54⟩, ⟨⟨Tryz.func86, Tryz.call86⟩, ⟨⟨Tryz.func150, Tryz.call150⟩, ⟨⟨Tryz.func278, Tryz.call278⟩, trivial, trivial⟩, trivial⟩, ⟨⟨Tryz.func214, Tryz.call214⟩, trivial, trivial⟩⟩, ⟨⟨Tryz.func118, Tryz.call118⟩, ⟨⟨Tryz.func182, Tryz.call182⟩, ⟨⟨Tryz.func310, Tryz.call310⟩, trivial, trivial⟩, trivial⟩, ⟨⟨Tryz.func246, Tryz.call246⟩, trivial, trivial⟩⟩⟩⟩, ⟨⟨Tryz.func30, Tryz.call30⟩, ⟨⟨Tryz.func46, Tryz.call46⟩, ⟨⟨Tryz.func78, Tryz.call78⟩, ⟨⟨Tryz.func142, Tryz.call142⟩, ⟨⟨Tryz.func270, Tryz.call270⟩, trivial, trivial⟩, trivial⟩, ⟨⟨Tryz.func206, Tryz.call206⟩, ⟨⟨Tryz.func334, Tryz.call334⟩, trivial, trivial⟩, trivial⟩⟩, ⟨⟨Tryz.func110, Tryz.call110⟩, ⟨⟨Tryz.func174, Tryz.call174⟩, ⟨⟨Tryz.func302, Tryz.call302⟩, trivial, trivial⟩, trivial⟩, ⟨⟨Tryz.func238, Tryz.call238⟩, trivial, trivial⟩⟩⟩, ⟨⟨Tryz.func62, Tryz.call62⟩, ⟨⟨Tryz.func94, Tryz.call94⟩, ⟨⟨Tryz.func158, Tryz.call158⟩, ⟨⟨Tryz.func286, Tryz.call286⟩, trivial, trivial⟩, trivial⟩, ⟨⟨Tryz.func222, Tryz.call222⟩, trivial, trivial⟩⟩, ⟨⟨Tryz.func126, Tryz.call126⟩, ⟨⟨Tryz.func190, Tryz.call190⟩, ⟨⟨Tryz.func318, Tryz.call318⟩, trivial, trivial⟩, trivial⟩, ⟨⟨Tryz.func254, Tryz.call254⟩, trivial, trivial⟩⟩⟩⟩⟩⟩⟩⟩) h
def xtab : T Xt := (.node (.node .leaf none (.node (.node .leaf none (.node (.node .leaf none (.node (.node .leaf (some .same) .leaf) none .leaf)) none .leaf)) none (.node .leaf none (.node (.node (.node (.node .leaf (some .count) .leaf) none .leaf) none .leaf) none .leaf)))) none (.node (.node (.node (.node .leaf none (.node .leaf none (.node .leaf none (.node .leaf (some .index) .leaf)))) none .leaf) none .leaf) none .leaf))
theorem xtab_ok : XtOk Tryz.prog xtab := fun _ _ _ _ h hr => T.all_get (f := fun k => k) (Q := XQ Tryz.prog) (show T.All _ xtab _ from ⟨trivial, ⟨trivial, trivial, ⟨trivial, ⟨trivial, trivial, ⟨trivial, ⟨trivial, trivial, ⟨trivial, ⟨(XQ.same Tryz.func169 (by kernel_rfl) (by kernel_rfl) (by kernel_rfl) (by kernel_rfl)), trivial, trivial⟩, trivial⟩⟩, trivial⟩⟩, ⟨trivial, trivial, ⟨trivial, ⟨trivial, ⟨trivial, ⟨(XQ.count Tryz.func141 (by kernel_rfl) (by kernel_rfl) (by kernel_rfl) (by kernel_rfl)), trivial, trivial⟩, trivial⟩, trivial⟩, trivial⟩⟩⟩⟩, ⟨trivial, ⟨trivial, ⟨trivial, ⟨trivial, trivial, ⟨trivial, trivial, ⟨trivial, trivial, ⟨(XQ.index Tryz.func240 (by kernel_rfl) (by kernel_rfl) (by kernel_rfl) (by kernel_rfl)), trivial, trivial⟩⟩⟩⟩, trivial⟩, trivial⟩, trivial⟩⟩) h _ _ hr
theorem all_ok : All Tryz.prog itab ftab xtab := ⟨itab_ok, ftab_ok, xtab_ok, by kernel_rfl⟩
end E
end Go.Proofs.YtkjhjgokaeiopaaGreatDoor
