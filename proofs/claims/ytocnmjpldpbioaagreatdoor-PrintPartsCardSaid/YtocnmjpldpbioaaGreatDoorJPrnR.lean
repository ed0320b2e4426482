/- The map of print.operands: its drawn region by an invariant. Printed by tools/genPrnR.py. -/
import Derived.Test.YtocnmjpldpbioaaGreatDoorJPDec
set_option linter.unusedVariables false
set_option linter.unusedSimpArgs false
namespace Go.Proofs.YtocnmjpldpbioaaGreatDoor
open Go Go.RowKit Go.Lib

def findR (n : Nat) : Code → Option (Array Oper)
 | .region id ops _ => if id = n then some ops else none
 | .seq a b => (findR n a).orElse fun _ => findR n b
 | .cond _ a b => (findR n a).orElse fun _ => findR n b
 | .block _ b => findR n b
 | .loop b => findR n b
 | .scope b => findR n b
 | _ => none
noncomputable def opsR : Array Oper := ((Tryz.f25.body).bind (findR 7)).getD #[]
theorem opsR_size : opsR.size = 82 := by kernel_rfl
theorem lt82 : ((List.range 82).all fun i => ((opsR[i]?).map fun o => o.after.all fun e => decide (e.on < i)).getD false) = true := by kernel_rfl
theorem o0 : (opsR[0]?).map (fun o => (o.op, o.dst, o.guard)) = some (.makeMap 52 none, some 24, none) := by kernel_rfl
theorem o1 : (opsR[1]?).map (fun o => (o.op, o.dst, o.guard)) = some (.move (.tmp 4), some 25, none) := by kernel_rfl
theorem o2 : (opsR[2]?).map (fun o => (o.op, o.dst, o.guard)) = some (.move (.tmp 5), some 26, none) := by kernel_rfl
theorem o3 : (opsR[3]?).map (fun o => (o.op, o.dst, o.guard)) = some (.move (.tmp 8), some 27, none) := by kernel_rfl
theorem b4_2 : ((opsR[4]?).map fun o => o.after.any fun e => e.on == 2 && Region.binds .any e) = some true := by kernel_rfl
theorem b4_3 : ((opsR[4]?).map fun o => o.after.any fun e => e.on == 3 && Region.binds .any e) = some true := by kernel_rfl
theorem o4 : (opsR[4]?).map (fun o => (o.op, o.dst, o.guard)) = some (.buildSlice 32 2 #[(0, .tmp 26), (1, .tmp 27)], some 28, none) := by kernel_rfl
theorem b5_1 : ((opsR[5]?).map fun o => o.after.any fun e => e.on == 1 && Region.binds .any e) = some true := by kernel_rfl
theorem b5_4 : ((opsR[5]?).map fun o => o.after.any fun e => e.on == 4 && Region.binds .any e) = some true := by kernel_rfl
theorem o5 : (opsR[5]?).map (fun o => (o.op, o.dst, o.guard)) = some (.call { callee := .value (.tmp 25), args := #[.tmp 28], argTypes := #[32] }, some 29, none) := by kernel_rfl
theorem b6_0 : ((opsR[6]?).map fun o => o.after.any fun e => e.on == 0 && Region.binds .any e) = some true := by kernel_rfl
theorem b6_5 : ((opsR[6]?).map fun o => o.after.any fun e => e.on == 5 && Region.binds .any e) = some true := by kernel_rfl
theorem o6 : (opsR[6]?).map (fun o => (o.op, o.dst, o.guard)) = some (.insert 52 (.tmp 24) (.const (.int .i64 0)) (.tmp 29), none, none) := by kernel_rfl
theorem o7 : (opsR[7]?).map (fun o => (o.op, o.dst, o.guard)) = some (.move (.tmp 4), some 30, none) := by kernel_rfl
theorem o8 : (opsR[8]?).map (fun o => (o.op, o.dst, o.guard)) = some (.move (.tmp 5), some 31, none) := by kernel_rfl
theorem b9_8 : ((opsR[9]?).map fun o => o.after.any fun e => e.on == 8 && Region.binds .any e) = some true := by kernel_rfl
theorem o9 : (opsR[9]?).map (fun o => (o.op, o.dst, o.guard)) = some (.buildSlice 32 1 #[(0, .tmp 31)], some 32, none) := by kernel_rfl
theorem b10_7 : ((opsR[10]?).map fun o => o.after.any fun e => e.on == 7 && Region.binds .any e) = some true := by kernel_rfl
theorem b10_9 : ((opsR[10]?).map fun o => o.after.any fun e => e.on == 9 && Region.binds .any e) = some true := by kernel_rfl
theorem o10 : (opsR[10]?).map (fun o => (o.op, o.dst, o.guard)) = some (.call { callee := .value (.tmp 30), args := #[.tmp 32], argTypes := #[32] }, some 33, none) := by kernel_rfl
theorem b11_0 : ((opsR[11]?).map fun o => o.after.any fun e => e.on == 0 && Region.binds .any e) = some true := by kernel_rfl
theorem b11_10 : ((opsR[11]?).map fun o => o.after.any fun e => e.on == 10 && Region.binds .any e) = some true := by kernel_rfl
theorem o11 : (opsR[11]?).map (fun o => (o.op, o.dst, o.guard)) = some (.insert 52 (.tmp 24) (.const (.int .i64 1)) (.tmp 33), none, none) := by kernel_rfl
theorem o12 : (opsR[12]?).map (fun o => (o.op, o.dst, o.guard)) = some (.move (.tmp 4), some 34, none) := by kernel_rfl
theorem o13 : (opsR[13]?).map (fun o => (o.op, o.dst, o.guard)) = some (.move (.tmp 5), some 35, none) := by kernel_rfl
theorem o14 : (opsR[14]?).map (fun o => (o.op, o.dst, o.guard)) = some (.move (.tmp 6), some 36, none) := by kernel_rfl
theorem b15_13 : ((opsR[15]?).map fun o => o.after.any fun e => e.on == 13 && Region.binds .any e) = some true := by kernel_rfl
theorem b15_14 : ((opsR[15]?).map fun o => o.after.any fun e => e.on == 14 && Region.binds .any e) = some true := by kernel_rfl
theorem o15 : (opsR[15]?).map (fun o => (o.op, o.dst, o.guard)) = some (.buildSlice 32 2 #[(0, .tmp 35), (1, .tmp 36)], some 37, none) := by kernel_rfl
theorem b16_12 : ((opsR[16]?).map fun o => o.after.any fun e => e.on == 12 && Region.binds .any e) = some true := by kernel_rfl
theorem b16_15 : ((opsR[16]?).map fun o => o.after.any fun e => e.on == 15 && Region.binds .any e) = some true := by kernel_rfl
theorem o16 : (opsR[16]?).map (fun o => (o.op, o.dst, o.guard)) = some (.call { callee := .value (.tmp 34), args := #[.tmp 37], argTypes := #[32] }, some 38, none) := by kernel_rfl
theorem b17_0 : ((opsR[17]?).map fun o => o.after.any fun e => e.on == 0 && Region.binds .any e) = some true := by kernel_rfl
theorem b17_16 : ((opsR[17]?).map fun o => o.after.any fun e => e.on == 16 && Region.binds .any e) = some true := by kernel_rfl
theorem o17 : (opsR[17]?).map (fun o => (o.op, o.dst, o.guard)) = some (.insert 52 (.tmp 24) (.const (.int .i64 2)) (.tmp 38), none, none) := by kernel_rfl
theorem o18 : (opsR[18]?).map (fun o => (o.op, o.dst, o.guard)) = some (.move (.tmp 4), some 39, none) := by kernel_rfl
theorem o19 : (opsR[19]?).map (fun o => (o.op, o.dst, o.guard)) = some (.fieldAddr 34 (.tmp 1) 2, some 40, none) := by kernel_rfl
theorem b20_19 : ((opsR[20]?).map fun o => o.after.any fun e => e.on == 19 && Region.binds .any e) = some true := by kernel_rfl
theorem o20 : (opsR[20]?).map (fun o => (o.op, o.dst, o.guard)) = some (.load 9 (.tmp 40), some 41, none) := by kernel_rfl
theorem b21_20 : ((opsR[21]?).map fun o => o.after.any fun e => e.on == 20 && Region.binds .any e) = some true := by kernel_rfl
theorem o21 : (opsR[21]?).map (fun o => (o.op, o.dst, o.guard)) = some (.buildSlice 32 1 #[(0, .tmp 41)], some 42, none) := by kernel_rfl
theorem b22_18 : ((opsR[22]?).map fun o => o.after.any fun e => e.on == 18 && Region.binds .any e) = some true := by kernel_rfl
theorem b22_21 : ((opsR[22]?).map fun o => o.after.any fun e => e.on == 21 && Region.binds .any e) = some true := by kernel_rfl
theorem o22 : (opsR[22]?).map (fun o => (o.op, o.dst, o.guard)) = some (.call { callee := .value (.tmp 39), args := #[.tmp 42], argTypes := #[32] }, some 43, none) := by kernel_rfl
theorem b23_0 : ((opsR[23]?).map fun o => o.after.any fun e => e.on == 0 && Region.binds .any e) = some true := by kernel_rfl
theorem b23_22 : ((opsR[23]?).map fun o => o.after.any fun e => e.on == 22 && Region.binds .any e) = some true := by kernel_rfl
theorem o23 : (opsR[23]?).map (fun o => (o.op, o.dst, o.guard)) = some (.insert 52 (.tmp 24) (.const (.int .i64 3)) (.tmp 43), none, none) := by kernel_rfl
theorem o24 : (opsR[24]?).map (fun o => (o.op, o.dst, o.guard)) = some (.move (.tmp 4), some 44, none) := by kernel_rfl
theorem o25 : (opsR[25]?).map (fun o => (o.op, o.dst, o.guard)) = some (.move (.tmp 5), some 45, none) := by kernel_rfl
theorem o26 : (opsR[26]?).map (fun o => (o.op, o.dst, o.guard)) = some (.move (.tmp 8), some 46, none) := by kernel_rfl
theorem o27 : (opsR[27]?).map (fun o => (o.op, o.dst, o.guard)) = some (.fieldAddr 34 (.tmp 1) 2, some 47, none) := by kernel_rfl
theorem b28_27 : ((opsR[28]?).map fun o => o.after.any fun e => e.on == 27 && Region.binds .any e) = some true := by kernel_rfl
theorem o28 : (opsR[28]?).map (fun o => (o.op, o.dst, o.guard)) = some (.load 9 (.tmp 47), some 48, none) := by kernel_rfl
theorem b29_25 : ((opsR[29]?).map fun o => o.after.any fun e => e.on == 25 && Region.binds .any e) = some true := by kernel_rfl
theorem b29_26 : ((opsR[29]?).map fun o => o.after.any fun e => e.on == 26 && Region.binds .any e) = some true := by kernel_rfl
theorem b29_28 : ((opsR[29]?).map fun o => o.after.any fun e => e.on == 28 && Region.binds .any e) = some true := by kernel_rfl
theorem o29 : (opsR[29]?).map (fun o => (o.op, o.dst, o.guard)) = some (.buildSlice 32 3 #[(0, .tmp 45), (1, .tmp 46), (2, .tmp 48)], some 49, none) := by kernel_rfl
theorem b30_24 : ((opsR[30]?).map fun o => o.after.any fun e => e.on == 24 && Region.binds .any e) = some true := by kernel_rfl
theorem b30_29 : ((opsR[30]?).map fun o => o.after.any fun e => e.on == 29 && Region.binds .any e) = some true := by kernel_rfl
theorem o30 : (opsR[30]?).map (fun o => (o.op, o.dst, o.guard)) = some (.call { callee := .value (.tmp 44), args := #[.tmp 49], argTypes := #[32] }, some 50, none) := by kernel_rfl
theorem b31_0 : ((opsR[31]?).map fun o => o.after.any fun e => e.on == 0 && Region.binds .any e) = some true := by kernel_rfl
theorem b31_30 : ((opsR[31]?).map fun o => o.after.any fun e => e.on == 30 && Region.binds .any e) = some true := by kernel_rfl
theorem o31 : (opsR[31]?).map (fun o => (o.op, o.dst, o.guard)) = some (.insert 52 (.tmp 24) (.const (.int .i64 4)) (.tmp 50), none, none) := by kernel_rfl
theorem o32 : (opsR[32]?).map (fun o => (o.op, o.dst, o.guard)) = some (.makeFunc (.func 46) #[] #[.tmp 3], some 51, none) := by kernel_rfl
theorem b33_0 : ((opsR[33]?).map fun o => o.after.any fun e => e.on == 0 && Region.binds .any e) = some true := by kernel_rfl
theorem b33_32 : ((opsR[33]?).map fun o => o.after.any fun e => e.on == 32 && Region.binds .any e) = some true := by kernel_rfl
theorem o33 : (opsR[33]?).map (fun o => (o.op, o.dst, o.guard)) = some (.insert 52 (.tmp 24) (.const (.int .i64 5)) (.tmp 51), none, none) := by kernel_rfl
theorem o34 : (opsR[34]?).map (fun o => (o.op, o.dst, o.guard)) = some (.move (.tmp 4), some 52, none) := by kernel_rfl
theorem b35_34 : ((opsR[35]?).map fun o => o.after.any fun e => e.on == 34 && Region.binds .any e) = some true := by kernel_rfl
theorem o35 : (opsR[35]?).map (fun o => (o.op, o.dst, o.guard)) = some (.call { callee := .value (.tmp 52), args := #[.const (.slice none 0 0)], argTypes := #[32] }, some 53, none) := by kernel_rfl
theorem b36_0 : ((opsR[36]?).map fun o => o.after.any fun e => e.on == 0 && Region.binds .any e) = some true := by kernel_rfl
theorem b36_35 : ((opsR[36]?).map fun o => o.after.any fun e => e.on == 35 && Region.binds .any e) = some true := by kernel_rfl
theorem o36 : (opsR[36]?).map (fun o => (o.op, o.dst, o.guard)) = some (.insert 52 (.tmp 24) (.const (.int .i64 6)) (.tmp 53), none, none) := by kernel_rfl
theorem o37 : (opsR[37]?).map (fun o => (o.op, o.dst, o.guard)) = some (.move (.tmp 4), some 54, none) := by kernel_rfl
theorem o38 : (opsR[38]?).map (fun o => (o.op, o.dst, o.guard)) = some (.move (.tmp 5), some 55, none) := by kernel_rfl
theorem o39 : (opsR[39]?).map (fun o => (o.op, o.dst, o.guard)) = some (.fieldAddr 31 (.tmp 3) 3, some 56, none) := by kernel_rfl
theorem b40_39 : ((opsR[40]?).map fun o => o.after.any fun e => e.on == 39 && Region.binds .any e) = some true := by kernel_rfl
theorem o40 : (opsR[40]?).map (fun o => (o.op, o.dst, o.guard)) = some (.load 3 (.tmp 56), some 57, none) := by kernel_rfl
theorem o41 : (opsR[41]?).map (fun o => (o.op, o.dst, o.guard)) = some (.fieldAddr 31 (.tmp 3) 4, some 58, none) := by kernel_rfl
theorem b42_41 : ((opsR[42]?).map fun o => o.after.any fun e => e.on == 41 && Region.binds .any e) = some true := by kernel_rfl
theorem o42 : (opsR[42]?).map (fun o => (o.op, o.dst, o.guard)) = some (.load 3 (.tmp 58), some 59, none) := by kernel_rfl
theorem b43_40 : ((opsR[43]?).map fun o => o.after.any fun e => e.on == 40 && Region.binds .any e) = some true := by kernel_rfl
theorem b43_42 : ((opsR[43]?).map fun o => o.after.any fun e => e.on == 42 && Region.binds .any e) = some true := by kernel_rfl
theorem o43 : (opsR[43]?).map (fun o => (o.op, o.dst, o.guard)) = some (.call { callee := .value (.func 8), args := #[.tmp 57, .tmp 59], argTypes := #[3, 3] }, some 60, none) := by kernel_rfl
theorem b44_38 : ((opsR[44]?).map fun o => o.after.any fun e => e.on == 38 && Region.binds .any e) = some true := by kernel_rfl
theorem b44_43 : ((opsR[44]?).map fun o => o.after.any fun e => e.on == 43 && Region.binds .any e) = some true := by kernel_rfl
theorem o44 : (opsR[44]?).map (fun o => (o.op, o.dst, o.guard)) = some (.buildSlice 32 2 #[(0, .tmp 55), (1, .tmp 60)], some 61, none) := by kernel_rfl
theorem b45_37 : ((opsR[45]?).map fun o => o.after.any fun e => e.on == 37 && Region.binds .any e) = some true := by kernel_rfl
theorem b45_44 : ((opsR[45]?).map fun o => o.after.any fun e => e.on == 44 && Region.binds .any e) = some true := by kernel_rfl
theorem o45 : (opsR[45]?).map (fun o => (o.op, o.dst, o.guard)) = some (.call { callee := .value (.tmp 54), args := #[.tmp 61], argTypes := #[32] }, some 62, none) := by kernel_rfl
theorem b46_0 : ((opsR[46]?).map fun o => o.after.any fun e => e.on == 0 && Region.binds .any e) = some true := by kernel_rfl
theorem b46_45 : ((opsR[46]?).map fun o => o.after.any fun e => e.on == 45 && Region.binds .any e) = some true := by kernel_rfl
theorem o46 : (opsR[46]?).map (fun o => (o.op, o.dst, o.guard)) = some (.insert 52 (.tmp 24) (.const (.int .i64 7)) (.tmp 62), none, none) := by kernel_rfl
theorem o47 : (opsR[47]?).map (fun o => (o.op, o.dst, o.guard)) = some (.move (.tmp 4), some 63, none) := by kernel_rfl
theorem o48 : (opsR[48]?).map (fun o => (o.op, o.dst, o.guard)) = some (.fieldAddr 31 (.tmp 3) 2, some 64, none) := by kernel_rfl
theorem b49_48 : ((opsR[49]?).map fun o => o.after.any fun e => e.on == 48 && Region.binds .any e) = some true := by kernel_rfl
theorem o49 : (opsR[49]?).map (fun o => (o.op, o.dst, o.guard)) = some (.load 3 (.tmp 64), some 65, none) := by kernel_rfl
theorem o50 : (opsR[50]?).map (fun o => (o.op, o.dst, o.guard)) = some (.fieldAddr 31 (.tmp 3) 4, some 66, none) := by kernel_rfl
theorem b51_50 : ((opsR[51]?).map fun o => o.after.any fun e => e.on == 50 && Region.binds .any e) = some true := by kernel_rfl
theorem o51 : (opsR[51]?).map (fun o => (o.op, o.dst, o.guard)) = some (.load 3 (.tmp 66), some 67, none) := by kernel_rfl
theorem b52_49 : ((opsR[52]?).map fun o => o.after.any fun e => e.on == 49 && Region.binds .any e) = some true := by kernel_rfl
theorem b52_51 : ((opsR[52]?).map fun o => o.after.any fun e => e.on == 51 && Region.binds .any e) = some true := by kernel_rfl
theorem o52 : (opsR[52]?).map (fun o => (o.op, o.dst, o.guard)) = some (.call { callee := .value (.func 8), args := #[.tmp 65, .tmp 67], argTypes := #[3, 3] }, some 68, none) := by kernel_rfl
theorem o53 : (opsR[53]?).map (fun o => (o.op, o.dst, o.guard)) = some (.move (.tmp 7), some 69, none) := by kernel_rfl
theorem b54_52 : ((opsR[54]?).map fun o => o.after.any fun e => e.on == 52 && Region.binds .any e) = some true := by kernel_rfl
theorem b54_53 : ((opsR[54]?).map fun o => o.after.any fun e => e.on == 53 && Region.binds .any e) = some true := by kernel_rfl
theorem o54 : (opsR[54]?).map (fun o => (o.op, o.dst, o.guard)) = some (.buildSlice 32 2 #[(0, .tmp 68), (1, .tmp 69)], some 70, none) := by kernel_rfl
theorem b55_47 : ((opsR[55]?).map fun o => o.after.any fun e => e.on == 47 && Region.binds .any e) = some true := by kernel_rfl
theorem b55_54 : ((opsR[55]?).map fun o => o.after.any fun e => e.on == 54 && Region.binds .any e) = some true := by kernel_rfl
theorem o55 : (opsR[55]?).map (fun o => (o.op, o.dst, o.guard)) = some (.call { callee := .value (.tmp 63), args := #[.tmp 70], argTypes := #[32] }, some 71, none) := by kernel_rfl
theorem b56_0 : ((opsR[56]?).map fun o => o.after.any fun e => e.on == 0 && Region.binds .any e) = some true := by kernel_rfl
theorem b56_55 : ((opsR[56]?).map fun o => o.after.any fun e => e.on == 55 && Region.binds .any e) = some true := by kernel_rfl
theorem o56 : (opsR[56]?).map (fun o => (o.op, o.dst, o.guard)) = some (.insert 52 (.tmp 24) (.const (.int .i64 8)) (.tmp 71), none, none) := by kernel_rfl
theorem o57 : (opsR[57]?).map (fun o => (o.op, o.dst, o.guard)) = some (.move (.tmp 4), some 72, none) := by kernel_rfl
theorem o58 : (opsR[58]?).map (fun o => (o.op, o.dst, o.guard)) = some (.fieldAddr 31 (.tmp 3) 2, some 73, none) := by kernel_rfl
theorem b59_58 : ((opsR[59]?).map fun o => o.after.any fun e => e.on == 58 && Region.binds .any e) = some true := by kernel_rfl
theorem o59 : (opsR[59]?).map (fun o => (o.op, o.dst, o.guard)) = some (.load 3 (.tmp 73), some 74, none) := by kernel_rfl
theorem o60 : (opsR[60]?).map (fun o => (o.op, o.dst, o.guard)) = some (.fieldAddr 31 (.tmp 3) 4, some 75, none) := by kernel_rfl
theorem b61_60 : ((opsR[61]?).map fun o => o.after.any fun e => e.on == 60 && Region.binds .any e) = some true := by kernel_rfl
theorem o61 : (opsR[61]?).map (fun o => (o.op, o.dst, o.guard)) = some (.load 3 (.tmp 75), some 76, none) := by kernel_rfl
theorem b62_59 : ((opsR[62]?).map fun o => o.after.any fun e => e.on == 59 && Region.binds .any e) = some true := by kernel_rfl
theorem b62_61 : ((opsR[62]?).map fun o => o.after.any fun e => e.on == 61 && Region.binds .any e) = some true := by kernel_rfl
theorem o62 : (opsR[62]?).map (fun o => (o.op, o.dst, o.guard)) = some (.call { callee := .value (.func 8), args := #[.tmp 74, .tmp 76], argTypes := #[3, 3] }, some 77, none) := by kernel_rfl
theorem o63 : (opsR[63]?).map (fun o => (o.op, o.dst, o.guard)) = some (.move (.tmp 6), some 78, none) := by kernel_rfl
theorem b64_62 : ((opsR[64]?).map fun o => o.after.any fun e => e.on == 62 && Region.binds .any e) = some true := by kernel_rfl
theorem b64_63 : ((opsR[64]?).map fun o => o.after.any fun e => e.on == 63 && Region.binds .any e) = some true := by kernel_rfl
theorem o64 : (opsR[64]?).map (fun o => (o.op, o.dst, o.guard)) = some (.buildSlice 32 2 #[(0, .tmp 77), (1, .tmp 78)], some 79, none) := by kernel_rfl
theorem b65_57 : ((opsR[65]?).map fun o => o.after.any fun e => e.on == 57 && Region.binds .any e) = some true := by kernel_rfl
theorem b65_64 : ((opsR[65]?).map fun o => o.after.any fun e => e.on == 64 && Region.binds .any e) = some true := by kernel_rfl
theorem o65 : (opsR[65]?).map (fun o => (o.op, o.dst, o.guard)) = some (.call { callee := .value (.tmp 72), args := #[.tmp 79], argTypes := #[32] }, some 80, none) := by kernel_rfl
theorem b66_0 : ((opsR[66]?).map fun o => o.after.any fun e => e.on == 0 && Region.binds .any e) = some true := by kernel_rfl
theorem b66_65 : ((opsR[66]?).map fun o => o.after.any fun e => e.on == 65 && Region.binds .any e) = some true := by kernel_rfl
theorem o66 : (opsR[66]?).map (fun o => (o.op, o.dst, o.guard)) = some (.insert 52 (.tmp 24) (.const (.int .i64 9)) (.tmp 80), none, none) := by kernel_rfl
theorem o67 : (opsR[67]?).map (fun o => (o.op, o.dst, o.guard)) = some (.move (.tmp 4), some 81, none) := by kernel_rfl
theorem o68 : (opsR[68]?).map (fun o => (o.op, o.dst, o.guard)) = some (.move (.tmp 5), some 82, none) := by kernel_rfl
theorem o69 : (opsR[69]?).map (fun o => (o.op, o.dst, o.guard)) = some (.move (.tmp 7), some 83, none) := by kernel_rfl
theorem b70_68 : ((opsR[70]?).map fun o => o.after.any fun e => e.on == 68 && Region.binds .any e) = some true := by kernel_rfl
theorem b70_69 : ((opsR[70]?).map fun o => o.after.any fun e => e.on == 69 && Region.binds .any e) = some true := by kernel_rfl
theorem o70 : (opsR[70]?).map (fun o => (o.op, o.dst, o.guard)) = some (.buildSlice 32 2 #[(0, .tmp 82), (1, .tmp 83)], some 84, none) := by kernel_rfl
theorem b71_67 : ((opsR[71]?).map fun o => o.after.any fun e => e.on == 67 && Region.binds .any e) = some true := by kernel_rfl
theorem b71_70 : ((opsR[71]?).map fun o => o.after.any fun e => e.on == 70 && Region.binds .any e) = some true := by kernel_rfl
theorem o71 : (opsR[71]?).map (fun o => (o.op, o.dst, o.guard)) = some (.call { callee := .value (.tmp 81), args := #[.tmp 84], argTypes := #[32] }, some 85, none) := by kernel_rfl
theorem b72_0 : ((opsR[72]?).map fun o => o.after.any fun e => e.on == 0 && Region.binds .any e) = some true := by kernel_rfl
theorem b72_71 : ((opsR[72]?).map fun o => o.after.any fun e => e.on == 71 && Region.binds .any e) = some true := by kernel_rfl
theorem o72 : (opsR[72]?).map (fun o => (o.op, o.dst, o.guard)) = some (.insert 52 (.tmp 24) (.const (.int .i64 10)) (.tmp 85), none, none) := by kernel_rfl
theorem o73 : (opsR[73]?).map (fun o => (o.op, o.dst, o.guard)) = some (.move (.tmp 4), some 86, none) := by kernel_rfl
theorem o74 : (opsR[74]?).map (fun o => (o.op, o.dst, o.guard)) = some (.move (.tmp 5), some 87, none) := by kernel_rfl
theorem o75 : (opsR[75]?).map (fun o => (o.op, o.dst, o.guard)) = some (.fieldAddr 34 (.tmp 1) 3, some 88, none) := by kernel_rfl
theorem b76_75 : ((opsR[76]?).map fun o => o.after.any fun e => e.on == 75 && Region.binds .any e) = some true := by kernel_rfl
theorem o76 : (opsR[76]?).map (fun o => (o.op, o.dst, o.guard)) = some (.load 9 (.tmp 88), some 89, none) := by kernel_rfl
theorem b77_74 : ((opsR[77]?).map fun o => o.after.any fun e => e.on == 74 && Region.binds .any e) = some true := by kernel_rfl
theorem b77_76 : ((opsR[77]?).map fun o => o.after.any fun e => e.on == 76 && Region.binds .any e) = some true := by kernel_rfl
theorem o77 : (opsR[77]?).map (fun o => (o.op, o.dst, o.guard)) = some (.buildSlice 32 2 #[(0, .tmp 87), (1, .tmp 89)], some 90, none) := by kernel_rfl
theorem b78_73 : ((opsR[78]?).map fun o => o.after.any fun e => e.on == 73 && Region.binds .any e) = some true := by kernel_rfl
theorem b78_77 : ((opsR[78]?).map fun o => o.after.any fun e => e.on == 77 && Region.binds .any e) = some true := by kernel_rfl
theorem o78 : (opsR[78]?).map (fun o => (o.op, o.dst, o.guard)) = some (.call { callee := .value (.tmp 86), args := #[.tmp 90], argTypes := #[32] }, some 91, none) := by kernel_rfl
theorem b79_0 : ((opsR[79]?).map fun o => o.after.any fun e => e.on == 0 && Region.binds .any e) = some true := by kernel_rfl
theorem b79_78 : ((opsR[79]?).map fun o => o.after.any fun e => e.on == 78 && Region.binds .any e) = some true := by kernel_rfl
theorem o79 : (opsR[79]?).map (fun o => (o.op, o.dst, o.guard)) = some (.insert 52 (.tmp 24) (.const (.int .i64 11)) (.tmp 91), none, none) := by kernel_rfl
theorem b80_0 : ((opsR[80]?).map fun o => o.after.any fun e => e.on == 0 && Region.binds .any e) = some true := by kernel_rfl
theorem o80 : (opsR[80]?).map (fun o => (o.op, o.dst, o.guard)) = some (.move (.tmp 24), some 92, none) := by kernel_rfl
theorem b81_0 : ((opsR[81]?).map fun o => o.after.any fun e => e.on == 0 && Region.binds .any e) = some true := by kernel_rfl
theorem b81_80 : ((opsR[81]?).map fun o => o.after.any fun e => e.on == 80 && Region.binds .any e) = some true := by kernel_rfl
theorem o81 : (opsR[81]?).map (fun o => (o.op, o.dst, o.guard)) = some (.assign (.tmp 92), some 2, none) := by kernel_rfl

/-- What the region reads. -/
structure OC where
 w0 : World
 b : Nat
 sl : Value
 op : Int
 reg : Bool
 n1 : Int
 n2 : Int
 n3 : Int
 n4 : Int
 tt : ByteArray
 tm : ByteArray
 D1 : ByteArray
 D2 : ByteArray
 D4 : ByteArray
 D5 : ByteArray
 M7 : ByteArray
 M8 : ByteArray
def OC.S (c : OC) : List Value := [c.sl, .int .i64 c.op, .bool c.reg, .int .i64 c.n1, .int .i64 c.n2, .int .i64 c.n3, .int .i64 c.n4, .string c.tt, .string c.tm]
def OC.X (c : OC) : List Value := [.int .i64 c.op, .bool c.reg, .int .i64 c.n1, .int .i64 c.n2, .int .i64 c.n3, .int .i64 c.n4]
/-- What an operation leaves. -/
inductive OpK where
 | val (d : Nat) (u : Value)
 | bs (d : Nat) (l : List ByteArray)
 | fn (d : Nat) (l : List ByteArray)
 | no (d : Option Nat)
def OpK.dst : OpK → Option Nat
 | .val d _ => some d
 | .bs d _ => some d
 | .fn d _ => some d
 | .no d => d
/-- A closure's variable: the slice of texts. -/
def EntR (w : World) (x : Nat) (l : List ByteArray) : Prop :=
 ∃ A n k, RowV w x 32 [.slice A n k] ∧ ((l = [] ∧ A = none ∧ n = 0 ∧ k = 0) ∨ ∃ g, A = some ⟨g, 0, none⟩ ∧ n = l.length ∧ k = l.length ∧ RowV w g 9 (l.map .string))
theorem EntR.ext {w w' : World} {x : Nat} {l : List ByteArray} (h : EntR w x l) (he : Ext w w') : EntR w' x l := by
 obtain ⟨A, n, k, h1, h2⟩ := h
 exact ⟨A, n, k, h1.ext he, h2.imp id fun ⟨g, a1, a2, a3, a4⟩ => ⟨g, a1, a2, a3, a4.ext he⟩⟩
theorem MapF.row_ne {w : World} {b n g : Nat} {p : Int → Option (Nat × Nat)} {t : TypeId} {l : List Value} (h : MapF w b n p) (r : RowV w g t l) : some g ≠ some b := by
 obtain ⟨D, ⟨es, ck, hb, -⟩, -⟩ := h
 intro e
 injection e with e
 subst e
 have hr : w.heap[g]? = _ := r
 rw [hb] at hr
 cases hr
theorem EntR.keep {w w' : World} {x : Nat} {l : List ByteArray} {b n : Nat} {p : Int → Option (Nat × Nat)} (h : EntR w x l) (hm : MapF w b n p) (hg : w.grownBy w' (some b)) : EntR w' x l := by
 obtain ⟨A, n, k, h1, h2⟩ := h
 exact ⟨A, n, k, h1.keep hg (hm.row_ne h1), h2.imp id fun ⟨g, a1, a2, a3, a4⟩ => ⟨g, a1, a2, a3, a4.keep hg (hm.row_ne a4)⟩⟩
def EOk (a : Act) (w : World) : OpK → Prop
 | .val d u => a.tmps[d]?.getD undef = u
 | .bs d l => ∃ g, a.tmps[d]?.getD undef = .slice (some ⟨g, 0, none⟩) l.length l.length ∧ RowV w g 9 (l.map .string)
 | .fn d l => ∃ x, a.tmps[d]?.getD undef = funV 45 x ∧ EntR w x l
 | .no _ => True
theorem EOk.move {a a' : Act} {w w' : World} {k : OpK} (h : EOk a w k) (ht : ∀ d, k.dst = some d → a'.tmps[d]?.getD undef = a.tmps[d]?.getD undef) (hr : ∀ g t l, RowV w g t l → RowV w' g t l) (hn : ∀ x l, EntR w x l → EntR w' x l) : EOk a' w' k := by
 cases k with
 | val d u => exact (ht d rfl).trans h
 | bs d l =>
  obtain ⟨g, h1, h2⟩ := h
  exact ⟨g, (ht d rfl).trans h1, hr _ _ _ h2⟩
 | fn d l =>
  obtain ⟨x, h1, h2⟩ := h
  exact ⟨x, (ht d rfl).trans h1, hn _ _ h2⟩
 | no d => exact trivial
def OC.tbl (c : OC) : List OpK := [
 .no (some 24),
 .val 25 (.func (.func 44) #[] #[]),
 .val 26 (.string c.D1),
 .val 27 (.string c.D5),
 .bs 28 [c.D1, c.D5],
 .fn 29 [c.D1, c.D5],
 .no none,
 .val 30 (.func (.func 44) #[] #[]),
 .val 31 (.string c.D1),
 .bs 32 [c.D1],
 .fn 33 [c.D1],
 .no none,
 .val 34 (.func (.func 44) #[] #[]),
 .val 35 (.string c.D1),
 .val 36 (.string c.D2),
 .bs 37 [c.D1, c.D2],
 .fn 38 [c.D1, c.D2],
 .no none,
 .val 39 (.func (.func 44) #[] #[]),
 .val 40 (.pointer (some ⟨c.b, 7, none⟩)),
 .val 41 (.string c.tt),
 .bs 42 [c.tt],
 .fn 43 [c.tt],
 .no none,
 .val 44 (.func (.func 44) #[] #[]),
 .val 45 (.string c.D1),
 .val 46 (.string c.D5),
 .val 47 (.pointer (some ⟨c.b, 7, none⟩)),
 .val 48 (.string c.tt),
 .bs 49 [c.D1, c.D5, c.tt],
 .fn 50 [c.D1, c.D5, c.tt],
 .no none,
 .val 51 (.func (.func 46) #[] #[.pointer (some ⟨c.b + 1, 0, none⟩)]),
 .no none,
 .val 52 (.func (.func 44) #[] #[]),
 .fn 53 [],
 .no none,
 .val 54 (.func (.func 44) #[] #[]),
 .val 55 (.string c.D1),
 .val 56 (.pointer (some ⟨c.b + 1, 3, none⟩)),
 .val 57 (.int .i64 c.n2),
 .val 58 (.pointer (some ⟨c.b + 1, 4, none⟩)),
 .val 59 (.int .i64 c.n3),
 .val 60 (.string c.M7),
 .bs 61 [c.D1, c.M7],
 .fn 62 [c.D1, c.M7],
 .no none,
 .val 63 (.func (.func 44) #[] #[]),
 .val 64 (.pointer (some ⟨c.b + 1, 2, none⟩)),
 .val 65 (.int .i64 c.n1),
 .val 66 (.pointer (some ⟨c.b + 1, 4, none⟩)),
 .val 67 (.int .i64 c.n3),
 .val 68 (.string c.M8),
 .val 69 (.string c.D4),
 .bs 70 [c.M8, c.D4],
 .fn 71 [c.M8, c.D4],
 .no none,
 .val 72 (.func (.func 44) #[] #[]),
 .val 73 (.pointer (some ⟨c.b + 1, 2, none⟩)),
 .val 74 (.int .i64 c.n1),
 .val 75 (.pointer (some ⟨c.b + 1, 4, none⟩)),
 .val 76 (.int .i64 c.n3),
 .val 77 (.string c.M8),
 .val 78 (.string c.D2),
 .bs 79 [c.M8, c.D2],
 .fn 80 [c.M8, c.D2],
 .no none,
 .val 81 (.func (.func 44) #[] #[]),
 .val 82 (.string c.D1),
 .val 83 (.string c.D4),
 .bs 84 [c.D1, c.D4],
 .fn 85 [c.D1, c.D4],
 .no none,
 .val 86 (.func (.func 44) #[] #[]),
 .val 87 (.string c.D1),
 .val 88 (.pointer (some ⟨c.b, 8, none⟩)),
 .val 89 (.string c.tm),
 .bs 90 [c.D1, c.tm],
 .fn 91 [c.D1, c.tm],
 .no none,
 .no (some 92),
 .no (some 2)]
def insX : List (Nat × Int) := [(6, 0), (11, 1), (17, 2), (23, 3), (31, 4), (33, 5), (36, 6), (46, 7), (56, 8), (66, 9), (72, 10), (79, 11)]
def mapIx : List Nat := insX.map (·.1) ++ [80, 81]
def OC.ent (c : OC) (k : Int) : List ByteArray :=
 if k = 0 then [c.D1, c.D5] else if k = 1 then [c.D1] else if k = 2 then [c.D1, c.D2] else if k = 3 then [c.tt] else if k = 4 then [c.D1, c.D5, c.tt] else if k = 6 then [] else if k = 7 then [c.D1, c.M7] else if k = 8 then [c.M8, c.D4] else if k = 9 then [c.M8, c.D2] else if k = 10 then [c.D1, c.D4] else [c.D1, c.tm]
def c0 : OC := ⟨default, 0, undef, 0, false, 0, 0, 0, 0, ⟨#[]⟩, ⟨#[]⟩, ⟨#[]⟩, ⟨#[]⟩, ⟨#[]⟩, ⟨#[]⟩, ⟨#[]⟩, ⟨#[]⟩⟩
def dstL : List (Option Nat) := c0.tbl.map OpK.dst
theorem tbl_dst (c : OC) : c.tbl.map OpK.dst = dstL := rfl
theorem dst_at {c : OC} {i : Nat} {k : OpK} (h : c.tbl[i]? = some k) : dstL[i]? = some k.dst := by rw [← tbl_dst c, List.getElem?_map, h]; rfl
theorem dst_apart : ((List.range 82).all fun i => (List.range 82).all fun j => i == j || ((dstL[i]?).getD none).isNone || (dstL[i]?).getD none != (dstL[j]?).getD none) = true := by decide +kernel
theorem dst_bds : (dstL.all fun d => match d with | none => true | some d => (24 ≤ d || d == 2) && d < 93) = true := by decide +kernel
theorem dst_len : dstL.length = 82 := by decide +kernel
theorem dst_ne {c : OC} {i j d : Nat} {ki kj : OpK} (hij : i ≠ j) (hi : c.tbl[i]? = some ki) (hj : c.tbl[j]? = some kj) (hd : ki.dst = some d) : kj.dst ≠ some d := by
 have h1 := dst_at hi
 have h2 := dst_at hj
 have l1 := (List.getElem?_eq_some_iff.1 h1).1
 have l2 := (List.getElem?_eq_some_iff.1 h2).1
 rw [dst_len] at l1 l2
 have h := dst_apart
 rw [List.all_eq_true] at h
 have h := h i (List.mem_range.2 l1)
 rw [List.all_eq_true] at h
 have h := h j (List.mem_range.2 l2)
 rw [h1, h2, hd] at h
 intro e
 rw [e] at h
 simp [hij] at h
theorem dst_bd {c : OC} {i d : Nat} {k : OpK} (hi : c.tbl[i]? = some k) (hd : k.dst = some d) : (24 ≤ d ∨ d = 2) ∧ d < 93 := by
 have h1 := dst_at hi
 have h := dst_bds
 rw [List.all_eq_true] at h
 have h := h _ (List.mem_of_getElem? h1)
 rw [hd] at h
 simpa using h
structure MapOk (c : OC) (fuel : Nat) (ls : Array Bool) (a : Act) (w : World) : Prop where
 ok : ∃ bm p n, a.tmps[24]?.getD undef = .map (some bm) ∧ MapF w bm n p ∧ n + fuel ≤ 82 ∧ (∀ x ∈ insX, ls.getD x.1 true = true → x.2 ≠ 5 → ∃ q, p x.2 = some (45, q) ∧ EntR w q (c.ent x.2)) ∧
  (ls.getD 80 true = true → a.tmps[92]?.getD undef = .map (some bm)) ∧ (ls.getD 81 true = true → a.tmps[2]?.getD undef = .map (some bm)) ∧ c.w0.heap.size ≤ bm
structure Inv (c : OC) (fuel : Nat) (ls : Array Bool) (a : Act) (w : World) : Prop where
 sz : ls.size = 82
 cnt : ls.toList.countP (fun x => !x) = fuel
 tsz : a.tmps.size = 93
 df : a.defers = []
 t1 : a.tmps[1]?.getD undef = .pointer (some ⟨c.b, 0, none⟩)
 t3 : a.tmps[3]?.getD undef = .pointer (some ⟨c.b + 1, 0, none⟩)
 t4 : a.tmps[4]?.getD undef = .func (.func 44) #[] #[]
 t5 : a.tmps[5]?.getD undef = .string c.D1
 t6 : a.tmps[6]?.getD undef = .string c.D2
 t7 : a.tmps[7]?.getD undef = .string c.D4
 t8 : a.tmps[8]?.getD undef = .string c.D5
 rS : RowV w c.b 34 c.S
 rX : RowV w (c.b + 1) 31 c.X
 ex : Ext c.w0 w
 res : ∀ (i : Nat) k, c.tbl[i]? = some k → ls.getD i true = true → EOk a w k
 map : (ls.getD 0 true = false ∧ ∀ i ∈ mapIx, ls.getD i true = false) ∨ (ls.getD 0 true = true ∧ MapOk c fuel ls a w)
theorem ready_lt {i : Nat} {ls : Array Bool} (hi : i ∈ Region.ready .any opsR ls) : i < 82 := by
 obtain ⟨-, o, ho, -⟩ := mem_ready.1 hi
 have := (Array.getElem?_eq_some_iff.1 ho).1
 rw [opsR_size] at this
 exact this
section
variable {c : OC} {Q : Exit → Act → World → Prop} {fuel : Nat} {ls : Array Bool} {a : Act} {w : World} {i : Nat}
theorem Inv.before (h : Inv c (fuel + 1) ls a w) {j : Nat} (hi : i ∈ Region.ready .any opsR ls) (hb : ((opsR[i]?).map fun o => o.after.any fun e => e.on == j && Region.binds .any e) = some true) (hj : j < 82) : ls.getD j true = true := by
 obtain ⟨-, o, ho, hall⟩ := mem_ready.1 hi
 rw [ho] at hb
 have hb := Option.some.inj hb
 rw [Array.any_eq_true'] at hb
 obtain ⟨e, he, h1⟩ := hb
 rw [Bool.and_eq_true, beq_iff_eq] at h1
 have h2 := hall e he h1.2
 rw [h1.1] at h2
 have h3 : j < ls.size := by rw [h.sz]; exact hj
 simp only [Array.getD_eq_getD_getElem?, Array.getElem?_eq_getElem h3, Option.getD_some] at h2 ⊢
 exact h2
theorem getD_set {ls : Array Bool} {i j : Nat} : (ls.setIfInBounds i true).getD j true = if i = j then true else ls.getD j true := by
 simp only [Array.getD_eq_getD_getElem?, Array.getElem?_setIfInBounds]
 split
 ·split <;> simp
 ·rfl
theorem cnt_set {ls : Array Bool} {i n : Nat} (hs : i < ls.size) (hf : ls.getD i true = false) (h : ls.toList.countP (fun x => !x) = n + 1) : (ls.setIfInBounds i true).toList.countP (fun x => !x) = n := by
 have hl : i < ls.toList.length := by simpa using hs
 have hg : ls.toList[i] = false := by
  simp only [Array.getD_eq_getD_getElem?, Array.getElem?_eq_getElem hs, Option.getD_some] at hf
  simpa using hf
 rw [Array.toList_setIfInBounds, List.countP_set (h := hl), h, hg]
 simp
theorem put_ne {a : Act} {d e : Nat} {v : Value} (h : d ≠ e) : (a.put (some d) v).tmps[e]?.getD undef = a.tmps[e]?.getD undef := by
 unfold Act.put
 dsimp only
 rw [Array.getElem?_setIfInBounds_ne h]
theorem put_eq {a : Act} {d : Nat} {v : Value} (h : d < a.tmps.size) : (a.put (some d) v).tmps[d]?.getD undef = v := by
 unfold Act.put
 dsimp only
 rw [Array.getElem?_setIfInBounds, if_pos rfl, if_pos h]
 rfl
def plainIx (i : Nat) : Bool := i != 0 && !(insX.map (·.1)).contains i
/-- An operation with a result, other than those of the map. -/
theorem Inv.put (h : Inv c (fuel + 1) ls a w) (hi : i ∈ Region.ready .any opsR ls) {k : OpK} {d : Nat} {v : Value} {w' : World} (hk : c.tbl[i]? = some k) (hd : k.dst = some d) (hp : plainIx i = true) (hE : EOk (a.put (some d) v) w' k) (he : Ext w w')
  (hm : i = 80 ∨ i = 81 → ls.getD 0 true = true ∧ ∀ bm, a.tmps[24]?.getD undef = .map (some bm) → (ls.getD 80 true = true → a.tmps[92]?.getD undef = .map (some bm)) → v = .map (some bm)) :
  Inv c fuel (ls.setIfInBounds i true) (a.put (some d) v) w' := by
 have h82 := ready_lt hi
 have hf := (mem_ready.1 hi).1
 obtain ⟨hb, hb2⟩ := dst_bd hk hd
 unfold plainIx at hp
 simp only [Bool.and_eq_true, bne_iff_ne, ne_eq, Bool.not_eq_true', List.contains_eq_mem, decide_eq_false_iff_not] at hp
 obtain ⟨hp0, hpm⟩ := hp
 refine ⟨by rw [Array.size_setIfInBounds]; exact h.sz, cnt_set (by rw [h.sz]; exact h82) hf h.cnt, ?_, h.df, ?_, ?_, ?_, ?_, ?_, ?_, ?_, h.rS.ext he, h.rX.ext he, h.ex.trans he, fun j kj hj hl => ?_, ?_⟩
 ·show (a.tmps.setIfInBounds d v).size = 93
  rw [Array.size_setIfInBounds]; exact h.tsz
 ·rw [put_ne (by omega)]; exact h.t1
 ·rw [put_ne (by omega)]; exact h.t3
 ·rw [put_ne (by omega)]; exact h.t4
 ·rw [put_ne (by omega)]; exact h.t5
 ·rw [put_ne (by omega)]; exact h.t6
 ·rw [put_ne (by omega)]; exact h.t7
 ·rw [put_ne (by omega)]; exact h.t8
 ·rw [getD_set] at hl
  by_cases hij : i = j
  ·subst hij
   rw [hk] at hj
   cases hj
   exact hE
  ·rw [if_neg hij] at hl
   exact (h.res j kj hj hl).move (fun d' hd' => put_ne (fun e => dst_ne hij hk hj hd (by rw [hd', e]))) (fun _ _ _ r => r.ext he) fun _ _ r => r.ext he
 ·rcases h.map with ⟨m1, m2⟩ | ⟨m1, ⟨bm, p, n, q1, q2, q3, q4, q5, q6, q7⟩⟩
  ·refine .inl ⟨by rw [getD_set, if_neg hp0]; exact m1, fun j hj => ?_⟩
   by_cases hij : i = j
   ·subst hij
    have hj2 : i = 80 ∨ i = 81 := by
     rcases List.mem_append.1 hj with hj | hj
     ·exact absurd hj hpm
     ·simpa using hj
    rw [(hm hj2).1] at m1
    cases m1
   ·rw [getD_set, if_neg hij]
    exact m2 j hj
  ·have n24 : d ≠ 24 := fun e => dst_ne (c := c) (i := i) (j := 0) hp0 hk rfl hd (by rw [e]; rfl)
   have hid : ∀ j, dstL[j]? = some (some d) → i = j := fun j hj => by
    refine Decidable.byContradiction fun hne => ?_
    have hj' : (c.tbl.map OpK.dst)[j]? = some (some d) := by rw [tbl_dst]; exact hj
    rw [List.getElem?_map, Option.map_eq_some_iff] at hj'
    obtain ⟨kj, g1, g2⟩ := hj'
    exact dst_ne hne hk g1 hd g2
   have hdi : ∀ j e, i = j → dstL[j]? = some (some e) → d = e := fun j e hij hj => by
    subst hij
    rw [dst_at hk, hd] at hj
    injection hj with hj
    injection hj
   refine .inr ⟨by rw [getD_set, if_neg hp0]; exact m1, ⟨bm, p, n, by rw [put_ne n24]; exact q1, q2.ext he, by omega, fun x hx hl h5 => ?_, fun hl => ?_, fun hl => ?_, q7⟩⟩
   ·rw [getD_set, if_neg (fun e => hpm (by rw [e]; exact List.mem_map.2 ⟨x, hx, rfl⟩))] at hl
    obtain ⟨q, a1, a2⟩ := q4 x hx hl h5
    exact ⟨q, a1, a2.ext he⟩
   ·by_cases h80 : i = 80
    ·obtain rfl := hdi 80 92 h80 rfl
     rw [put_eq (by rw [h.tsz]; decide)]
     exact (hm (.inl h80)).2 bm q1 q5
    ·rw [getD_set, if_neg h80] at hl
     rw [put_ne (fun e => h80 (hid 80 (by rw [e]; rfl)))]
     exact q5 hl
   ·by_cases h81 : i = 81
    ·obtain rfl := hdi 81 2 h81 rfl
     rw [put_eq (by rw [h.tsz]; decide)]
     exact (hm (.inr h81)).2 bm q1 q5
    ·rw [getD_set, if_neg h81] at hl
     rw [put_ne (fun e => h81 (hid 81 (by rw [e]; rfl)))]
     exact q6 hl
theorem op_of {op : Op} {d : Option Tmp} (ho : (opsR[i]?).map (fun o => (o.op, o.dst, o.guard)) = some (op, d, none)) : ∃ o, opsR[i]? = some o ∧ o.op = op ∧ o.dst = d ∧ o.guard = none := by
 obtain ⟨o, h1, h2⟩ := Option.map_eq_some_iff.1 ho
 simp only [Prod.mk.injEq] at h2
 exact ⟨o, h1, h2⟩
theorem st_val (h : Inv c (fuel + 1) ls a w) (hi : i ∈ Region.ready .any opsR ls) {op : Op} {d : Nat} {u : Value} (ho : (opsR[i]?).map (fun o => (o.op, o.dst, o.guard)) = some (op, some d, none)) (hk : c.tbl[i]? = some (.val d u)) (hp : plainIx i = true) (h8 : i < 80)
  (hrun : ∀ o : Oper, o.op = op → (execOp a.eval o).run Tryz.prog w = .ok (.value u) w) : wpOp Tryz.prog opsR Q i (Inv c fuel (ls.setIfInBounds i true)) a w := by
 obtain ⟨o, h1, h2, h3, h4⟩ := op_of ho
 refine wpOp_val h1 h4 (hrun o h2) ?_
 rw [h3]
 exact h.put hi hk rfl hp (put_eq (by rw [h.tsz]; exact (dst_bd hk rfl).2)) (Ext.refl _) (fun e => by omega)
theorem st_mem (h : Inv c (fuel + 1) ls a w) (hi : i ∈ Region.ready .any opsR ls) {op : Op} {d : Nat} {u : Value} {f : FuncId} {args : Array Value} (ho : (opsR[i]?).map (fun o => (o.op, o.dst, o.guard)) = some (op, some d, none)) (hk : c.tbl[i]? = some (.val d u)) (hp : plainIx i = true) (h8 : i < 80)
  (hC : Calls Tryz.prog f args w fun e w' => e = .returned u ∧ Ext w w') (hrun : ∀ o : Oper, o.op = op → (execOp a.eval o).run Tryz.prog w = .ok (.enter f args) w) : wpOp Tryz.prog opsR Q i (Inv c fuel (ls.setIfInBounds i true)) a w := by
 obtain ⟨o, h1, h2, h3, h4⟩ := op_of ho
 refine wpOp_call h1 h4 (hrun o h2) (hC.mono fun e w' ⟨he, hx⟩ => ⟨u, he, ?_⟩)
 rw [h3]
 exact h.put hi hk rfl hp (put_eq (by rw [h.tsz]; exact (dst_bd hk rfl).2)) hx (fun e => by omega)
theorem st_bs (h : Inv c (fuel + 1) ls a w) (hi : i ∈ Region.ready .any opsR ls) {op : Op} {d : Nat} {l : List ByteArray} (ho : (opsR[i]?).map (fun o => (o.op, o.dst, o.guard)) = some (op, some d, none)) (hk : c.tbl[i]? = some (.bs d l)) (hp : plainIx i = true) (h8 : i < 80)
  (hrun : ∀ o : Oper, o.op = op → (execOp a.eval o).run Tryz.prog w = .ok (.value (.slice (some ⟨w.heap.size, 0, none⟩) l.length l.length)) (w.alloc (.cells (l.map .string).toArray 9))) : wpOp Tryz.prog opsR Q i (Inv c fuel (ls.setIfInBounds i true)) a w := by
 obtain ⟨o, h1, h2, h3, h4⟩ := op_of ho
 refine wpOp_val h1 h4 (hrun o h2) ?_
 rw [h3]
 exact h.put hi hk rfl hp ⟨w.heap.size, put_eq (by rw [h.tsz]; exact (dst_bd hk rfl).2), RowV.new _ _ _⟩ (Ext.new _ _) (fun e => by omega)
theorem st_fn (h : Inv c (fuel + 1) ls a w) (hi : i ∈ Region.ready .any opsR ls) {op : Op} {d : Nat} {l : List ByteArray} {A : Option Addr} {n k : Nat} (ho : (opsR[i]?).map (fun o => (o.op, o.dst, o.guard)) = some (op, some d, none)) (hk : c.tbl[i]? = some (.fn d l)) (hp : plainIx i = true) (h8 : i < 80)
  (hl : (l = [] ∧ A = none ∧ n = 0 ∧ k = 0) ∨ ∃ g, A = some ⟨g, 0, none⟩ ∧ n = l.length ∧ k = l.length ∧ RowV w g 9 (l.map .string))
  (hrun : ∀ o : Oper, o.op = op → (execOp a.eval o).run Tryz.prog w = .ok (.enter 44 #[.slice A n k]) w) : wpOp Tryz.prog opsR Q i (Inv c fuel (ls.setIfInBounds i true)) a w := by
 obtain ⟨o, h1, h2, h3, h4⟩ := op_of ho
 refine wpOp_call h1 h4 (hrun o h2) ((list_any A n k w).mono fun e w' ⟨he, hr, hx⟩ => ⟨_, he, ?_⟩)
 rw [h3]
 exact h.put hi hk rfl hp ⟨w.heap.size, put_eq (by rw [h.tsz]; exact (dst_bd hk rfl).2), A, n, k, hr, hl.imp id fun ⟨g, a1, a2, a3, a4⟩ => ⟨g, a1, a2, a3, a4.ext hx⟩⟩ hx (fun e => by omega)
theorem I64_lit (k : Int) (h : -9223372036854775808 ≤ k ∧ k ≤ 9223372036854775807) : I64 k := h
/-- The map is made. -/
theorem st_mk (h : Inv c (fuel + 1) ls a w) (hi : 0 ∈ Region.ready .any opsR ls) {op : Op} (ho : (opsR[0]?).map (fun o => (o.op, o.dst, o.guard)) = some (op, some 24, none))
  (hrun : ∀ o : Oper, o.op = op → (execOp a.eval o).run Tryz.prog w = .ok (.value (.map (some w.heap.size))) (w.alloc (.map #[] 0))) : wpOp Tryz.prog opsR Q 0 (Inv c fuel (ls.setIfInBounds 0 true)) a w := by
 obtain ⟨o, h1, h2, h3, h4⟩ := op_of ho
 refine wpOp_val h1 h4 (hrun o h2) ?_
 rw [h3]
 have hf := (mem_ready.1 hi).1
 have he := Ext.new w (.map #[] 0)
 have hm : ∀ i ∈ mapIx, ls.getD i true = false := by
  rcases h.map with ⟨-, m2⟩ | ⟨m1, -⟩
  ·exact m2
  ·rw [hf] at m1; cases m1
 have hn : ∀ i ∈ mapIx, (0 : Nat) ≠ i := by decide
 refine ⟨by rw [Array.size_setIfInBounds]; exact h.sz, cnt_set (by rw [h.sz]; decide) hf h.cnt, ?_, h.df, ?_, ?_, ?_, ?_, ?_, ?_, ?_, h.rS.ext he, h.rX.ext he, h.ex.trans he, fun j kj hj hl => ?_, ?_⟩
 ·show (a.tmps.setIfInBounds 24 _).size = 93
  rw [Array.size_setIfInBounds]; exact h.tsz
 ·rw [put_ne (by decide)]; exact h.t1
 ·rw [put_ne (by decide)]; exact h.t3
 ·rw [put_ne (by decide)]; exact h.t4
 ·rw [put_ne (by decide)]; exact h.t5
 ·rw [put_ne (by decide)]; exact h.t6
 ·rw [put_ne (by decide)]; exact h.t7
 ·rw [put_ne (by decide)]; exact h.t8
 ·rw [getD_set] at hl
  by_cases hij : 0 = j
  ·subst hij
   cases hj
   exact trivial
  ·rw [if_neg hij] at hl
   exact (h.res j kj hj hl).move (fun d' hd' => put_ne (fun e => dst_ne (c := c) (i := 0) (d := 24) hij rfl hj rfl (by rw [hd', e]))) (fun _ _ _ r => r.ext he) fun _ _ r => r.ext he
 ·refine .inr ⟨by rw [getD_set, if_pos rfl], ⟨w.heap.size, fun _ => none, 0, put_eq (by rw [h.tsz]; decide), MapF.made w, ?_, fun x hx hl => ?_, fun hl => ?_, fun hl => ?_, ?_⟩⟩
  ·have h2 : ls.toList.countP (fun x => !x) ≤ ls.toList.length := List.countP_le_length
   rw [h.cnt, Array.length_toList, h.sz] at h2
   omega
  ·have hx' : x.1 ∈ mapIx := List.mem_append_left _ (List.mem_map.2 ⟨x, hx, rfl⟩)
   rw [getD_set, if_neg (hn _ hx'), hm _ hx'] at hl
   cases hl
  ·rw [getD_set, if_neg (by decide), hm 80 (by decide)] at hl
   cases hl
  ·rw [getD_set, if_neg (by decide), hm 81 (by decide)] at hl
   cases hl
  ·exact h.ex.size
theorem ins_apart : (insX.all fun x => x.1 != 0 && x.1 != 80 && x.1 != 81 && insX.all fun y => (x.1 == y.1) == (x.2 == y.2)) = true := by decide +kernel
/-- An entry is made. -/
theorem Inv.ins (h : Inv c (fuel + 1) ls a w) (hi : i ∈ Region.ready .any opsR ls) {op : Op} {s : Nat} {k : Int} (ho : (opsR[i]?).map (fun o => (o.op, o.dst, o.guard)) = some (op, none, none)) (hop : op = .insert 52 (.tmp 24) (.const (.int .i64 k)) (.tmp s))
  (hx : (i, k) ∈ insX) (l0 : ls.getD 0 true = true) {f q : Nat} (hs : a.tmps[s]?.getD undef = funV f q) (hI : I64 k) (hkd : c.tbl[i]? = some (.no none)) (hen : k ≠ 5 → f = 45 ∧ EntR w q (c.ent k)) : wpOp Tryz.prog opsR Q i (Inv c fuel (ls.setIfInBounds i true)) a w := by
 obtain ⟨o, h1, h2, h3, h4⟩ := op_of ho
 have h82 := ready_lt hi
 have hf := (mem_ready.1 hi).1
 obtain ⟨bm, p, n, q1, q2, q3, q4, q5, q6, q7⟩ : ∃ bm p n, a.tmps[24]?.getD undef = .map (some bm) ∧ MapF w bm n p ∧ n + (fuel + 1) ≤ 82 ∧ (∀ x ∈ insX, ls.getD x.1 true = true → x.2 ≠ 5 → ∃ q, p x.2 = some (45, q) ∧ EntR w q (c.ent x.2)) ∧
   (ls.getD 80 true = true → a.tmps[92]?.getD undef = .map (some bm)) ∧ (ls.getD 81 true = true → a.tmps[2]?.getD undef = .map (some bm)) ∧ c.w0.heap.size ≤ bm := by
  rcases h.map with ⟨m1, -⟩ | ⟨-, ⟨m⟩⟩
  ·rw [l0] at m1; cases m1
  ·exact m
 obtain ⟨w', hr, hm', hg⟩ := q2.upd k f q hI (by omega)
 have hrun : (execOp a.eval o).run Tryz.prog w = .ok .skip w' := by
  have e1 : a.eval (.tmp 24) = .map (some bm) := by simpa [Act.eval] using q1
  have e2 : a.eval (.tmp s) = funV f q := by simpa [Act.eval] using hs
  unfold execOp
  rw [h2, hop]
  simp only [e1, e2]
  have e3 : a.eval (.const (.int .i64 k)) = .int .i64 k := rfl
  rw [e3]
  simp [hr]
 refine wpOp_skip h1 h4 hrun ?_
 rw [h3]
 have hae : a.put none undef = a := rfl
 rw [hae]
 have hap := ins_apart
 rw [List.all_eq_true] at hap
 have hap := hap _ hx
 simp only [Bool.and_eq_true, bne_iff_ne, ne_eq, List.all_eq_true, beq_iff_eq] at hap
 obtain ⟨⟨⟨ha0, ha80⟩, ha81⟩, hap⟩ := hap
 have hlt := q2.lt
 have hex : Ext c.w0 w' := h.ex.grown hg fun j hj => by
  cases hj
  exact q7
 refine ⟨by rw [Array.size_setIfInBounds]; exact h.sz, cnt_set (by rw [h.sz]; exact h82) hf h.cnt, h.tsz, h.df, h.t1, h.t3, h.t4, h.t5, h.t6, h.t7, h.t8, h.rS.keep hg (q2.row_ne h.rS), h.rX.keep hg (q2.row_ne h.rX), hex, fun j kj hj hl => ?_, ?_⟩
 ·rw [getD_set] at hl
  by_cases hij : i = j
  ·subst hij
   rw [hkd] at hj
   cases hj
   exact trivial
  ·rw [if_neg hij] at hl
   exact (h.res j kj hj hl).move (fun _ _ => rfl) (fun _ _ _ r => r.keep hg (q2.row_ne r)) fun _ _ r => r.keep q2 hg
 ·refine .inr ⟨by rw [getD_set, if_neg ha0]; exact l0, ⟨bm, _, n + 1, q1, hm', by omega, fun x hx2 hl h5 => ?_, fun hl => ?_, fun hl => ?_, q7⟩⟩
  ·by_cases hk : x.2 = k
   ·have := hen (by rw [← hk]; exact h5)
    obtain ⟨rfl, en⟩ := this
    exact ⟨q, by rw [if_pos hk], by rw [hk]; exact en.keep q2 hg⟩
   ·have hne : i ≠ x.1 := fun e => by
     have h5 := hap x hx2
     rw [beq_iff_eq.2 e] at h5
     exact hk (beq_iff_eq.1 h5.symm).symm
    rw [getD_set, if_neg hne] at hl
    obtain ⟨q', a1, a2⟩ := q4 x hx2 hl h5
    exact ⟨q', by rw [if_neg hk]; exact a1, a2.keep q2 hg⟩
  ·rw [getD_set, if_neg ha80] at hl
   exact q5 hl
  ·rw [getD_set, if_neg ha81] at hl
   exact q6 hl
theorem st_end (h : Inv c (fuel + 1) ls a w) (hi : i ∈ Region.ready .any opsR ls) {op : Op} {d s : Nat} (ho : (opsR[i]?).map (fun o => (o.op, o.dst, o.guard)) = some (op, some d, none)) (hop : op = .move (.tmp s) ∨ op = .assign (.tmp s)) (hk : c.tbl[i]? = some (.no (some d))) (hp : plainIx i = true) (l0 : ls.getD 0 true = true)
  (hs : s = 24 ∨ (s = 92 ∧ ls.getD 80 true = true)) : wpOp Tryz.prog opsR Q i (Inv c fuel (ls.setIfInBounds i true)) a w := by
 obtain ⟨o, h1, h2, h3, h4⟩ := op_of ho
 have hrun : (execOp a.eval o).run Tryz.prog w = .ok (.value (a.tmps[s]?.getD undef)) w := by
  unfold execOp
  rcases hop with rfl | rfl <;> rw [h2] <;> simp [Act.eval]
 refine wpOp_val h1 h4 hrun ?_
 rw [h3]
 refine h.put hi hk rfl hp trivial (Ext.refl _) fun _ => ⟨l0, fun bm q1 q5 => ?_⟩
 rcases hs with rfl | ⟨rfl, l80⟩
 ·exact q1
 ·exact q5 l80
end

set_option maxRecDepth 40000 in
theorem case0 {c : OC} {Q : Exit → Act → World → Prop} (hM7 : ∀ W, Ext c.w0 W → Calls Tryz.prog 8 #[.int .i64 c.n2, .int .i64 c.n3] W fun e w' => e = .returned (.string c.M7) ∧ Ext W w') (hM8 : ∀ W, Ext c.w0 W → Calls Tryz.prog 8 #[.int .i64 c.n1, .int .i64 c.n3] W fun e w' => e = .returned (.string c.M8) ∧ Ext W w') {fuel : Nat} {ls : Array Bool} {a : Act} {w : World} (h : Inv c (fuel + 1) ls a w) (hi : 0 ∈ Region.ready .any opsR ls) :
  wpOp Tryz.prog opsR Q 0 (Inv c fuel (ls.setIfInBounds 0 true)) a w := by
 exact st_mk h hi o0 fun o ho => by
  unfold execOp; rw [ho]; have hmm := @run_makeMap Tryz.prog; go_simp
set_option maxRecDepth 40000 in
theorem case1 {c : OC} {Q : Exit → Act → World → Prop} (hM7 : ∀ W, Ext c.w0 W → Calls Tryz.prog 8 #[.int .i64 c.n2, .int .i64 c.n3] W fun e w' => e = .returned (.string c.M7) ∧ Ext W w') (hM8 : ∀ W, Ext c.w0 W → Calls Tryz.prog 8 #[.int .i64 c.n1, .int .i64 c.n3] W fun e w' => e = .returned (.string c.M8) ∧ Ext W w') {fuel : Nat} {ls : Array Bool} {a : Act} {w : World} (h : Inv c (fuel + 1) ls a w) (hi : 1 ∈ Region.ready .any opsR ls) :
  wpOp Tryz.prog opsR Q 1 (Inv c fuel (ls.setIfInBounds 1 true)) a w := by
 have e1 := h.t4
 exact st_val h hi o1 rfl (by decide) (by decide) fun o ho => by
  unfold execOp; rw [ho]; first | (go_simp; done) | (simp only [EOk] at e1; go_simp; done)
set_option maxRecDepth 40000 in
theorem case2 {c : OC} {Q : Exit → Act → World → Prop} (hM7 : ∀ W, Ext c.w0 W → Calls Tryz.prog 8 #[.int .i64 c.n2, .int .i64 c.n3] W fun e w' => e = .returned (.string c.M7) ∧ Ext W w') (hM8 : ∀ W, Ext c.w0 W → Calls Tryz.prog 8 #[.int .i64 c.n1, .int .i64 c.n3] W fun e w' => e = .returned (.string c.M8) ∧ Ext W w') {fuel : Nat} {ls : Array Bool} {a : Act} {w : World} (h : Inv c (fuel + 1) ls a w) (hi : 2 ∈ Region.ready .any opsR ls) :
  wpOp Tryz.prog opsR Q 2 (Inv c fuel (ls.setIfInBounds 2 true)) a w := by
 have e1 := h.t5
 exact st_val h hi o2 rfl (by decide) (by decide) fun o ho => by
  unfold execOp; rw [ho]; first | (go_simp; done) | (simp only [EOk] at e1; go_simp; done)
set_option maxRecDepth 40000 in
theorem case3 {c : OC} {Q : Exit → Act → World → Prop} (hM7 : ∀ W, Ext c.w0 W → Calls Tryz.prog 8 #[.int .i64 c.n2, .int .i64 c.n3] W fun e w' => e = .returned (.string c.M7) ∧ Ext W w') (hM8 : ∀ W, Ext c.w0 W → Calls Tryz.prog 8 #[.int .i64 c.n1, .int .i64 c.n3] W fun e w' => e = .returned (.string c.M8) ∧ Ext W w') {fuel : Nat} {ls : Array Bool} {a : Act} {w : World} (h : Inv c (fuel + 1) ls a w) (hi : 3 ∈ Region.ready .any opsR ls) :
  wpOp Tryz.prog opsR Q 3 (Inv c fuel (ls.setIfInBounds 3 true)) a w := by
 have e1 := h.t8
 exact st_val h hi o3 rfl (by decide) (by decide) fun o ho => by
  unfold execOp; rw [ho]; first | (go_simp; done) | (simp only [EOk] at e1; go_simp; done)
set_option maxRecDepth 40000 in
theorem case4 {c : OC} {Q : Exit → Act → World → Prop} (hM7 : ∀ W, Ext c.w0 W → Calls Tryz.prog 8 #[.int .i64 c.n2, .int .i64 c.n3] W fun e w' => e = .returned (.string c.M7) ∧ Ext W w') (hM8 : ∀ W, Ext c.w0 W → Calls Tryz.prog 8 #[.int .i64 c.n1, .int .i64 c.n3] W fun e w' => e = .returned (.string c.M8) ∧ Ext W w') {fuel : Nat} {ls : Array Bool} {a : Act} {w : World} (h : Inv c (fuel + 1) ls a w) (hi : 4 ∈ Region.ready .any opsR ls) :
  wpOp Tryz.prog opsR Q 4 (Inv c fuel (ls.setIfInBounds 4 true)) a w := by
 have l2 := h.before hi b4_2 (by decide)
 have e1 := h.res 2 _ rfl l2
 simp only [EOk] at e1
 have l3 := h.before hi b4_3 (by decide)
 have e2 := h.res 3 _ rfl l3
 simp only [EOk] at e2
 exact st_bs h hi o4 rfl (by decide) (by decide) fun o ho => by
  unfold execOp; rw [ho]; go_simp
set_option maxRecDepth 40000 in
theorem case5 {c : OC} {Q : Exit → Act → World → Prop} (hM7 : ∀ W, Ext c.w0 W → Calls Tryz.prog 8 #[.int .i64 c.n2, .int .i64 c.n3] W fun e w' => e = .returned (.string c.M7) ∧ Ext W w') (hM8 : ∀ W, Ext c.w0 W → Calls Tryz.prog 8 #[.int .i64 c.n1, .int .i64 c.n3] W fun e w' => e = .returned (.string c.M8) ∧ Ext W w') {fuel : Nat} {ls : Array Bool} {a : Act} {w : World} (h : Inv c (fuel + 1) ls a w) (hi : 5 ∈ Region.ready .any opsR ls) :
  wpOp Tryz.prog opsR Q 5 (Inv c fuel (ls.setIfInBounds 5 true)) a w := by
 have l1 := h.before hi b5_1 (by decide)
 have e1 := h.res 1 _ rfl l1
 simp only [EOk] at e1
 have l4 := h.before hi b5_4 (by decide)
 obtain ⟨g, e2, rg⟩ := h.res 4 _ rfl l4
 exact st_fn h hi o5 rfl (by decide) (by decide) (.inr ⟨g, rfl, rfl, rfl, rg⟩) fun o ho => by
  unfold execOp; rw [ho]; go_simp
set_option maxRecDepth 40000 in
theorem case6 {c : OC} {Q : Exit → Act → World → Prop} (hM7 : ∀ W, Ext c.w0 W → Calls Tryz.prog 8 #[.int .i64 c.n2, .int .i64 c.n3] W fun e w' => e = .returned (.string c.M7) ∧ Ext W w') (hM8 : ∀ W, Ext c.w0 W → Calls Tryz.prog 8 #[.int .i64 c.n1, .int .i64 c.n3] W fun e w' => e = .returned (.string c.M8) ∧ Ext W w') {fuel : Nat} {ls : Array Bool} {a : Act} {w : World} (h : Inv c (fuel + 1) ls a w) (hi : 6 ∈ Region.ready .any opsR ls) :
  wpOp Tryz.prog opsR Q 6 (Inv c fuel (ls.setIfInBounds 6 true)) a w := by
 have l0 := h.before hi b6_0 (by decide)
 have l5 := h.before hi b6_5 (by decide)
 obtain ⟨x, e2, en⟩ := h.res 5 _ rfl l5
 exact h.ins hi o6 rfl (by decide) l0 e2 (I64_lit 0 (by decide)) rfl (fun _ => ⟨rfl, en⟩)
set_option maxRecDepth 40000 in
theorem case7 {c : OC} {Q : Exit → Act → World → Prop} (hM7 : ∀ W, Ext c.w0 W → Calls Tryz.prog 8 #[.int .i64 c.n2, .int .i64 c.n3] W fun e w' => e = .returned (.string c.M7) ∧ Ext W w') (hM8 : ∀ W, Ext c.w0 W → Calls Tryz.prog 8 #[.int .i64 c.n1, .int .i64 c.n3] W fun e w' => e = .returned (.string c.M8) ∧ Ext W w') {fuel : Nat} {ls : Array Bool} {a : Act} {w : World} (h : Inv c (fuel + 1) ls a w) (hi : 7 ∈ Region.ready .any opsR ls) :
  wpOp Tryz.prog opsR Q 7 (Inv c fuel (ls.setIfInBounds 7 true)) a w := by
 have e1 := h.t4
 exact st_val h hi o7 rfl (by decide) (by decide) fun o ho => by
  unfold execOp; rw [ho]; first | (go_simp; done) | (simp only [EOk] at e1; go_simp; done)
set_option maxRecDepth 40000 in
theorem case8 {c : OC} {Q : Exit → Act → World → Prop} (hM7 : ∀ W, Ext c.w0 W → Calls Tryz.prog 8 #[.int .i64 c.n2, .int .i64 c.n3] W fun e w' => e = .returned (.string c.M7) ∧ Ext W w') (hM8 : ∀ W, Ext c.w0 W → Calls Tryz.prog 8 #[.int .i64 c.n1, .int .i64 c.n3] W fun e w' => e = .returned (.string c.M8) ∧ Ext W w') {fuel : Nat} {ls : Array Bool} {a : Act} {w : World} (h : Inv c (fuel + 1) ls a w) (hi : 8 ∈ Region.ready .any opsR ls) :
  wpOp Tryz.prog opsR Q 8 (Inv c fuel (ls.setIfInBounds 8 true)) a w := by
 have e1 := h.t5
 exact st_val h hi o8 rfl (by decide) (by decide) fun o ho => by
  unfold execOp; rw [ho]; first | (go_simp; done) | (simp only [EOk] at e1; go_simp; done)
set_option maxRecDepth 40000 in
theorem case9 {c : OC} {Q : Exit → Act → World → Prop} (hM7 : ∀ W, Ext c.w0 W → Calls Tryz.prog 8 #[.int .i64 c.n2, .int .i64 c.n3] W fun e w' => e = .returned (.string c.M7) ∧ Ext W w') (hM8 : ∀ W, Ext c.w0 W → Calls Tryz.prog 8 #[.int .i64 c.n1, .int .i64 c.n3] W fun e w' => e = .returned (.string c.M8) ∧ Ext W w') {fuel : Nat} {ls : Array Bool} {a : Act} {w : World} (h : Inv c (fuel + 1) ls a w) (hi : 9 ∈ Region.ready .any opsR ls) :
  wpOp Tryz.prog opsR Q 9 (Inv c fuel (ls.setIfInBounds 9 true)) a w := by
 have l8 := h.before hi b9_8 (by decide)
 have e1 := h.res 8 _ rfl l8
 simp only [EOk] at e1
 exact st_bs h hi o9 rfl (by decide) (by decide) fun o ho => by
  unfold execOp; rw [ho]; go_simp
set_option maxRecDepth 40000 in
theorem case10 {c : OC} {Q : Exit → Act → World → Prop} (hM7 : ∀ W, Ext c.w0 W → Calls Tryz.prog 8 #[.int .i64 c.n2, .int .i64 c.n3] W fun e w' => e = .returned (.string c.M7) ∧ Ext W w') (hM8 : ∀ W, Ext c.w0 W → Calls Tryz.prog 8 #[.int .i64 c.n1, .int .i64 c.n3] W fun e w' => e = .returned (.string c.M8) ∧ Ext W w') {fuel : Nat} {ls : Array Bool} {a : Act} {w : World} (h : Inv c (fuel + 1) ls a w) (hi : 10 ∈ Region.ready .any opsR ls) :
  wpOp Tryz.prog opsR Q 10 (Inv c fuel (ls.setIfInBounds 10 true)) a w := by
 have l7 := h.before hi b10_7 (by decide)
 have e1 := h.res 7 _ rfl l7
 simp only [EOk] at e1
 have l9 := h.before hi b10_9 (by decide)
 obtain ⟨g, e2, rg⟩ := h.res 9 _ rfl l9
 exact st_fn h hi o10 rfl (by decide) (by decide) (.inr ⟨g, rfl, rfl, rfl, rg⟩) fun o ho => by
  unfold execOp; rw [ho]; go_simp
set_option maxRecDepth 40000 in
theorem case11 {c : OC} {Q : Exit → Act → World → Prop} (hM7 : ∀ W, Ext c.w0 W → Calls Tryz.prog 8 #[.int .i64 c.n2, .int .i64 c.n3] W fun e w' => e = .returned (.string c.M7) ∧ Ext W w') (hM8 : ∀ W, Ext c.w0 W → Calls Tryz.prog 8 #[.int .i64 c.n1, .int .i64 c.n3] W fun e w' => e = .returned (.string c.M8) ∧ Ext W w') {fuel : Nat} {ls : Array Bool} {a : Act} {w : World} (h : Inv c (fuel + 1) ls a w) (hi : 11 ∈ Region.ready .any opsR ls) :
  wpOp Tryz.prog opsR Q 11 (Inv c fuel (ls.setIfInBounds 11 true)) a w := by
 have l0 := h.before hi b11_0 (by decide)
 have l10 := h.before hi b11_10 (by decide)
 obtain ⟨x, e2, en⟩ := h.res 10 _ rfl l10
 exact h.ins hi o11 rfl (by decide) l0 e2 (I64_lit 1 (by decide)) rfl (fun _ => ⟨rfl, en⟩)
set_option maxRecDepth 40000 in
theorem case12 {c : OC} {Q : Exit → Act → World → Prop} (hM7 : ∀ W, Ext c.w0 W → Calls Tryz.prog 8 #[.int .i64 c.n2, .int .i64 c.n3] W fun e w' => e = .returned (.string c.M7) ∧ Ext W w') (hM8 : ∀ W, Ext c.w0 W → Calls Tryz.prog 8 #[.int .i64 c.n1, .int .i64 c.n3] W fun e w' => e = .returned (.string c.M8) ∧ Ext W w') {fuel : Nat} {ls : Array Bool} {a : Act} {w : World} (h : Inv c (fuel + 1) ls a w) (hi : 12 ∈ Region.ready .any opsR ls) :
  wpOp Tryz.prog opsR Q 12 (Inv c fuel (ls.setIfInBounds 12 true)) a w := by
 have e1 := h.t4
 exact st_val h hi o12 rfl (by decide) (by decide) fun o ho => by
  unfold execOp; rw [ho]; first | (go_simp; done) | (simp only [EOk] at e1; go_simp; done)
set_option maxRecDepth 40000 in
theorem case13 {c : OC} {Q : Exit → Act → World → Prop} (hM7 : ∀ W, Ext c.w0 W → Calls Tryz.prog 8 #[.int .i64 c.n2, .int .i64 c.n3] W fun e w' => e = .returned (.string c.M7) ∧ Ext W w') (hM8 : ∀ W, Ext c.w0 W → Calls Tryz.prog 8 #[.int .i64 c.n1, .int .i64 c.n3] W fun e w' => e = .returned (.string c.M8) ∧ Ext W w') {fuel : Nat} {ls : Array Bool} {a : Act} {w : World} (h : Inv c (fuel + 1) ls a w) (hi : 13 ∈ Region.ready .any opsR ls) :
  wpOp Tryz.prog opsR Q 13 (Inv c fuel (ls.setIfInBounds 13 true)) a w := by
 have e1 := h.t5
 exact st_val h hi o13 rfl (by decide) (by decide) fun o ho => by
  unfold execOp; rw [ho]; first | (go_simp; done) | (simp only [EOk] at e1; go_simp; done)
set_option maxRecDepth 40000 in
theorem case14 {c : OC} {Q : Exit → Act → World → Prop} (hM7 : ∀ W, Ext c.w0 W → Calls Tryz.prog 8 #[.int .i64 c.n2, .int .i64 c.n3] W fun e w' => e = .returned (.string c.M7) ∧ Ext W w') (hM8 : ∀ W, Ext c.w0 W → Calls Tryz.prog 8 #[.int .i64 c.n1, .int .i64 c.n3] W fun e w' => e = .returned (.string c.M8) ∧ Ext W w') {fuel : Nat} {ls : Array Bool} {a : Act} {w : World} (h : Inv c (fuel + 1) ls a w) (hi : 14 ∈ Region.ready .any opsR ls) :
  wpOp Tryz.prog opsR Q 14 (Inv c fuel (ls.setIfInBounds 14 true)) a w := by
 have e1 := h.t6
 exact st_val h hi o14 rfl (by decide) (by decide) fun o ho => by
  unfold execOp; rw [ho]; first | (go_simp; done) | (simp only [EOk] at e1; go_simp; done)
set_option maxRecDepth 40000 in
theorem case15 {c : OC} {Q : Exit → Act → World → Prop} (hM7 : ∀ W, Ext c.w0 W → Calls Tryz.prog 8 #[.int .i64 c.n2, .int .i64 c.n3] W fun e w' => e = .returned (.string c.M7) ∧ Ext W w') (hM8 : ∀ W, Ext c.w0 W → Calls Tryz.prog 8 #[.int .i64 c.n1, .int .i64 c.n3] W fun e w' => e = .returned (.string c.M8) ∧ Ext W w') {fuel : Nat} {ls : Array Bool} {a : Act} {w : World} (h : Inv c (fuel + 1) ls a w) (hi : 15 ∈ Region.ready .any opsR ls) :
  wpOp Tryz.prog opsR Q 15 (Inv c fuel (ls.setIfInBounds 15 true)) a w := by
 have l13 := h.before hi b15_13 (by decide)
 have e1 := h.res 13 _ rfl l13
 simp only [EOk] at e1
 have l14 := h.before hi b15_14 (by decide)
 have e2 := h.res 14 _ rfl l14
 simp only [EOk] at e2
 exact st_bs h hi o15 rfl (by decide) (by decide) fun o ho => by
  unfold execOp; rw [ho]; go_simp
set_option maxRecDepth 40000 in
theorem case16 {c : OC} {Q : Exit → Act → World → Prop} (hM7 : ∀ W, Ext c.w0 W → Calls Tryz.prog 8 #[.int .i64 c.n2, .int .i64 c.n3] W fun e w' => e = .returned (.string c.M7) ∧ Ext W w') (hM8 : ∀ W, Ext c.w0 W → Calls Tryz.prog 8 #[.int .i64 c.n1, .int .i64 c.n3] W fun e w' => e = .returned (.string c.M8) ∧ Ext W w') {fuel : Nat} {ls : Array Bool} {a : Act} {w : World} (h : Inv c (fuel + 1) ls a w) (hi : 16 ∈ Region.ready .any opsR ls) :
  wpOp Tryz.prog opsR Q 16 (Inv c fuel (ls.setIfInBounds 16 true)) a w := by
 have l12 := h.before hi b16_12 (by decide)
 have e1 := h.res 12 _ rfl l12
 simp only [EOk] at e1
 have l15 := h.before hi b16_15 (by decide)
 obtain ⟨g, e2, rg⟩ := h.res 15 _ rfl l15
 exact st_fn h hi o16 rfl (by decide) (by decide) (.inr ⟨g, rfl, rfl, rfl, rg⟩) fun o ho => by
  unfold execOp; rw [ho]; go_simp
set_option maxRecDepth 40000 in
theorem case17 {c : OC} {Q : Exit → Act → World → Prop} (hM7 : ∀ W, Ext c.w0 W → Calls Tryz.prog 8 #[.int .i64 c.n2, .int .i64 c.n3] W fun e w' => e = .returned (.string c.M7) ∧ Ext W w') (hM8 : ∀ W, Ext c.w0 W → Calls Tryz.prog 8 #[.int .i64 c.n1, .int .i64 c.n3] W fun e w' => e = .returned (.string c.M8) ∧ Ext W w') {fuel : Nat} {ls : Array Bool} {a : Act} {w : World} (h : Inv c (fuel + 1) ls a w) (hi : 17 ∈ Region.ready .any opsR ls) :
  wpOp Tryz.prog opsR Q 17 (Inv c fuel (ls.setIfInBounds 17 true)) a w := by
 have l0 := h.before hi b17_0 (by decide)
 have l16 := h.before hi b17_16 (by decide)
 obtain ⟨x, e2, en⟩ := h.res 16 _ rfl l16
 exact h.ins hi o17 rfl (by decide) l0 e2 (I64_lit 2 (by decide)) rfl (fun _ => ⟨rfl, en⟩)
set_option maxRecDepth 40000 in
theorem case18 {c : OC} {Q : Exit → Act → World → Prop} (hM7 : ∀ W, Ext c.w0 W → Calls Tryz.prog 8 #[.int .i64 c.n2, .int .i64 c.n3] W fun e w' => e = .returned (.string c.M7) ∧ Ext W w') (hM8 : ∀ W, Ext c.w0 W → Calls Tryz.prog 8 #[.int .i64 c.n1, .int .i64 c.n3] W fun e w' => e = .returned (.string c.M8) ∧ Ext W w') {fuel : Nat} {ls : Array Bool} {a : Act} {w : World} (h : Inv c (fuel + 1) ls a w) (hi : 18 ∈ Region.ready .any opsR ls) :
  wpOp Tryz.prog opsR Q 18 (Inv c fuel (ls.setIfInBounds 18 true)) a w := by
 have e1 := h.t4
 exact st_val h hi o18 rfl (by decide) (by decide) fun o ho => by
  unfold execOp; rw [ho]; first | (go_simp; done) | (simp only [EOk] at e1; go_simp; done)
set_option maxRecDepth 40000 in
theorem case19 {c : OC} {Q : Exit → Act → World → Prop} (hM7 : ∀ W, Ext c.w0 W → Calls Tryz.prog 8 #[.int .i64 c.n2, .int .i64 c.n3] W fun e w' => e = .returned (.string c.M7) ∧ Ext W w') (hM8 : ∀ W, Ext c.w0 W → Calls Tryz.prog 8 #[.int .i64 c.n1, .int .i64 c.n3] W fun e w' => e = .returned (.string c.M8) ∧ Ext W w') {fuel : Nat} {ls : Array Bool} {a : Act} {w : World} (h : Inv c (fuel + 1) ls a w) (hi : 19 ∈ Region.ready .any opsR ls) :
  wpOp Tryz.prog opsR Q 19 (Inv c fuel (ls.setIfInBounds 19 true)) a w := by
 have e1 := h.t1
 exact st_val h hi o19 rfl (by decide) (by decide) fun o ho => by
  unfold execOp; rw [ho]; go_simp
set_option maxRecDepth 40000 in
theorem case20 {c : OC} {Q : Exit → Act → World → Prop} (hM7 : ∀ W, Ext c.w0 W → Calls Tryz.prog 8 #[.int .i64 c.n2, .int .i64 c.n3] W fun e w' => e = .returned (.string c.M7) ∧ Ext W w') (hM8 : ∀ W, Ext c.w0 W → Calls Tryz.prog 8 #[.int .i64 c.n1, .int .i64 c.n3] W fun e w' => e = .returned (.string c.M8) ∧ Ext W w') {fuel : Nat} {ls : Array Bool} {a : Act} {w : World} (h : Inv c (fuel + 1) ls a w) (hi : 20 ∈ Region.ready .any opsR ls) :
  wpOp Tryz.prog opsR Q 20 (Inv c fuel (ls.setIfInBounds 20 true)) a w := by
 have l19 := h.before hi b20_19 (by decide)
 have e1 := h.res 19 _ rfl l19
 have q1 := h.rS.cell (i := 7) rfl
 simp only [EOk] at e1
 exact st_val h hi o20 rfl (by decide) (by decide) fun o ho => by
  unfold execOp; rw [ho]; go_simp
set_option maxRecDepth 40000 in
theorem case21 {c : OC} {Q : Exit → Act → World → Prop} (hM7 : ∀ W, Ext c.w0 W → Calls Tryz.prog 8 #[.int .i64 c.n2, .int .i64 c.n3] W fun e w' => e = .returned (.string c.M7) ∧ Ext W w') (hM8 : ∀ W, Ext c.w0 W → Calls Tryz.prog 8 #[.int .i64 c.n1, .int .i64 c.n3] W fun e w' => e = .returned (.string c.M8) ∧ Ext W w') {fuel : Nat} {ls : Array Bool} {a : Act} {w : World} (h : Inv c (fuel + 1) ls a w) (hi : 21 ∈ Region.ready .any opsR ls) :
  wpOp Tryz.prog opsR Q 21 (Inv c fuel (ls.setIfInBounds 21 true)) a w := by
 have l20 := h.before hi b21_20 (by decide)
 have e1 := h.res 20 _ rfl l20
 simp only [EOk] at e1
 exact st_bs h hi o21 rfl (by decide) (by decide) fun o ho => by
  unfold execOp; rw [ho]; go_simp
set_option maxRecDepth 40000 in
theorem case22 {c : OC} {Q : Exit → Act → World → Prop} (hM7 : ∀ W, Ext c.w0 W → Calls Tryz.prog 8 #[.int .i64 c.n2, .int .i64 c.n3] W fun e w' => e = .returned (.string c.M7) ∧ Ext W w') (hM8 : ∀ W, Ext c.w0 W → Calls Tryz.prog 8 #[.int .i64 c.n1, .int .i64 c.n3] W fun e w' => e = .returned (.string c.M8) ∧ Ext W w') {fuel : Nat} {ls : Array Bool} {a : Act} {w : World} (h : Inv c (fuel + 1) ls a w) (hi : 22 ∈ Region.ready .any opsR ls) :
  wpOp Tryz.prog opsR Q 22 (Inv c fuel (ls.setIfInBounds 22 true)) a w := by
 have l18 := h.before hi b22_18 (by decide)
 have e1 := h.res 18 _ rfl l18
 simp only [EOk] at e1
 have l21 := h.before hi b22_21 (by decide)
 obtain ⟨g, e2, rg⟩ := h.res 21 _ rfl l21
 exact st_fn h hi o22 rfl (by decide) (by decide) (.inr ⟨g, rfl, rfl, rfl, rg⟩) fun o ho => by
  unfold execOp; rw [ho]; go_simp
set_option maxRecDepth 40000 in
theorem case23 {c : OC} {Q : Exit → Act → World → Prop} (hM7 : ∀ W, Ext c.w0 W → Calls Tryz.prog 8 #[.int .i64 c.n2, .int .i64 c.n3] W fun e w' => e = .returned (.string c.M7) ∧ Ext W w') (hM8 : ∀ W, Ext c.w0 W → Calls Tryz.prog 8 #[.int .i64 c.n1, .int .i64 c.n3] W fun e w' => e = .returned (.string c.M8) ∧ Ext W w') {fuel : Nat} {ls : Array Bool} {a : Act} {w : World} (h : Inv c (fuel + 1) ls a w) (hi : 23 ∈ Region.ready .any opsR ls) :
  wpOp Tryz.prog opsR Q 23 (Inv c fuel (ls.setIfInBounds 23 true)) a w := by
 have l0 := h.before hi b23_0 (by decide)
 have l22 := h.before hi b23_22 (by decide)
 obtain ⟨x, e2, en⟩ := h.res 22 _ rfl l22
 exact h.ins hi o23 rfl (by decide) l0 e2 (I64_lit 3 (by decide)) rfl (fun _ => ⟨rfl, en⟩)
set_option maxRecDepth 40000 in
theorem case24 {c : OC} {Q : Exit → Act → World → Prop} (hM7 : ∀ W, Ext c.w0 W → Calls Tryz.prog 8 #[.int .i64 c.n2, .int .i64 c.n3] W fun e w' => e = .returned (.string c.M7) ∧ Ext W w') (hM8 : ∀ W, Ext c.w0 W → Calls Tryz.prog 8 #[.int .i64 c.n1, .int .i64 c.n3] W fun e w' => e = .returned (.string c.M8) ∧ Ext W w') {fuel : Nat} {ls : Array Bool} {a : Act} {w : World} (h : Inv c (fuel + 1) ls a w) (hi : 24 ∈ Region.ready .any opsR ls) :
  wpOp Tryz.prog opsR Q 24 (Inv c fuel (ls.setIfInBounds 24 true)) a w := by
 have e1 := h.t4
 exact st_val h hi o24 rfl (by decide) (by decide) fun o ho => by
  unfold execOp; rw [ho]; first | (go_simp; done) | (simp only [EOk] at e1; go_simp; done)
set_option maxRecDepth 40000 in
theorem case25 {c : OC} {Q : Exit → Act → World → Prop} (hM7 : ∀ W, Ext c.w0 W → Calls Tryz.prog 8 #[.int .i64 c.n2, .int .i64 c.n3] W fun e w' => e = .returned (.string c.M7) ∧ Ext W w') (hM8 : ∀ W, Ext c.w0 W → Calls Tryz.prog 8 #[.int .i64 c.n1, .int .i64 c.n3] W fun e w' => e = .returned (.string c.M8) ∧ Ext W w') {fuel : Nat} {ls : Array Bool} {a : Act} {w : World} (h : Inv c (fuel + 1) ls a w) (hi : 25 ∈ Region.ready .any opsR ls) :
  wpOp Tryz.prog opsR Q 25 (Inv c fuel (ls.setIfInBounds 25 true)) a w := by
 have e1 := h.t5
 exact st_val h hi o25 rfl (by decide) (by decide) fun o ho => by
  unfold execOp; rw [ho]; first | (go_simp; done) | (simp only [EOk] at e1; go_simp; done)
set_option maxRecDepth 40000 in
theorem case26 {c : OC} {Q : Exit → Act → World → Prop} (hM7 : ∀ W, Ext c.w0 W → Calls Tryz.prog 8 #[.int .i64 c.n2, .int .i64 c.n3] W fun e w' => e = .returned (.string c.M7) ∧ Ext W w') (hM8 : ∀ W, Ext c.w0 W → Calls Tryz.prog 8 #[.int .i64 c.n1, .int .i64 c.n3] W fun e w' => e = .returned (.string c.M8) ∧ Ext W w') {fuel : Nat} {ls : Array Bool} {a : Act} {w : World} (h : Inv c (fuel + 1) ls a w) (hi : 26 ∈ Region.ready .any opsR ls) :
  wpOp Tryz.prog opsR Q 26 (Inv c fuel (ls.setIfInBounds 26 true)) a w := by
 have e1 := h.t8
 exact st_val h hi o26 rfl (by decide) (by decide) fun o ho => by
  unfold execOp; rw [ho]; first | (go_simp; done) | (simp only [EOk] at e1; go_simp; done)
set_option maxRecDepth 40000 in
theorem case27 {c : OC} {Q : Exit → Act → World → Prop} (hM7 : ∀ W, Ext c.w0 W → Calls Tryz.prog 8 #[.int .i64 c.n2, .int .i64 c.n3] W fun e w' => e = .returned (.string c.M7) ∧ Ext W w') (hM8 : ∀ W, Ext c.w0 W → Calls Tryz.prog 8 #[.int .i64 c.n1, .int .i64 c.n3] W fun e w' => e = .returned (.string c.M8) ∧ Ext W w') {fuel : Nat} {ls : Array Bool} {a : Act} {w : World} (h : Inv c (fuel + 1) ls a w) (hi : 27 ∈ Region.ready .any opsR ls) :
  wpOp Tryz.prog opsR Q 27 (Inv c fuel (ls.setIfInBounds 27 true)) a w := by
 have e1 := h.t1
 exact st_val h hi o27 rfl (by decide) (by decide) fun o ho => by
  unfold execOp; rw [ho]; go_simp
set_option maxRecDepth 40000 in
theorem case28 {c : OC} {Q : Exit → Act → World → Prop} (hM7 : ∀ W, Ext c.w0 W → Calls Tryz.prog 8 #[.int .i64 c.n2, .int .i64 c.n3] W fun e w' => e = .returned (.string c.M7) ∧ Ext W w') (hM8 : ∀ W, Ext c.w0 W → Calls Tryz.prog 8 #[.int .i64 c.n1, .int .i64 c.n3] W fun e w' => e = .returned (.string c.M8) ∧ Ext W w') {fuel : Nat} {ls : Array Bool} {a : Act} {w : World} (h : Inv c (fuel + 1) ls a w) (hi : 28 ∈ Region.ready .any opsR ls) :
  wpOp Tryz.prog opsR Q 28 (Inv c fuel (ls.setIfInBounds 28 true)) a w := by
 have l27 := h.before hi b28_27 (by decide)
 have e1 := h.res 27 _ rfl l27
 have q1 := h.rS.cell (i := 7) rfl
 simp only [EOk] at e1
 exact st_val h hi o28 rfl (by decide) (by decide) fun o ho => by
  unfold execOp; rw [ho]; go_simp
set_option maxRecDepth 40000 in
theorem case29 {c : OC} {Q : Exit → Act → World → Prop} (hM7 : ∀ W, Ext c.w0 W → Calls Tryz.prog 8 #[.int .i64 c.n2, .int .i64 c.n3] W fun e w' => e = .returned (.string c.M7) ∧ Ext W w') (hM8 : ∀ W, Ext c.w0 W → Calls Tryz.prog 8 #[.int .i64 c.n1, .int .i64 c.n3] W fun e w' => e = .returned (.string c.M8) ∧ Ext W w') {fuel : Nat} {ls : Array Bool} {a : Act} {w : World} (h : Inv c (fuel + 1) ls a w) (hi : 29 ∈ Region.ready .any opsR ls) :
  wpOp Tryz.prog opsR Q 29 (Inv c fuel (ls.setIfInBounds 29 true)) a w := by
 have l25 := h.before hi b29_25 (by decide)
 have e1 := h.res 25 _ rfl l25
 simp only [EOk] at e1
 have l26 := h.before hi b29_26 (by decide)
 have e2 := h.res 26 _ rfl l26
 simp only [EOk] at e2
 have l28 := h.before hi b29_28 (by decide)
 have e3 := h.res 28 _ rfl l28
 simp only [EOk] at e3
 exact st_bs h hi o29 rfl (by decide) (by decide) fun o ho => by
  unfold execOp; rw [ho]; go_simp
set_option maxRecDepth 40000 in
theorem case30 {c : OC} {Q : Exit → Act → World → Prop} (hM7 : ∀ W, Ext c.w0 W → Calls Tryz.prog 8 #[.int .i64 c.n2, .int .i64 c.n3] W fun e w' => e = .returned (.string c.M7) ∧ Ext W w') (hM8 : ∀ W, Ext c.w0 W → Calls Tryz.prog 8 #[.int .i64 c.n1, .int .i64 c.n3] W fun e w' => e = .returned (.string c.M8) ∧ Ext W w') {fuel : Nat} {ls : Array Bool} {a : Act} {w : World} (h : Inv c (fuel + 1) ls a w) (hi : 30 ∈ Region.ready .any opsR ls) :
  wpOp Tryz.prog opsR Q 30 (Inv c fuel (ls.setIfInBounds 30 true)) a w := by
 have l24 := h.before hi b30_24 (by decide)
 have e1 := h.res 24 _ rfl l24
 simp only [EOk] at e1
 have l29 := h.before hi b30_29 (by decide)
 obtain ⟨g, e2, rg⟩ := h.res 29 _ rfl l29
 exact st_fn h hi o30 rfl (by decide) (by decide) (.inr ⟨g, rfl, rfl, rfl, rg⟩) fun o ho => by
  unfold execOp; rw [ho]; go_simp
set_option maxRecDepth 40000 in
theorem case31 {c : OC} {Q : Exit → Act → World → Prop} (hM7 : ∀ W, Ext c.w0 W → Calls Tryz.prog 8 #[.int .i64 c.n2, .int .i64 c.n3] W fun e w' => e = .returned (.string c.M7) ∧ Ext W w') (hM8 : ∀ W, Ext c.w0 W → Calls Tryz.prog 8 #[.int .i64 c.n1, .int .i64 c.n3] W fun e w' => e = .returned (.string c.M8) ∧ Ext W w') {fuel : Nat} {ls : Array Bool} {a : Act} {w : World} (h : Inv c (fuel + 1) ls a w) (hi : 31 ∈ Region.ready .any opsR ls) :
  wpOp Tryz.prog opsR Q 31 (Inv c fuel (ls.setIfInBounds 31 true)) a w := by
 have l0 := h.before hi b31_0 (by decide)
 have l30 := h.before hi b31_30 (by decide)
 obtain ⟨x, e2, en⟩ := h.res 30 _ rfl l30
 exact h.ins hi o31 rfl (by decide) l0 e2 (I64_lit 4 (by decide)) rfl (fun _ => ⟨rfl, en⟩)
set_option maxRecDepth 40000 in
theorem case32 {c : OC} {Q : Exit → Act → World → Prop} (hM7 : ∀ W, Ext c.w0 W → Calls Tryz.prog 8 #[.int .i64 c.n2, .int .i64 c.n3] W fun e w' => e = .returned (.string c.M7) ∧ Ext W w') (hM8 : ∀ W, Ext c.w0 W → Calls Tryz.prog 8 #[.int .i64 c.n1, .int .i64 c.n3] W fun e w' => e = .returned (.string c.M8) ∧ Ext W w') {fuel : Nat} {ls : Array Bool} {a : Act} {w : World} (h : Inv c (fuel + 1) ls a w) (hi : 32 ∈ Region.ready .any opsR ls) :
  wpOp Tryz.prog opsR Q 32 (Inv c fuel (ls.setIfInBounds 32 true)) a w := by
 have e1 := h.t3
 exact st_val h hi o32 rfl (by decide) (by decide) fun o ho => by
  unfold execOp; rw [ho]; go_simp
set_option maxRecDepth 40000 in
theorem case33 {c : OC} {Q : Exit → Act → World → Prop} (hM7 : ∀ W, Ext c.w0 W → Calls Tryz.prog 8 #[.int .i64 c.n2, .int .i64 c.n3] W fun e w' => e = .returned (.string c.M7) ∧ Ext W w') (hM8 : ∀ W, Ext c.w0 W → Calls Tryz.prog 8 #[.int .i64 c.n1, .int .i64 c.n3] W fun e w' => e = .returned (.string c.M8) ∧ Ext W w') {fuel : Nat} {ls : Array Bool} {a : Act} {w : World} (h : Inv c (fuel + 1) ls a w) (hi : 33 ∈ Region.ready .any opsR ls) :
  wpOp Tryz.prog opsR Q 33 (Inv c fuel (ls.setIfInBounds 33 true)) a w := by
 have l0 := h.before hi b33_0 (by decide)
 have l32 := h.before hi b33_32 (by decide)
 have e2 := h.res 32 _ rfl l32
 exact h.ins hi o33 rfl (by decide) l0 (f := 46) (q := c.b + 1) e2 (I64_lit 5 (by decide)) rfl (fun h5 => absurd rfl h5)
set_option maxRecDepth 40000 in
theorem case34 {c : OC} {Q : Exit → Act → World → Prop} (hM7 : ∀ W, Ext c.w0 W → Calls Tryz.prog 8 #[.int .i64 c.n2, .int .i64 c.n3] W fun e w' => e = .returned (.string c.M7) ∧ Ext W w') (hM8 : ∀ W, Ext c.w0 W → Calls Tryz.prog 8 #[.int .i64 c.n1, .int .i64 c.n3] W fun e w' => e = .returned (.string c.M8) ∧ Ext W w') {fuel : Nat} {ls : Array Bool} {a : Act} {w : World} (h : Inv c (fuel + 1) ls a w) (hi : 34 ∈ Region.ready .any opsR ls) :
  wpOp Tryz.prog opsR Q 34 (Inv c fuel (ls.setIfInBounds 34 true)) a w := by
 have e1 := h.t4
 exact st_val h hi o34 rfl (by decide) (by decide) fun o ho => by
  unfold execOp; rw [ho]; first | (go_simp; done) | (simp only [EOk] at e1; go_simp; done)
set_option maxRecDepth 40000 in
theorem case35 {c : OC} {Q : Exit → Act → World → Prop} (hM7 : ∀ W, Ext c.w0 W → Calls Tryz.prog 8 #[.int .i64 c.n2, .int .i64 c.n3] W fun e w' => e = .returned (.string c.M7) ∧ Ext W w') (hM8 : ∀ W, Ext c.w0 W → Calls Tryz.prog 8 #[.int .i64 c.n1, .int .i64 c.n3] W fun e w' => e = .returned (.string c.M8) ∧ Ext W w') {fuel : Nat} {ls : Array Bool} {a : Act} {w : World} (h : Inv c (fuel + 1) ls a w) (hi : 35 ∈ Region.ready .any opsR ls) :
  wpOp Tryz.prog opsR Q 35 (Inv c fuel (ls.setIfInBounds 35 true)) a w := by
 have l34 := h.before hi b35_34 (by decide)
 have e1 := h.res 34 _ rfl l34
 simp only [EOk] at e1
 exact st_fn h hi o35 rfl (by decide) (by decide) (.inl ⟨rfl, rfl, rfl, rfl⟩) fun o ho => by
  unfold execOp; rw [ho]; go_simp
set_option maxRecDepth 40000 in
theorem case36 {c : OC} {Q : Exit → Act → World → Prop} (hM7 : ∀ W, Ext c.w0 W → Calls Tryz.prog 8 #[.int .i64 c.n2, .int .i64 c.n3] W fun e w' => e = .returned (.string c.M7) ∧ Ext W w') (hM8 : ∀ W, Ext c.w0 W → Calls Tryz.prog 8 #[.int .i64 c.n1, .int .i64 c.n3] W fun e w' => e = .returned (.string c.M8) ∧ Ext W w') {fuel : Nat} {ls : Array Bool} {a : Act} {w : World} (h : Inv c (fuel + 1) ls a w) (hi : 36 ∈ Region.ready .any opsR ls) :
  wpOp Tryz.prog opsR Q 36 (Inv c fuel (ls.setIfInBounds 36 true)) a w := by
 have l0 := h.before hi b36_0 (by decide)
 have l35 := h.before hi b36_35 (by decide)
 obtain ⟨x, e2, en⟩ := h.res 35 _ rfl l35
 exact h.ins hi o36 rfl (by decide) l0 e2 (I64_lit 6 (by decide)) rfl (fun _ => ⟨rfl, en⟩)
set_option maxRecDepth 40000 in
theorem case37 {c : OC} {Q : Exit → Act → World → Prop} (hM7 : ∀ W, Ext c.w0 W → Calls Tryz.prog 8 #[.int .i64 c.n2, .int .i64 c.n3] W fun e w' => e = .returned (.string c.M7) ∧ Ext W w') (hM8 : ∀ W, Ext c.w0 W → Calls Tryz.prog 8 #[.int .i64 c.n1, .int .i64 c.n3] W fun e w' => e = .returned (.string c.M8) ∧ Ext W w') {fuel : Nat} {ls : Array Bool} {a : Act} {w : World} (h : Inv c (fuel + 1) ls a w) (hi : 37 ∈ Region.ready .any opsR ls) :
  wpOp Tryz.prog opsR Q 37 (Inv c fuel (ls.setIfInBounds 37 true)) a w := by
 have e1 := h.t4
 exact st_val h hi o37 rfl (by decide) (by decide) fun o ho => by
  unfold execOp; rw [ho]; first | (go_simp; done) | (simp only [EOk] at e1; go_simp; done)
set_option maxRecDepth 40000 in
theorem case38 {c : OC} {Q : Exit → Act → World → Prop} (hM7 : ∀ W, Ext c.w0 W → Calls Tryz.prog 8 #[.int .i64 c.n2, .int .i64 c.n3] W fun e w' => e = .returned (.string c.M7) ∧ Ext W w') (hM8 : ∀ W, Ext c.w0 W → Calls Tryz.prog 8 #[.int .i64 c.n1, .int .i64 c.n3] W fun e w' => e = .returned (.string c.M8) ∧ Ext W w') {fuel : Nat} {ls : Array Bool} {a : Act} {w : World} (h : Inv c (fuel + 1) ls a w) (hi : 38 ∈ Region.ready .any opsR ls) :
  wpOp Tryz.prog opsR Q 38 (Inv c fuel (ls.setIfInBounds 38 true)) a w := by
 have e1 := h.t5
 exact st_val h hi o38 rfl (by decide) (by decide) fun o ho => by
  unfold execOp; rw [ho]; first | (go_simp; done) | (simp only [EOk] at e1; go_simp; done)
set_option maxRecDepth 40000 in
theorem case39 {c : OC} {Q : Exit → Act → World → Prop} (hM7 : ∀ W, Ext c.w0 W → Calls Tryz.prog 8 #[.int .i64 c.n2, .int .i64 c.n3] W fun e w' => e = .returned (.string c.M7) ∧ Ext W w') (hM8 : ∀ W, Ext c.w0 W → Calls Tryz.prog 8 #[.int .i64 c.n1, .int .i64 c.n3] W fun e w' => e = .returned (.string c.M8) ∧ Ext W w') {fuel : Nat} {ls : Array Bool} {a : Act} {w : World} (h : Inv c (fuel + 1) ls a w) (hi : 39 ∈ Region.ready .any opsR ls) :
  wpOp Tryz.prog opsR Q 39 (Inv c fuel (ls.setIfInBounds 39 true)) a w := by
 have e1 := h.t3
 exact st_val h hi o39 rfl (by decide) (by decide) fun o ho => by
  unfold execOp; rw [ho]; go_simp
set_option maxRecDepth 40000 in
theorem case40 {c : OC} {Q : Exit → Act → World → Prop} (hM7 : ∀ W, Ext c.w0 W → Calls Tryz.prog 8 #[.int .i64 c.n2, .int .i64 c.n3] W fun e w' => e = .returned (.string c.M7) ∧ Ext W w') (hM8 : ∀ W, Ext c.w0 W → Calls Tryz.prog 8 #[.int .i64 c.n1, .int .i64 c.n3] W fun e w' => e = .returned (.string c.M8) ∧ Ext W w') {fuel : Nat} {ls : Array Bool} {a : Act} {w : World} (h : Inv c (fuel + 1) ls a w) (hi : 40 ∈ Region.ready .any opsR ls) :
  wpOp Tryz.prog opsR Q 40 (Inv c fuel (ls.setIfInBounds 40 true)) a w := by
 have l39 := h.before hi b40_39 (by decide)
 have e1 := h.res 39 _ rfl l39
 have q1 := h.rX.cell (i := 3) rfl
 simp only [EOk] at e1
 exact st_val h hi o40 rfl (by decide) (by decide) fun o ho => by
  unfold execOp; rw [ho]; go_simp
set_option maxRecDepth 40000 in
theorem case41 {c : OC} {Q : Exit → Act → World → Prop} (hM7 : ∀ W, Ext c.w0 W → Calls Tryz.prog 8 #[.int .i64 c.n2, .int .i64 c.n3] W fun e w' => e = .returned (.string c.M7) ∧ Ext W w') (hM8 : ∀ W, Ext c.w0 W → Calls Tryz.prog 8 #[.int .i64 c.n1, .int .i64 c.n3] W fun e w' => e = .returned (.string c.M8) ∧ Ext W w') {fuel : Nat} {ls : Array Bool} {a : Act} {w : World} (h : Inv c (fuel + 1) ls a w) (hi : 41 ∈ Region.ready .any opsR ls) :
  wpOp Tryz.prog opsR Q 41 (Inv c fuel (ls.setIfInBounds 41 true)) a w := by
 have e1 := h.t3
 exact st_val h hi o41 rfl (by decide) (by decide) fun o ho => by
  unfold execOp; rw [ho]; go_simp
set_option maxRecDepth 40000 in
theorem case42 {c : OC} {Q : Exit → Act → World → Prop} (hM7 : ∀ W, Ext c.w0 W → Calls Tryz.prog 8 #[.int .i64 c.n2, .int .i64 c.n3] W fun e w' => e = .returned (.string c.M7) ∧ Ext W w') (hM8 : ∀ W, Ext c.w0 W → Calls Tryz.prog 8 #[.int .i64 c.n1, .int .i64 c.n3] W fun e w' => e = .returned (.string c.M8) ∧ Ext W w') {fuel : Nat} {ls : Array Bool} {a : Act} {w : World} (h : Inv c (fuel + 1) ls a w) (hi : 42 ∈ Region.ready .any opsR ls) :
  wpOp Tryz.prog opsR Q 42 (Inv c fuel (ls.setIfInBounds 42 true)) a w := by
 have l41 := h.before hi b42_41 (by decide)
 have e1 := h.res 41 _ rfl l41
 have q1 := h.rX.cell (i := 4) rfl
 simp only [EOk] at e1
 exact st_val h hi o42 rfl (by decide) (by decide) fun o ho => by
  unfold execOp; rw [ho]; go_simp
set_option maxRecDepth 40000 in
theorem case43 {c : OC} {Q : Exit → Act → World → Prop} (hM7 : ∀ W, Ext c.w0 W → Calls Tryz.prog 8 #[.int .i64 c.n2, .int .i64 c.n3] W fun e w' => e = .returned (.string c.M7) ∧ Ext W w') (hM8 : ∀ W, Ext c.w0 W → Calls Tryz.prog 8 #[.int .i64 c.n1, .int .i64 c.n3] W fun e w' => e = .returned (.string c.M8) ∧ Ext W w') {fuel : Nat} {ls : Array Bool} {a : Act} {w : World} (h : Inv c (fuel + 1) ls a w) (hi : 43 ∈ Region.ready .any opsR ls) :
  wpOp Tryz.prog opsR Q 43 (Inv c fuel (ls.setIfInBounds 43 true)) a w := by
 have l40 := h.before hi b43_40 (by decide)
 have e1 := h.res 40 _ rfl l40
 simp only [EOk] at e1
 have l42 := h.before hi b43_42 (by decide)
 have e2 := h.res 42 _ rfl l42
 simp only [EOk] at e2
 exact st_mem h hi o43 rfl (by decide) (by decide) (hM7 w h.ex) fun o ho => by
  unfold execOp; rw [ho]; go_simp
set_option maxRecDepth 40000 in
theorem case44 {c : OC} {Q : Exit → Act → World → Prop} (hM7 : ∀ W, Ext c.w0 W → Calls Tryz.prog 8 #[.int .i64 c.n2, .int .i64 c.n3] W fun e w' => e = .returned (.string c.M7) ∧ Ext W w') (hM8 : ∀ W, Ext c.w0 W → Calls Tryz.prog 8 #[.int .i64 c.n1, .int .i64 c.n3] W fun e w' => e = .returned (.string c.M8) ∧ Ext W w') {fuel : Nat} {ls : Array Bool} {a : Act} {w : World} (h : Inv c (fuel + 1) ls a w) (hi : 44 ∈ Region.ready .any opsR ls) :
  wpOp Tryz.prog opsR Q 44 (Inv c fuel (ls.setIfInBounds 44 true)) a w := by
 have l38 := h.before hi b44_38 (by decide)
 have e1 := h.res 38 _ rfl l38
 simp only [EOk] at e1
 have l43 := h.before hi b44_43 (by decide)
 have e2 := h.res 43 _ rfl l43
 simp only [EOk] at e2
 exact st_bs h hi o44 rfl (by decide) (by decide) fun o ho => by
  unfold execOp; rw [ho]; go_simp
set_option maxRecDepth 40000 in
theorem case45 {c : OC} {Q : Exit → Act → World → Prop} (hM7 : ∀ W, Ext c.w0 W → Calls Tryz.prog 8 #[.int .i64 c.n2, .int .i64 c.n3] W fun e w' => e = .returned (.string c.M7) ∧ Ext W w') (hM8 : ∀ W, Ext c.w0 W → Calls Tryz.prog 8 #[.int .i64 c.n1, .int .i64 c.n3] W fun e w' => e = .returned (.string c.M8) ∧ Ext W w') {fuel : Nat} {ls : Array Bool} {a : Act} {w : World} (h : Inv c (fuel + 1) ls a w) (hi : 45 ∈ Region.ready .any opsR ls) :
  wpOp Tryz.prog opsR Q 45 (Inv c fuel (ls.setIfInBounds 45 true)) a w := by
 have l37 := h.before hi b45_37 (by decide)
 have e1 := h.res 37 _ rfl l37
 simp only [EOk] at e1
 have l44 := h.before hi b45_44 (by decide)
 obtain ⟨g, e2, rg⟩ := h.res 44 _ rfl l44
 exact st_fn h hi o45 rfl (by decide) (by decide) (.inr ⟨g, rfl, rfl, rfl, rg⟩) fun o ho => by
  unfold execOp; rw [ho]; go_simp
set_option maxRecDepth 40000 in
theorem case46 {c : OC} {Q : Exit → Act → World → Prop} (hM7 : ∀ W, Ext c.w0 W → Calls Tryz.prog 8 #[.int .i64 c.n2, .int .i64 c.n3] W fun e w' => e = .returned (.string c.M7) ∧ Ext W w') (hM8 : ∀ W, Ext c.w0 W → Calls Tryz.prog 8 #[.int .i64 c.n1, .int .i64 c.n3] W fun e w' => e = .returned (.string c.M8) ∧ Ext W w') {fuel : Nat} {ls : Array Bool} {a : Act} {w : World} (h : Inv c (fuel + 1) ls a w) (hi : 46 ∈ Region.ready .any opsR ls) :
  wpOp Tryz.prog opsR Q 46 (Inv c fuel (ls.setIfInBounds 46 true)) a w := by
 have l0 := h.before hi b46_0 (by decide)
 have l45 := h.before hi b46_45 (by decide)
 obtain ⟨x, e2, en⟩ := h.res 45 _ rfl l45
 exact h.ins hi o46 rfl (by decide) l0 e2 (I64_lit 7 (by decide)) rfl (fun _ => ⟨rfl, en⟩)
set_option maxRecDepth 40000 in
theorem case47 {c : OC} {Q : Exit → Act → World → Prop} (hM7 : ∀ W, Ext c.w0 W → Calls Tryz.prog 8 #[.int .i64 c.n2, .int .i64 c.n3] W fun e w' => e = .returned (.string c.M7) ∧ Ext W w') (hM8 : ∀ W, Ext c.w0 W → Calls Tryz.prog 8 #[.int .i64 c.n1, .int .i64 c.n3] W fun e w' => e = .returned (.string c.M8) ∧ Ext W w') {fuel : Nat} {ls : Array Bool} {a : Act} {w : World} (h : Inv c (fuel + 1) ls a w) (hi : 47 ∈ Region.ready .any opsR ls) :
  wpOp Tryz.prog opsR Q 47 (Inv c fuel (ls.setIfInBounds 47 true)) a w := by
 have e1 := h.t4
 exact st_val h hi o47 rfl (by decide) (by decide) fun o ho => by
  unfold execOp; rw [ho]; first | (go_simp; done) | (simp only [EOk] at e1; go_simp; done)
set_option maxRecDepth 40000 in
theorem case48 {c : OC} {Q : Exit → Act → World → Prop} (hM7 : ∀ W, Ext c.w0 W → Calls Tryz.prog 8 #[.int .i64 c.n2, .int .i64 c.n3] W fun e w' => e = .returned (.string c.M7) ∧ Ext W w') (hM8 : ∀ W, Ext c.w0 W → Calls Tryz.prog 8 #[.int .i64 c.n1, .int .i64 c.n3] W fun e w' => e = .returned (.string c.M8) ∧ Ext W w') {fuel : Nat} {ls : Array Bool} {a : Act} {w : World} (h : Inv c (fuel + 1) ls a w) (hi : 48 ∈ Region.ready .any opsR ls) :
  wpOp Tryz.prog opsR Q 48 (Inv c fuel (ls.setIfInBounds 48 true)) a w := by
 have e1 := h.t3
 exact st_val h hi o48 rfl (by decide) (by decide) fun o ho => by
  unfold execOp; rw [ho]; go_simp
set_option maxRecDepth 40000 in
theorem case49 {c : OC} {Q : Exit → Act → World → Prop} (hM7 : ∀ W, Ext c.w0 W → Calls Tryz.prog 8 #[.int .i64 c.n2, .int .i64 c.n3] W fun e w' => e = .returned (.string c.M7) ∧ Ext W w') (hM8 : ∀ W, Ext c.w0 W → Calls Tryz.prog 8 #[.int .i64 c.n1, .int .i64 c.n3] W fun e w' => e = .returned (.string c.M8) ∧ Ext W w') {fuel : Nat} {ls : Array Bool} {a : Act} {w : World} (h : Inv c (fuel + 1) ls a w) (hi : 49 ∈ Region.ready .any opsR ls) :
  wpOp Tryz.prog opsR Q 49 (Inv c fuel (ls.setIfInBounds 49 true)) a w := by
 have l48 := h.before hi b49_48 (by decide)
 have e1 := h.res 48 _ rfl l48
 have q1 := h.rX.cell (i := 2) rfl
 simp only [EOk] at e1
 exact st_val h hi o49 rfl (by decide) (by decide) fun o ho => by
  unfold execOp; rw [ho]; go_simp
set_option maxRecDepth 40000 in
theorem case50 {c : OC} {Q : Exit → Act → World → Prop} (hM7 : ∀ W, Ext c.w0 W → Calls Tryz.prog 8 #[.int .i64 c.n2, .int .i64 c.n3] W fun e w' => e = .returned (.string c.M7) ∧ Ext W w') (hM8 : ∀ W, Ext c.w0 W → Calls Tryz.prog 8 #[.int .i64 c.n1, .int .i64 c.n3] W fun e w' => e = .returned (.string c.M8) ∧ Ext W w') {fuel : Nat} {ls : Array Bool} {a : Act} {w : World} (h : Inv c (fuel + 1) ls a w) (hi : 50 ∈ Region.ready .any opsR ls) :
  wpOp Tryz.prog opsR Q 50 (Inv c fuel (ls.setIfInBounds 50 true)) a w := by
 have e1 := h.t3
 exact st_val h hi o50 rfl (by decide) (by decide) fun o ho => by
  unfold execOp; rw [ho]; go_simp
set_option maxRecDepth 40000 in
theorem case51 {c : OC} {Q : Exit → Act → World → Prop} (hM7 : ∀ W, Ext c.w0 W → Calls Tryz.prog 8 #[.int .i64 c.n2, .int .i64 c.n3] W fun e w' => e = .returned (.string c.M7) ∧ Ext W w') (hM8 : ∀ W, Ext c.w0 W → Calls Tryz.prog 8 #[.int .i64 c.n1, .int .i64 c.n3] W fun e w' => e = .returned (.string c.M8) ∧ Ext W w') {fuel : Nat} {ls : Array Bool} {a : Act} {w : World} (h : Inv c (fuel + 1) ls a w) (hi : 51 ∈ Region.ready .any opsR ls) :
  wpOp Tryz.prog opsR Q 51 (Inv c fuel (ls.setIfInBounds 51 true)) a w := by
 have l50 := h.before hi b51_50 (by decide)
 have e1 := h.res 50 _ rfl l50
 have q1 := h.rX.cell (i := 4) rfl
 simp only [EOk] at e1
 exact st_val h hi o51 rfl (by decide) (by decide) fun o ho => by
  unfold execOp; rw [ho]; go_simp
set_option maxRecDepth 40000 in
theorem case52 {c : OC} {Q : Exit → Act → World → Prop} (hM7 : ∀ W, Ext c.w0 W → Calls Tryz.prog 8 #[.int .i64 c.n2, .int .i64 c.n3] W fun e w' => e = .returned (.string c.M7) ∧ Ext W w') (hM8 : ∀ W, Ext c.w0 W → Calls Tryz.prog 8 #[.int .i64 c.n1, .int .i64 c.n3] W fun e w' => e = .returned (.string c.M8) ∧ Ext W w') {fuel : Nat} {ls : Array Bool} {a : Act} {w : World} (h : Inv c (fuel + 1) ls a w) (hi : 52 ∈ Region.ready .any opsR ls) :
  wpOp Tryz.prog opsR Q 52 (Inv c fuel (ls.setIfInBounds 52 true)) a w := by
 have l49 := h.before hi b52_49 (by decide)
 have e1 := h.res 49 _ rfl l49
 simp only [EOk] at e1
 have l51 := h.before hi b52_51 (by decide)
 have e2 := h.res 51 _ rfl l51
 simp only [EOk] at e2
 exact st_mem h hi o52 rfl (by decide) (by decide) (hM8 w h.ex) fun o ho => by
  unfold execOp; rw [ho]; go_simp
set_option maxRecDepth 40000 in
theorem case53 {c : OC} {Q : Exit → Act → World → Prop} (hM7 : ∀ W, Ext c.w0 W → Calls Tryz.prog 8 #[.int .i64 c.n2, .int .i64 c.n3] W fun e w' => e = .returned (.string c.M7) ∧ Ext W w') (hM8 : ∀ W, Ext c.w0 W → Calls Tryz.prog 8 #[.int .i64 c.n1, .int .i64 c.n3] W fun e w' => e = .returned (.string c.M8) ∧ Ext W w') {fuel : Nat} {ls : Array Bool} {a : Act} {w : World} (h : Inv c (fuel + 1) ls a w) (hi : 53 ∈ Region.ready .any opsR ls) :
  wpOp Tryz.prog opsR Q 53 (Inv c fuel (ls.setIfInBounds 53 true)) a w := by
 have e1 := h.t7
 exact st_val h hi o53 rfl (by decide) (by decide) fun o ho => by
  unfold execOp; rw [ho]; first | (go_simp; done) | (simp only [EOk] at e1; go_simp; done)
set_option maxRecDepth 40000 in
theorem case54 {c : OC} {Q : Exit → Act → World → Prop} (hM7 : ∀ W, Ext c.w0 W → Calls Tryz.prog 8 #[.int .i64 c.n2, .int .i64 c.n3] W fun e w' => e = .returned (.string c.M7) ∧ Ext W w') (hM8 : ∀ W, Ext c.w0 W → Calls Tryz.prog 8 #[.int .i64 c.n1, .int .i64 c.n3] W fun e w' => e = .returned (.string c.M8) ∧ Ext W w') {fuel : Nat} {ls : Array Bool} {a : Act} {w : World} (h : Inv c (fuel + 1) ls a w) (hi : 54 ∈ Region.ready .any opsR ls) :
  wpOp Tryz.prog opsR Q 54 (Inv c fuel (ls.setIfInBounds 54 true)) a w := by
 have l52 := h.before hi b54_52 (by decide)
 have e1 := h.res 52 _ rfl l52
 simp only [EOk] at e1
 have l53 := h.before hi b54_53 (by decide)
 have e2 := h.res 53 _ rfl l53
 simp only [EOk] at e2
 exact st_bs h hi o54 rfl (by decide) (by decide) fun o ho => by
  unfold execOp; rw [ho]; go_simp
set_option maxRecDepth 40000 in
theorem case55 {c : OC} {Q : Exit → Act → World → Prop} (hM7 : ∀ W, Ext c.w0 W → Calls Tryz.prog 8 #[.int .i64 c.n2, .int .i64 c.n3] W fun e w' => e = .returned (.string c.M7) ∧ Ext W w') (hM8 : ∀ W, Ext c.w0 W → Calls Tryz.prog 8 #[.int .i64 c.n1, .int .i64 c.n3] W fun e w' => e = .returned (.string c.M8) ∧ Ext W w') {fuel : Nat} {ls : Array Bool} {a : Act} {w : World} (h : Inv c (fuel + 1) ls a w) (hi : 55 ∈ Region.ready .any opsR ls) :
  wpOp Tryz.prog opsR Q 55 (Inv c fuel (ls.setIfInBounds 55 true)) a w := by
 have l47 := h.before hi b55_47 (by decide)
 have e1 := h.res 47 _ rfl l47
 simp only [EOk] at e1
 have l54 := h.before hi b55_54 (by decide)
 obtain ⟨g, e2, rg⟩ := h.res 54 _ rfl l54
 exact st_fn h hi o55 rfl (by decide) (by decide) (.inr ⟨g, rfl, rfl, rfl, rg⟩) fun o ho => by
  unfold execOp; rw [ho]; go_simp
set_option maxRecDepth 40000 in
theorem case56 {c : OC} {Q : Exit → Act → World → Prop} (hM7 : ∀ W, Ext c.w0 W → Calls Tryz.prog 8 #[.int .i64 c.n2, .int .i64 c.n3] W fun e w' => e = .returned (.string c.M7) ∧ Ext W w') (hM8 : ∀ W, Ext c.w0 W → Calls Tryz.prog 8 #[.int .i64 c.n1, .int .i64 c.n3] W fun e w' => e = .returned (.string c.M8) ∧ Ext W w') {fuel : Nat} {ls : Array Bool} {a : Act} {w : World} (h : Inv c (fuel + 1) ls a w) (hi : 56 ∈ Region.ready .any opsR ls) :
  wpOp Tryz.prog opsR Q 56 (Inv c fuel (ls.setIfInBounds 56 true)) a w := by
 have l0 := h.before hi b56_0 (by decide)
 have l55 := h.before hi b56_55 (by decide)
 obtain ⟨x, e2, en⟩ := h.res 55 _ rfl l55
 exact h.ins hi o56 rfl (by decide) l0 e2 (I64_lit 8 (by decide)) rfl (fun _ => ⟨rfl, en⟩)
set_option maxRecDepth 40000 in
theorem case57 {c : OC} {Q : Exit → Act → World → Prop} (hM7 : ∀ W, Ext c.w0 W → Calls Tryz.prog 8 #[.int .i64 c.n2, .int .i64 c.n3] W fun e w' => e = .returned (.string c.M7) ∧ Ext W w') (hM8 : ∀ W, Ext c.w0 W → Calls Tryz.prog 8 #[.int .i64 c.n1, .int .i64 c.n3] W fun e w' => e = .returned (.string c.M8) ∧ Ext W w') {fuel : Nat} {ls : Array Bool} {a : Act} {w : World} (h : Inv c (fuel + 1) ls a w) (hi : 57 ∈ Region.ready .any opsR ls) :
  wpOp Tryz.prog opsR Q 57 (Inv c fuel (ls.setIfInBounds 57 true)) a w := by
 have e1 := h.t4
 exact st_val h hi o57 rfl (by decide) (by decide) fun o ho => by
  unfold execOp; rw [ho]; first | (go_simp; done) | (simp only [EOk] at e1; go_simp; done)
set_option maxRecDepth 40000 in
theorem case58 {c : OC} {Q : Exit → Act → World → Prop} (hM7 : ∀ W, Ext c.w0 W → Calls Tryz.prog 8 #[.int .i64 c.n2, .int .i64 c.n3] W fun e w' => e = .returned (.string c.M7) ∧ Ext W w') (hM8 : ∀ W, Ext c.w0 W → Calls Tryz.prog 8 #[.int .i64 c.n1, .int .i64 c.n3] W fun e w' => e = .returned (.string c.M8) ∧ Ext W w') {fuel : Nat} {ls : Array Bool} {a : Act} {w : World} (h : Inv c (fuel + 1) ls a w) (hi : 58 ∈ Region.ready .any opsR ls) :
  wpOp Tryz.prog opsR Q 58 (Inv c fuel (ls.setIfInBounds 58 true)) a w := by
 have e1 := h.t3
 exact st_val h hi o58 rfl (by decide) (by decide) fun o ho => by
  unfold execOp; rw [ho]; go_simp
set_option maxRecDepth 40000 in
theorem case59 {c : OC} {Q : Exit → Act → World → Prop} (hM7 : ∀ W, Ext c.w0 W → Calls Tryz.prog 8 #[.int .i64 c.n2, .int .i64 c.n3] W fun e w' => e = .returned (.string c.M7) ∧ Ext W w') (hM8 : ∀ W, Ext c.w0 W → Calls Tryz.prog 8 #[.int .i64 c.n1, .int .i64 c.n3] W fun e w' => e = .returned (.string c.M8) ∧ Ext W w') {fuel : Nat} {ls : Array Bool} {a : Act} {w : World} (h : Inv c (fuel + 1) ls a w) (hi : 59 ∈ Region.ready .any opsR ls) :
  wpOp Tryz.prog opsR Q 59 (Inv c fuel (ls.setIfInBounds 59 true)) a w := by
 have l58 := h.before hi b59_58 (by decide)
 have e1 := h.res 58 _ rfl l58
 have q1 := h.rX.cell (i := 2) rfl
 simp only [EOk] at e1
 exact st_val h hi o59 rfl (by decide) (by decide) fun o ho => by
  unfold execOp; rw [ho]; go_simp
set_option maxRecDepth 40000 in
theorem case60 {c : OC} {Q : Exit → Act → World → Prop} (hM7 : ∀ W, Ext c.w0 W → Calls Tryz.prog 8 #[.int .i64 c.n2, .int .i64 c.n3] W fun e w' => e = .returned (.string c.M7) ∧ Ext W w') (hM8 : ∀ W, Ext c.w0 W → Calls Tryz.prog 8 #[.int .i64 c.n1, .int .i64 c.n3] W fun e w' => e = .returned (.string c.M8) ∧ Ext W w') {fuel : Nat} {ls : Array Bool} {a : Act} {w : World} (h : Inv c (fuel + 1) ls a w) (hi : 60 ∈ Region.ready .any opsR ls) :
  wpOp Tryz.prog opsR Q 60 (Inv c fuel (ls.setIfInBounds 60 true)) a w := by
 have e1 := h.t3
 exact st_val h hi o60 rfl (by decide) (by decide) fun o ho => by
  unfold execOp; rw [ho]; go_simp
set_option maxRecDepth 40000 in
theorem case61 {c : OC} {Q : Exit → Act → World → Prop} (hM7 : ∀ W, Ext c.w0 W → Calls Tryz.prog 8 #[.int .i64 c.n2, .int .i64 c.n3] W fun e w' => e = .returned (.string c.M7) ∧ Ext W w') (hM8 : ∀ W, Ext c.w0 W → Calls Tryz.prog 8 #[.int .i64 c.n1, .int .i64 c.n3] W fun e w' => e = .returned (.string c.M8) ∧ Ext W w') {fuel : Nat} {ls : Array Bool} {a : Act} {w : World} (h : Inv c (fuel + 1) ls a w) (hi : 61 ∈ Region.ready .any opsR ls) :
  wpOp Tryz.prog opsR Q 61 (Inv c fuel (ls.setIfInBounds 61 true)) a w := by
 have l60 := h.before hi b61_60 (by decide)
 have e1 := h.res 60 _ rfl l60
 have q1 := h.rX.cell (i := 4) rfl
 simp only [EOk] at e1
 exact st_val h hi o61 rfl (by decide) (by decide) fun o ho => by
  unfold execOp; rw [ho]; go_simp
set_option maxRecDepth 40000 in
theorem case62 {c : OC} {Q : Exit → Act → World → Prop} (hM7 : ∀ W, Ext c.w0 W → Calls Tryz.prog 8 #[.int .i64 c.n2, .int .i64 c.n3] W fun e w' => e = .returned (.string c.M7) ∧ Ext W w') (hM8 : ∀ W, Ext c.w0 W → Calls Tryz.prog 8 #[.int .i64 c.n1, .int .i64 c.n3] W fun e w' => e = .returned (.string c.M8) ∧ Ext W w') {fuel : Nat} {ls : Array Bool} {a : Act} {w : World} (h : Inv c (fuel + 1) ls a w) (hi : 62 ∈ Region.ready .any opsR ls) :
  wpOp Tryz.prog opsR Q 62 (Inv c fuel (ls.setIfInBounds 62 true)) a w := by
 have l59 := h.before hi b62_59 (by decide)
 have e1 := h.res 59 _ rfl l59
 simp only [EOk] at e1
 have l61 := h.before hi b62_61 (by decide)
 have e2 := h.res 61 _ rfl l61
 simp only [EOk] at e2
 exact st_mem h hi o62 rfl (by decide) (by decide) (hM8 w h.ex) fun o ho => by
  unfold execOp; rw [ho]; go_simp
set_option maxRecDepth 40000 in
theorem case63 {c : OC} {Q : Exit → Act → World → Prop} (hM7 : ∀ W, Ext c.w0 W → Calls Tryz.prog 8 #[.int .i64 c.n2, .int .i64 c.n3] W fun e w' => e = .returned (.string c.M7) ∧ Ext W w') (hM8 : ∀ W, Ext c.w0 W → Calls Tryz.prog 8 #[.int .i64 c.n1, .int .i64 c.n3] W fun e w' => e = .returned (.string c.M8) ∧ Ext W w') {fuel : Nat} {ls : Array Bool} {a : Act} {w : World} (h : Inv c (fuel + 1) ls a w) (hi : 63 ∈ Region.ready .any opsR ls) :
  wpOp Tryz.prog opsR Q 63 (Inv c fuel (ls.setIfInBounds 63 true)) a w := by
 have e1 := h.t6
 exact st_val h hi o63 rfl (by decide) (by decide) fun o ho => by
  unfold execOp; rw [ho]; first | (go_simp; done) | (simp only [EOk] at e1; go_simp; done)
set_option maxRecDepth 40000 in
theorem case64 {c : OC} {Q : Exit → Act → World → Prop} (hM7 : ∀ W, Ext c.w0 W → Calls Tryz.prog 8 #[.int .i64 c.n2, .int .i64 c.n3] W fun e w' => e = .returned (.string c.M7) ∧ Ext W w') (hM8 : ∀ W, Ext c.w0 W → Calls Tryz.prog 8 #[.int .i64 c.n1, .int .i64 c.n3] W fun e w' => e = .returned (.string c.M8) ∧ Ext W w') {fuel : Nat} {ls : Array Bool} {a : Act} {w : World} (h : Inv c (fuel + 1) ls a w) (hi : 64 ∈ Region.ready .any opsR ls) :
  wpOp Tryz.prog opsR Q 64 (Inv c fuel (ls.setIfInBounds 64 true)) a w := by
 have l62 := h.before hi b64_62 (by decide)
 have e1 := h.res 62 _ rfl l62
 simp only [EOk] at e1
 have l63 := h.before hi b64_63 (by decide)
 have e2 := h.res 63 _ rfl l63
 simp only [EOk] at e2
 exact st_bs h hi o64 rfl (by decide) (by decide) fun o ho => by
  unfold execOp; rw [ho]; go_simp
set_option maxRecDepth 40000 in
theorem case65 {c : OC} {Q : Exit → Act → World → Prop} (hM7 : ∀ W, Ext c.w0 W → Calls Tryz.prog 8 #[.int .i64 c.n2, .int .i64 c.n3] W fun e w' => e = .returned (.string c.M7) ∧ Ext W w') (hM8 : ∀ W, Ext c.w0 W → Calls Tryz.prog 8 #[.int .i64 c.n1, .int .i64 c.n3] W fun e w' => e = .returned (.string c.M8) ∧ Ext W w') {fuel : Nat} {ls : Array Bool} {a : Act} {w : World} (h : Inv c (fuel + 1) ls a w) (hi : 65 ∈ Region.ready .any opsR ls) :
  wpOp Tryz.prog opsR Q 65 (Inv c fuel (ls.setIfInBounds 65 true)) a w := by
 have l57 := h.before hi b65_57 (by decide)
 have e1 := h.res 57 _ rfl l57
 simp only [EOk] at e1
 have l64 := h.before hi b65_64 (by decide)
 obtain ⟨g, e2, rg⟩ := h.res 64 _ rfl l64
 exact st_fn h hi o65 rfl (by decide) (by decide) (.inr ⟨g, rfl, rfl, rfl, rg⟩) fun o ho => by
  unfold execOp; rw [ho]; go_simp
set_option maxRecDepth 40000 in
theorem case66 {c : OC} {Q : Exit → Act → World → Prop} (hM7 : ∀ W, Ext c.w0 W → Calls Tryz.prog 8 #[.int .i64 c.n2, .int .i64 c.n3] W fun e w' => e = .returned (.string c.M7) ∧ Ext W w') (hM8 : ∀ W, Ext c.w0 W → Calls Tryz.prog 8 #[.int .i64 c.n1, .int .i64 c.n3] W fun e w' => e = .returned (.string c.M8) ∧ Ext W w') {fuel : Nat} {ls : Array Bool} {a : Act} {w : World} (h : Inv c (fuel + 1) ls a w) (hi : 66 ∈ Region.ready .any opsR ls) :
  wpOp Tryz.prog opsR Q 66 (Inv c fuel (ls.setIfInBounds 66 true)) a w := by
 have l0 := h.before hi b66_0 (by decide)
 have l65 := h.before hi b66_65 (by decide)
 obtain ⟨x, e2, en⟩ := h.res 65 _ rfl l65
 exact h.ins hi o66 rfl (by decide) l0 e2 (I64_lit 9 (by decide)) rfl (fun _ => ⟨rfl, en⟩)
set_option maxRecDepth 40000 in
theorem case67 {c : OC} {Q : Exit → Act → World → Prop} (hM7 : ∀ W, Ext c.w0 W → Calls Tryz.prog 8 #[.int .i64 c.n2, .int .i64 c.n3] W fun e w' => e = .returned (.string c.M7) ∧ Ext W w') (hM8 : ∀ W, Ext c.w0 W → Calls Tryz.prog 8 #[.int .i64 c.n1, .int .i64 c.n3] W fun e w' => e = .returned (.string c.M8) ∧ Ext W w') {fuel : Nat} {ls : Array Bool} {a : Act} {w : World} (h : Inv c (fuel + 1) ls a w) (hi : 67 ∈ Region.ready .any opsR ls) :
  wpOp Tryz.prog opsR Q 67 (Inv c fuel (ls.setIfInBounds 67 true)) a w := by
 have e1 := h.t4
 exact st_val h hi o67 rfl (by decide) (by decide) fun o ho => by
  unfold execOp; rw [ho]; first | (go_simp; done) | (simp only [EOk] at e1; go_simp; done)
set_option maxRecDepth 40000 in
theorem case68 {c : OC} {Q : Exit → Act → World → Prop} (hM7 : ∀ W, Ext c.w0 W → Calls Tryz.prog 8 #[.int .i64 c.n2, .int .i64 c.n3] W fun e w' => e = .returned (.string c.M7) ∧ Ext W w') (hM8 : ∀ W, Ext c.w0 W → Calls Tryz.prog 8 #[.int .i64 c.n1, .int .i64 c.n3] W fun e w' => e = .returned (.string c.M8) ∧ Ext W w') {fuel : Nat} {ls : Array Bool} {a : Act} {w : World} (h : Inv c (fuel + 1) ls a w) (hi : 68 ∈ Region.ready .any opsR ls) :
  wpOp Tryz.prog opsR Q 68 (Inv c fuel (ls.setIfInBounds 68 true)) a w := by
 have e1 := h.t5
 exact st_val h hi o68 rfl (by decide) (by decide) fun o ho => by
  unfold execOp; rw [ho]; first | (go_simp; done) | (simp only [EOk] at e1; go_simp; done)
set_option maxRecDepth 40000 in
theorem case69 {c : OC} {Q : Exit → Act → World → Prop} (hM7 : ∀ W, Ext c.w0 W → Calls Tryz.prog 8 #[.int .i64 c.n2, .int .i64 c.n3] W fun e w' => e = .returned (.string c.M7) ∧ Ext W w') (hM8 : ∀ W, Ext c.w0 W → Calls Tryz.prog 8 #[.int .i64 c.n1, .int .i64 c.n3] W fun e w' => e = .returned (.string c.M8) ∧ Ext W w') {fuel : Nat} {ls : Array Bool} {a : Act} {w : World} (h : Inv c (fuel + 1) ls a w) (hi : 69 ∈ Region.ready .any opsR ls) :
  wpOp Tryz.prog opsR Q 69 (Inv c fuel (ls.setIfInBounds 69 true)) a w := by
 have e1 := h.t7
 exact st_val h hi o69 rfl (by decide) (by decide) fun o ho => by
  unfold execOp; rw [ho]; first | (go_simp; done) | (simp only [EOk] at e1; go_simp; done)
set_option maxRecDepth 40000 in
theorem case70 {c : OC} {Q : Exit → Act → World → Prop} (hM7 : ∀ W, Ext c.w0 W → Calls Tryz.prog 8 #[.int .i64 c.n2, .int .i64 c.n3] W fun e w' => e = .returned (.string c.M7) ∧ Ext W w') (hM8 : ∀ W, Ext c.w0 W → Calls Tryz.prog 8 #[.int .i64 c.n1, .int .i64 c.n3] W fun e w' => e = .returned (.string c.M8) ∧ Ext W w') {fuel : Nat} {ls : Array Bool} {a : Act} {w : World} (h : Inv c (fuel + 1) ls a w) (hi : 70 ∈ Region.ready .any opsR ls) :
  wpOp Tryz.prog opsR Q 70 (Inv c fuel (ls.setIfInBounds 70 true)) a w := by
 have l68 := h.before hi b70_68 (by decide)
 have e1 := h.res 68 _ rfl l68
 simp only [EOk] at e1
 have l69 := h.before hi b70_69 (by decide)
 have e2 := h.res 69 _ rfl l69
 simp only [EOk] at e2
 exact st_bs h hi o70 rfl (by decide) (by decide) fun o ho => by
  unfold execOp; rw [ho]; go_simp
set_option maxRecDepth 40000 in
theorem case71 {c : OC} {Q : Exit → Act → World → Prop} (hM7 : ∀ W, Ext c.w0 W → Calls Tryz.prog 8 #[.int .i64 c.n2, .int .i64 c.n3] W fun e w' => e = .returned (.string c.M7) ∧ Ext W w') (hM8 : ∀ W, Ext c.w0 W → Calls Tryz.prog 8 #[.int .i64 c.n1, .int .i64 c.n3] W fun e w' => e = .returned (.string c.M8) ∧ Ext W w') {fuel : Nat} {ls : Array Bool} {a : Act} {w : World} (h : Inv c (fuel + 1) ls a w) (hi : 71 ∈ Region.ready .any opsR ls) :
  wpOp Tryz.prog opsR Q 71 (Inv c fuel (ls.setIfInBounds 71 true)) a w := by
 have l67 := h.before hi b71_67 (by decide)
 have e1 := h.res 67 _ rfl l67
 simp only [EOk] at e1
 have l70 := h.before hi b71_70 (by decide)
 obtain ⟨g, e2, rg⟩ := h.res 70 _ rfl l70
 exact st_fn h hi o71 rfl (by decide) (by decide) (.inr ⟨g, rfl, rfl, rfl, rg⟩) fun o ho => by
  unfold execOp; rw [ho]; go_simp
set_option maxRecDepth 40000 in
theorem case72 {c : OC} {Q : Exit → Act → World → Prop} (hM7 : ∀ W, Ext c.w0 W → Calls Tryz.prog 8 #[.int .i64 c.n2, .int .i64 c.n3] W fun e w' => e = .returned (.string c.M7) ∧ Ext W w') (hM8 : ∀ W, Ext c.w0 W → Calls Tryz.prog 8 #[.int .i64 c.n1, .int .i64 c.n3] W fun e w' => e = .returned (.string c.M8) ∧ Ext W w') {fuel : Nat} {ls : Array Bool} {a : Act} {w : World} (h : Inv c (fuel + 1) ls a w) (hi : 72 ∈ Region.ready .any opsR ls) :
  wpOp Tryz.prog opsR Q 72 (Inv c fuel (ls.setIfInBounds 72 true)) a w := by
 have l0 := h.before hi b72_0 (by decide)
 have l71 := h.before hi b72_71 (by decide)
 obtain ⟨x, e2, en⟩ := h.res 71 _ rfl l71
 exact h.ins hi o72 rfl (by decide) l0 e2 (I64_lit 10 (by decide)) rfl (fun _ => ⟨rfl, en⟩)
set_option maxRecDepth 40000 in
theorem case73 {c : OC} {Q : Exit → Act → World → Prop} (hM7 : ∀ W, Ext c.w0 W → Calls Tryz.prog 8 #[.int .i64 c.n2, .int .i64 c.n3] W fun e w' => e = .returned (.string c.M7) ∧ Ext W w') (hM8 : ∀ W, Ext c.w0 W → Calls Tryz.prog 8 #[.int .i64 c.n1, .int .i64 c.n3] W fun e w' => e = .returned (.string c.M8) ∧ Ext W w') {fuel : Nat} {ls : Array Bool} {a : Act} {w : World} (h : Inv c (fuel + 1) ls a w) (hi : 73 ∈ Region.ready .any opsR ls) :
  wpOp Tryz.prog opsR Q 73 (Inv c fuel (ls.setIfInBounds 73 true)) a w := by
 have e1 := h.t4
 exact st_val h hi o73 rfl (by decide) (by decide) fun o ho => by
  unfold execOp; rw [ho]; first | (go_simp; done) | (simp only [EOk] at e1; go_simp; done)
set_option maxRecDepth 40000 in
theorem case74 {c : OC} {Q : Exit → Act → World → Prop} (hM7 : ∀ W, Ext c.w0 W → Calls Tryz.prog 8 #[.int .i64 c.n2, .int .i64 c.n3] W fun e w' => e = .returned (.string c.M7) ∧ Ext W w') (hM8 : ∀ W, Ext c.w0 W → Calls Tryz.prog 8 #[.int .i64 c.n1, .int .i64 c.n3] W fun e w' => e = .returned (.string c.M8) ∧ Ext W w') {fuel : Nat} {ls : Array Bool} {a : Act} {w : World} (h : Inv c (fuel + 1) ls a w) (hi : 74 ∈ Region.ready .any opsR ls) :
  wpOp Tryz.prog opsR Q 74 (Inv c fuel (ls.setIfInBounds 74 true)) a w := by
 have e1 := h.t5
 exact st_val h hi o74 rfl (by decide) (by decide) fun o ho => by
  unfold execOp; rw [ho]; first | (go_simp; done) | (simp only [EOk] at e1; go_simp; done)
set_option maxRecDepth 40000 in
theorem case75 {c : OC} {Q : Exit → Act → World → Prop} (hM7 : ∀ W, Ext c.w0 W → Calls Tryz.prog 8 #[.int .i64 c.n2, .int .i64 c.n3] W fun e w' => e = .returned (.string c.M7) ∧ Ext W w') (hM8 : ∀ W, Ext c.w0 W → Calls Tryz.prog 8 #[.int .i64 c.n1, .int .i64 c.n3] W fun e w' => e = .returned (.string c.M8) ∧ Ext W w') {fuel : Nat} {ls : Array Bool} {a : Act} {w : World} (h : Inv c (fuel + 1) ls a w) (hi : 75 ∈ Region.ready .any opsR ls) :
  wpOp Tryz.prog opsR Q 75 (Inv c fuel (ls.setIfInBounds 75 true)) a w := by
 have e1 := h.t1
 exact st_val h hi o75 rfl (by decide) (by decide) fun o ho => by
  unfold execOp; rw [ho]; go_simp
set_option maxRecDepth 40000 in
theorem case76 {c : OC} {Q : Exit → Act → World → Prop} (hM7 : ∀ W, Ext c.w0 W → Calls Tryz.prog 8 #[.int .i64 c.n2, .int .i64 c.n3] W fun e w' => e = .returned (.string c.M7) ∧ Ext W w') (hM8 : ∀ W, Ext c.w0 W → Calls Tryz.prog 8 #[.int .i64 c.n1, .int .i64 c.n3] W fun e w' => e = .returned (.string c.M8) ∧ Ext W w') {fuel : Nat} {ls : Array Bool} {a : Act} {w : World} (h : Inv c (fuel + 1) ls a w) (hi : 76 ∈ Region.ready .any opsR ls) :
  wpOp Tryz.prog opsR Q 76 (Inv c fuel (ls.setIfInBounds 76 true)) a w := by
 have l75 := h.before hi b76_75 (by decide)
 have e1 := h.res 75 _ rfl l75
 have q1 := h.rS.cell (i := 8) rfl
 simp only [EOk] at e1
 exact st_val h hi o76 rfl (by decide) (by decide) fun o ho => by
  unfold execOp; rw [ho]; go_simp
set_option maxRecDepth 40000 in
theorem case77 {c : OC} {Q : Exit → Act → World → Prop} (hM7 : ∀ W, Ext c.w0 W → Calls Tryz.prog 8 #[.int .i64 c.n2, .int .i64 c.n3] W fun e w' => e = .returned (.string c.M7) ∧ Ext W w') (hM8 : ∀ W, Ext c.w0 W → Calls Tryz.prog 8 #[.int .i64 c.n1, .int .i64 c.n3] W fun e w' => e = .returned (.string c.M8) ∧ Ext W w') {fuel : Nat} {ls : Array Bool} {a : Act} {w : World} (h : Inv c (fuel + 1) ls a w) (hi : 77 ∈ Region.ready .any opsR ls) :
  wpOp Tryz.prog opsR Q 77 (Inv c fuel (ls.setIfInBounds 77 true)) a w := by
 have l74 := h.before hi b77_74 (by decide)
 have e1 := h.res 74 _ rfl l74
 simp only [EOk] at e1
 have l76 := h.before hi b77_76 (by decide)
 have e2 := h.res 76 _ rfl l76
 simp only [EOk] at e2
 exact st_bs h hi o77 rfl (by decide) (by decide) fun o ho => by
  unfold execOp; rw [ho]; go_simp
set_option maxRecDepth 40000 in
theorem case78 {c : OC} {Q : Exit → Act → World → Prop} (hM7 : ∀ W, Ext c.w0 W → Calls Tryz.prog 8 #[.int .i64 c.n2, .int .i64 c.n3] W fun e w' => e = .returned (.string c.M7) ∧ Ext W w') (hM8 : ∀ W, Ext c.w0 W → Calls Tryz.prog 8 #[.int .i64 c.n1, .int .i64 c.n3] W fun e w' => e = .returned (.string c.M8) ∧ Ext W w') {fuel : Nat} {ls : Array Bool} {a : Act} {w : World} (h : Inv c (fuel + 1) ls a w) (hi : 78 ∈ Region.ready .any opsR ls) :
  wpOp Tryz.prog opsR Q 78 (Inv c fuel (ls.setIfInBounds 78 true)) a w := by
 have l73 := h.before hi b78_73 (by decide)
 have e1 := h.res 73 _ rfl l73
 simp only [EOk] at e1
 have l77 := h.before hi b78_77 (by decide)
 obtain ⟨g, e2, rg⟩ := h.res 77 _ rfl l77
 exact st_fn h hi o78 rfl (by decide) (by decide) (.inr ⟨g, rfl, rfl, rfl, rg⟩) fun o ho => by
  unfold execOp; rw [ho]; go_simp
set_option maxRecDepth 40000 in
theorem case79 {c : OC} {Q : Exit → Act → World → Prop} (hM7 : ∀ W, Ext c.w0 W → Calls Tryz.prog 8 #[.int .i64 c.n2, .int .i64 c.n3] W fun e w' => e = .returned (.string c.M7) ∧ Ext W w') (hM8 : ∀ W, Ext c.w0 W → Calls Tryz.prog 8 #[.int .i64 c.n1, .int .i64 c.n3] W fun e w' => e = .returned (.string c.M8) ∧ Ext W w') {fuel : Nat} {ls : Array Bool} {a : Act} {w : World} (h : Inv c (fuel + 1) ls a w) (hi : 79 ∈ Region.ready .any opsR ls) :
  wpOp Tryz.prog opsR Q 79 (Inv c fuel (ls.setIfInBounds 79 true)) a w := by
 have l0 := h.before hi b79_0 (by decide)
 have l78 := h.before hi b79_78 (by decide)
 obtain ⟨x, e2, en⟩ := h.res 78 _ rfl l78
 exact h.ins hi o79 rfl (by decide) l0 e2 (I64_lit 11 (by decide)) rfl (fun _ => ⟨rfl, en⟩)
set_option maxRecDepth 40000 in
theorem case80 {c : OC} {Q : Exit → Act → World → Prop} (hM7 : ∀ W, Ext c.w0 W → Calls Tryz.prog 8 #[.int .i64 c.n2, .int .i64 c.n3] W fun e w' => e = .returned (.string c.M7) ∧ Ext W w') (hM8 : ∀ W, Ext c.w0 W → Calls Tryz.prog 8 #[.int .i64 c.n1, .int .i64 c.n3] W fun e w' => e = .returned (.string c.M8) ∧ Ext W w') {fuel : Nat} {ls : Array Bool} {a : Act} {w : World} (h : Inv c (fuel + 1) ls a w) (hi : 80 ∈ Region.ready .any opsR ls) :
  wpOp Tryz.prog opsR Q 80 (Inv c fuel (ls.setIfInBounds 80 true)) a w := by
 have l0 := h.before hi b80_0 (by decide)
 exact st_end h hi o80 (.inl rfl) rfl (by decide) l0 (.inl rfl)
set_option maxRecDepth 40000 in
theorem case81 {c : OC} {Q : Exit → Act → World → Prop} (hM7 : ∀ W, Ext c.w0 W → Calls Tryz.prog 8 #[.int .i64 c.n2, .int .i64 c.n3] W fun e w' => e = .returned (.string c.M7) ∧ Ext W w') (hM8 : ∀ W, Ext c.w0 W → Calls Tryz.prog 8 #[.int .i64 c.n1, .int .i64 c.n3] W fun e w' => e = .returned (.string c.M8) ∧ Ext W w') {fuel : Nat} {ls : Array Bool} {a : Act} {w : World} (h : Inv c (fuel + 1) ls a w) (hi : 81 ∈ Region.ready .any opsR ls) :
  wpOp Tryz.prog opsR Q 81 (Inv c fuel (ls.setIfInBounds 81 true)) a w := by
 have l0 := h.before hi b81_0 (by decide)
 have l80 := h.before hi b81_80 (by decide)
 exact st_end h hi o81 (.inr rfl) rfl (by decide) l0 (.inr ⟨rfl, l80⟩)
theorem all_cases {c : OC} {Q : Exit → Act → World → Prop} (hM7 : ∀ W, Ext c.w0 W → Calls Tryz.prog 8 #[.int .i64 c.n2, .int .i64 c.n3] W fun e w' => e = .returned (.string c.M7) ∧ Ext W w') (hM8 : ∀ W, Ext c.w0 W → Calls Tryz.prog 8 #[.int .i64 c.n1, .int .i64 c.n3] W fun e w' => e = .returned (.string c.M8) ∧ Ext W w') {fuel : Nat} {ls : Array Bool} {a : Act} {w : World} (i : Nat) (h : Inv c (fuel + 1) ls a w) (hi : i ∈ Region.ready .any opsR ls) :
  wpOp Tryz.prog opsR Q i (Inv c fuel (ls.setIfInBounds i true)) a w := by
 have h82 := ready_lt hi
 match i, h82, hi with
 | 0, _, hi => exact case0 hM7 hM8 h hi
 | 1, _, hi => exact case1 hM7 hM8 h hi
 | 2, _, hi => exact case2 hM7 hM8 h hi
 | 3, _, hi => exact case3 hM7 hM8 h hi
 | 4, _, hi => exact case4 hM7 hM8 h hi
 | 5, _, hi => exact case5 hM7 hM8 h hi
 | 6, _, hi => exact case6 hM7 hM8 h hi
 | 7, _, hi => exact case7 hM7 hM8 h hi
 | 8, _, hi => exact case8 hM7 hM8 h hi
 | 9, _, hi => exact case9 hM7 hM8 h hi
 | 10, _, hi => exact case10 hM7 hM8 h hi
 | 11, _, hi => exact case11 hM7 hM8 h hi
 | 12, _, hi => exact case12 hM7 hM8 h hi
 | 13, _, hi => exact case13 hM7 hM8 h hi
 | 14, _, hi => exact case14 hM7 hM8 h hi
 | 15, _, hi => exact case15 hM7 hM8 h hi
 | 16, _, hi => exact case16 hM7 hM8 h hi
 | 17, _, hi => exact case17 hM7 hM8 h hi
 | 18, _, hi => exact case18 hM7 hM8 h hi
 | 19, _, hi => exact case19 hM7 hM8 h hi
 | 20, _, hi => exact case20 hM7 hM8 h hi
 | 21, _, hi => exact case21 hM7 hM8 h hi
 | 22, _, hi => exact case22 hM7 hM8 h hi
 | 23, _, hi => exact case23 hM7 hM8 h hi
 | 24, _, hi => exact case24 hM7 hM8 h hi
 | 25, _, hi => exact case25 hM7 hM8 h hi
 | 26, _, hi => exact case26 hM7 hM8 h hi
 | 27, _, hi => exact case27 hM7 hM8 h hi
 | 28, _, hi => exact case28 hM7 hM8 h hi
 | 29, _, hi => exact case29 hM7 hM8 h hi
 | 30, _, hi => exact case30 hM7 hM8 h hi
 | 31, _, hi => exact case31 hM7 hM8 h hi
 | 32, _, hi => exact case32 hM7 hM8 h hi
 | 33, _, hi => exact case33 hM7 hM8 h hi
 | 34, _, hi => exact case34 hM7 hM8 h hi
 | 35, _, hi => exact case35 hM7 hM8 h hi
 | 36, _, hi => exact case36 hM7 hM8 h hi
 | 37, _, hi => exact case37 hM7 hM8 h hi
 | 38, _, hi => exact case38 hM7 hM8 h hi
 | 39, _, hi => exact case39 hM7 hM8 h hi
 | 40, _, hi => exact case40 hM7 hM8 h hi
 | 41, _, hi => exact case41 hM7 hM8 h hi
 | 42, _, hi => exact case42 hM7 hM8 h hi
 | 43, _, hi => exact case43 hM7 hM8 h hi
 | 44, _, hi => exact case44 hM7 hM8 h hi
 | 45, _, hi => exact case45 hM7 hM8 h hi
 | 46, _, hi => exact case46 hM7 hM8 h hi
 | 47, _, hi => exact case47 hM7 hM8 h hi
 | 48, _, hi => exact case48 hM7 hM8 h hi
 | 49, _, hi => exact case49 hM7 hM8 h hi
 | 50, _, hi => exact case50 hM7 hM8 h hi
 | 51, _, hi => exact case51 hM7 hM8 h hi
 | 52, _, hi => exact case52 hM7 hM8 h hi
 | 53, _, hi => exact case53 hM7 hM8 h hi
 | 54, _, hi => exact case54 hM7 hM8 h hi
 | 55, _, hi => exact case55 hM7 hM8 h hi
 | 56, _, hi => exact case56 hM7 hM8 h hi
 | 57, _, hi => exact case57 hM7 hM8 h hi
 | 58, _, hi => exact case58 hM7 hM8 h hi
 | 59, _, hi => exact case59 hM7 hM8 h hi
 | 60, _, hi => exact case60 hM7 hM8 h hi
 | 61, _, hi => exact case61 hM7 hM8 h hi
 | 62, _, hi => exact case62 hM7 hM8 h hi
 | 63, _, hi => exact case63 hM7 hM8 h hi
 | 64, _, hi => exact case64 hM7 hM8 h hi
 | 65, _, hi => exact case65 hM7 hM8 h hi
 | 66, _, hi => exact case66 hM7 hM8 h hi
 | 67, _, hi => exact case67 hM7 hM8 h hi
 | 68, _, hi => exact case68 hM7 hM8 h hi
 | 69, _, hi => exact case69 hM7 hM8 h hi
 | 70, _, hi => exact case70 hM7 hM8 h hi
 | 71, _, hi => exact case71 hM7 hM8 h hi
 | 72, _, hi => exact case72 hM7 hM8 h hi
 | 73, _, hi => exact case73 hM7 hM8 h hi
 | 74, _, hi => exact case74 hM7 hM8 h hi
 | 75, _, hi => exact case75 hM7 hM8 h hi
 | 76, _, hi => exact case76 hM7 hM8 h hi
 | 77, _, hi => exact case77 hM7 hM8 h hi
 | 78, _, hi => exact case78 hM7 hM8 h hi
 | 79, _, hi => exact case79 hM7 hM8 h hi
 | 80, _, hi => exact case80 hM7 hM8 h hi
 | 81, _, hi => exact case81 hM7 hM8 h hi
 | n + 82, h82, _ => omega
end Go.Proofs.YtocnmjpldpbioaaGreatDoor
