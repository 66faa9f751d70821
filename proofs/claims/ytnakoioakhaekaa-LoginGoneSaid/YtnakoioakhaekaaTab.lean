import Derived.Test.YtnakoioakhaekaaProg
import Derived.Test.YtnakoioakhaekaaH
import Derived.KernelRfl
/-! The types of the program, told one by one. -/
set_option linter.unusedVariables false
namespace Go.Proofs.Ytnakoioakhaekaa
theorem ty_2 : tyOf Try.prog 2 = some ⟨false, 1, 8, (.int .i64 0), (.int .i64)⟩ := by kernel_rfl
theorem ty_3 : tyOf Try.prog 3 = some ⟨false, 1, 8, (.int .i64 0), (.int .i64)⟩ := by kernel_rfl
theorem ty_4 : tyOf Try.prog 4 = some ⟨false, 1, 1, (.bool false), .bool⟩ := by kernel_rfl
theorem ty_5 : tyOf Try.prog 5 = some ⟨false, 1, 1, (.int .u8 0), (.int .u8)⟩ := by kernel_rfl
theorem ty_6 : tyOf Try.prog 6 = some ⟨false, 1, 1, (.int .u8 0), (.int .u8)⟩ := by kernel_rfl
theorem ty_7 : tyOf Try.prog 7 = some ⟨true, 4, 24, (.agg [(.int .i64 0), (.int .i64 0), (.bool false), (.int .u8 0)]), (.strct [(0, 2, 1), (1, 3, 1), (2, 4, 1), (3, 6, 1)])⟩ := by kernel_rfl
theorem ty_8 : tyOf Try.prog 8 = some ⟨true, 4, 24, (.agg [(.int .i64 0), (.int .i64 0), (.bool false), (.int .u8 0)]), (.strct [(0, 2, 1), (1, 3, 1), (2, 4, 1), (3, 6, 1)])⟩ := by kernel_rfl
theorem ty_9 : tyOf Try.prog 9 = some ⟨false, 1, 16, (.str []), .str⟩ := by kernel_rfl
theorem ty_10 : tyOf Try.prog 10 = some ⟨false, 1, 16, (.str []), .str⟩ := by kernel_rfl
theorem ty_11 : tyOf Try.prog 11 = some ⟨false, 1, 16, (.str []), .str⟩ := by kernel_rfl
theorem ty_12 : tyOf Try.prog 12 = some ⟨false, 1, 8, (.int .u64 0), (.int .u64)⟩ := by kernel_rfl
theorem ty_13 : tyOf Try.prog 13 = some ⟨true, 2, 24, (.agg [(.str []), (.int .u64 0)]), (.strct [(0, 9, 1), (1, 12, 1)])⟩ := by kernel_rfl
theorem ty_14 : tyOf Try.prog 14 = some ⟨true, 2, 24, (.agg [(.str []), (.int .u64 0)]), (.strct [(0, 9, 1), (1, 12, 1)])⟩ := by kernel_rfl
theorem ty_15 : tyOf Try.prog 15 = some ⟨false, 1, 8, (.lit (.pointer none)), (.ptr 69)⟩ := by kernel_rfl
theorem ty_16 : tyOf Try.prog 16 = some ⟨false, 1, 8, (.lit (.pointer none)), (.ptr 72)⟩ := by kernel_rfl
theorem ty_17 : tyOf Try.prog 17 = some ⟨false, 1, 8, (.lit (.pointer none)), (.ptr 81)⟩ := by kernel_rfl
theorem ty_18 : tyOf Try.prog 18 = some ⟨true, 1, 8, (.agg [(.lit (.pointer none))]), (.strct [(0, 17, 1)])⟩ := by kernel_rfl
theorem ty_19 : tyOf Try.prog 19 = some ⟨true, 1, 8, (.agg [(.lit (.pointer none))]), (.strct [(0, 17, 1)])⟩ := by kernel_rfl
theorem ty_20 : tyOf Try.prog 20 = some ⟨false, 1, 16, (.lit .nilIface), .iface⟩ := by kernel_rfl
theorem ty_21 : tyOf Try.prog 21 = some ⟨false, 1, 4, (.int .i32 0), (.int .i32)⟩ := by kernel_rfl
theorem ty_22 : tyOf Try.prog 22 = some ⟨true, 3, 32, (.agg [(.int .i64 0), (.int .i64 0), (.str [])]), (.strct [(0, 3, 1), (1, 3, 1), (2, 9, 1)])⟩ := by kernel_rfl
theorem ty_23 : tyOf Try.prog 23 = some ⟨true, 3, 32, (.agg [(.int .i64 0), (.int .i64 0), (.str [])]), (.strct [(0, 3, 1), (1, 3, 1), (2, 9, 1)])⟩ := by kernel_rfl
theorem eqk_23 : eqKinds Try.prog 23 = some [(.int .i64), (.int .i64), .str] := by kernel_rfl
theorem ty_24 : tyOf Try.prog 24 = some ⟨false, 1, 24, (.sl 0 []), (.slice 48)⟩ := by kernel_rfl
theorem ty_26 : tyOf Try.prog 26 = some ⟨false, 1, 8, (.int .i64 0), (.int .i64)⟩ := by kernel_rfl
theorem ty_42 : tyOf Try.prog 42 = some ⟨true, 4, 4, (.agg [(.int .u8 0), (.int .u8 0), (.int .u8 0), (.int .u8 0)]), (.array 4 5)⟩ := by kernel_rfl
theorem eqk_42 : eqKinds Try.prog 42 = some [(.int .u8), (.int .u8), (.int .u8), (.int .u8)] := by kernel_rfl
theorem ty_43 : tyOf Try.prog 43 = some ⟨true, 4, 4, (.agg [(.int .u8 0), (.int .u8 0), (.int .u8 0), (.int .u8 0)]), (.array 4 5)⟩ := by kernel_rfl
theorem eqk_43 : eqKinds Try.prog 43 = some [(.int .u8), (.int .u8), (.int .u8), (.int .u8)] := by kernel_rfl
theorem ty_44 : tyOf Try.prog 44 = some ⟨true, 5, 16, (.agg [(.int .u8 0), (.int .u8 0), (.int .u8 0), (.int .u8 0), (.int .i64 0)]), (.strct [(0, 43, 4), (4, 3, 1)])⟩ := by kernel_rfl
theorem ty_45 : tyOf Try.prog 45 = some ⟨true, 5, 16, (.agg [(.int .u8 0), (.int .u8 0), (.int .u8 0), (.int .u8 0), (.int .i64 0)]), (.strct [(0, 43, 4), (4, 3, 1)])⟩ := by kernel_rfl
theorem eqk_45 : eqKinds Try.prog 45 = some [(.int .u8), (.int .u8), (.int .u8), (.int .u8), (.int .i64)] := by kernel_rfl
theorem ty_46 : tyOf Try.prog 46 = some ⟨false, 1, 24, (.sl 0 []), (.slice 83)⟩ := by kernel_rfl
theorem ty_47 : tyOf Try.prog 47 = some ⟨true, 14, 120, (.agg [(.str []), (.str []), (.int .u8 0), (.int .u8 0), (.int .u8 0), (.int .u8 0), (.int .i64 0), (.int .i64 0), (.int .i64 0), (.sl 0 []), (.int .i64 0), (.int .i64 0), (.int .i64 0), (.int .i64 0)]), (.strct [(0, 9, 1), (1, 9, 1), (2, 45, 5), (7, 3, 1), (8, 3, 1), (9, 46, 1), (10, 3, 1), (11, 3, 1), (12, 3, 1), (13, 3, 1)])⟩ := by kernel_rfl
theorem ty_48 : tyOf Try.prog 48 = some ⟨true, 14, 120, (.agg [(.str []), (.str []), (.int .u8 0), (.int .u8 0), (.int .u8 0), (.int .u8 0), (.int .i64 0), (.int .i64 0), (.int .i64 0), (.sl 0 []), (.int .i64 0), (.int .i64 0), (.int .i64 0), (.int .i64 0)]), (.strct [(0, 9, 1), (1, 9, 1), (2, 45, 5), (7, 3, 1), (8, 3, 1), (9, 46, 1), (10, 3, 1), (11, 3, 1), (12, 3, 1), (13, 3, 1)])⟩ := by kernel_rfl
theorem ty_52 : tyOf Try.prog 52 = some ⟨true, 2, 16, (.agg [(.int .i64 0), (.int .i64 0)]), (.strct [(0, 3, 1), (1, 3, 1)])⟩ := by kernel_rfl
theorem ty_53 : tyOf Try.prog 53 = some ⟨true, 2, 16, (.agg [(.int .i64 0), (.int .i64 0)]), (.strct [(0, 3, 1), (1, 3, 1)])⟩ := by kernel_rfl
theorem eqk_53 : eqKinds Try.prog 53 = some [(.int .i64), (.int .i64)] := by kernel_rfl
theorem ty_55 : tyOf Try.prog 55 = some ⟨false, 1, 8, (.lit (.map none)), (.map 53 53)⟩ := by kernel_rfl
theorem ty_63 : tyOf Try.prog 63 = some ⟨false, 1, 8, (.int .u64 0), (.int .u64)⟩ := by kernel_rfl
theorem ty_64 : tyOf Try.prog 64 = some ⟨false, 1, 4, (.int .u32 0), (.int .u32)⟩ := by kernel_rfl
theorem ty_68 : tyOf Try.prog 68 = some ⟨true, 4, 40, (.agg [(.lit (.pointer none)), (.lit (.pointer none)), (.lit (.pointer none)), (.str [])]), (.strct [(0, 17, 1), (1, 17, 1), (2, 17, 1), (3, 9, 1)])⟩ := by kernel_rfl
theorem ty_69 : tyOf Try.prog 69 = some ⟨true, 4, 40, (.agg [(.lit (.pointer none)), (.lit (.pointer none)), (.lit (.pointer none)), (.str [])]), (.strct [(0, 17, 1), (1, 17, 1), (2, 17, 1), (3, 9, 1)])⟩ := by kernel_rfl
theorem ty_70 : tyOf Try.prog 70 = some ⟨true, 0, 0, (.agg []), (.array 0 16)⟩ := by kernel_rfl
theorem ty_71 : tyOf Try.prog 71 = some ⟨true, 0, 0, (.agg []), (.strct [(0, 70, 0)])⟩ := by kernel_rfl
theorem ty_72 : tyOf Try.prog 72 = some ⟨true, 0, 0, (.agg []), (.strct [(0, 70, 0)])⟩ := by kernel_rfl
theorem ty_74 : tyOf Try.prog 74 = some ⟨false, 1, 1, (.int .u8 0), (.int .u8)⟩ := by kernel_rfl
theorem ty_75 : tyOf Try.prog 75 = some ⟨false, 1, 1, (.int .u8 0), (.int .u8)⟩ := by kernel_rfl
theorem ty_77 : tyOf Try.prog 77 = some ⟨false, 1, 8, (.lit (.pointer none)), (.ptr 5)⟩ := by kernel_rfl
theorem ty_78 : tyOf Try.prog 78 = some ⟨false, 1, 4, (.int .i32 0), (.int .i32)⟩ := by kernel_rfl
theorem ty_79 : tyOf Try.prog 79 = some ⟨false, 1, 4, (.int .i32 0), (.int .i32)⟩ := by kernel_rfl
theorem ty_80 : tyOf Try.prog 80 = some ⟨true, 11, 48, (.agg [(.int .u64 0), (.int .u64 0), (.int .u32 0), (.int .u8 0), (.int .u8 0), (.int .u8 0), (.int .u8 0), (.lit .nilFunc), (.lit (.pointer none)), (.int .i32 0), (.int .i32 0)]), (.strct [(0, 12, 1), (1, 12, 1), (2, 64, 1), (3, 74, 1), (4, 5, 1), (5, 5, 1), (6, 75, 1), (7, 76, 1), (8, 77, 1), (9, 78, 1), (10, 79, 1)])⟩ := by kernel_rfl
theorem ty_81 : tyOf Try.prog 81 = some ⟨true, 11, 48, (.agg [(.int .u64 0), (.int .u64 0), (.int .u32 0), (.int .u8 0), (.int .u8 0), (.int .u8 0), (.int .u8 0), (.lit .nilFunc), (.lit (.pointer none)), (.int .i32 0), (.int .i32 0)]), (.strct [(0, 12, 1), (1, 12, 1), (2, 64, 1), (3, 74, 1), (4, 5, 1), (5, 5, 1), (6, 75, 1), (7, 76, 1), (8, 77, 1), (9, 78, 1), (10, 79, 1)])⟩ := by kernel_rfl
theorem ty_82 : tyOf Try.prog 82 = some ⟨true, 3, 40, (.agg [(.bool false), (.str []), (.str [])]), (.strct [(0, 4, 1), (1, 9, 1), (2, 9, 1)])⟩ := by kernel_rfl
theorem ty_83 : tyOf Try.prog 83 = some ⟨true, 3, 40, (.agg [(.bool false), (.str []), (.str [])]), (.strct [(0, 4, 1), (1, 9, 1), (2, 9, 1)])⟩ := by kernel_rfl
theorem eqk_83 : eqKinds Try.prog 83 = some [.bool, .str, .str] := by kernel_rfl
theorem ty_84 : tyOf Try.prog 84 = some ⟨false, 1, 8, (.lit (.pointer none)), .other⟩ := by kernel_rfl
theorem mixed : Try.prog.follows .mixedOrders = true := by kernel_rfl
theorem Wt : type_of% (And.intro @ty_2 (And.intro @ty_3 (And.intro @ty_4 (And.intro @ty_5 (And.intro @ty_6 (And.intro @ty_7 (And.intro @ty_8 (And.intro @ty_9 (And.intro @ty_10 (And.intro @ty_11 (And.intro @ty_12 (And.intro @ty_13 (And.intro @ty_14 (And.intro @ty_15 (And.intro @ty_16 (And.intro @ty_17 (And.intro @ty_18 (And.intro @ty_19 (And.intro @ty_20 (And.intro @ty_21 (And.intro @ty_22 (And.intro @ty_23 (And.intro @ty_24 (And.intro @ty_26 (And.intro @ty_42 (And.intro @ty_43 (And.intro @ty_44 (And.intro @ty_45 (And.intro @ty_46 (And.intro @ty_47 (And.intro @ty_48 (And.intro @ty_52 (And.intro @ty_53 (And.intro @ty_55 (And.intro @ty_63 (And.intro @ty_64 (And.intro @ty_68 (And.intro @ty_69 (And.intro @ty_70 (And.intro @ty_71 (And.intro @ty_72 (And.intro @ty_74 (And.intro @ty_75 (And.intro @ty_77 (And.intro @ty_78 (And.intro @ty_79 (And.intro @ty_80 (And.intro @ty_81 (And.intro @ty_82 (And.intro @ty_83 (And.intro @ty_84 (And.intro @eqk_23 (And.intro @eqk_42 (And.intro @eqk_43 (And.intro @eqk_45 (And.intro @eqk_53 (@eqk_83))))))))))))))))))))))))))))))))))))))))))))))))))))))))) := And.intro @ty_2 (And.intro @ty_3 (And.intro @ty_4 (And.intro @ty_5 (And.intro @ty_6 (And.intro @ty_7 (And.intro @ty_8 (And.intro @ty_9 (And.intro @ty_10 (And.intro @ty_11 (And.intro @ty_12 (And.intro @ty_13 (And.intro @ty_14 (And.intro @ty_15 (And.intro @ty_16 (And.intro @ty_17 (And.intro @ty_18 (And.intro @ty_19 (And.intro @ty_20 (And.intro @ty_21 (And.intro @ty_22 (And.intro @ty_23 (And.intro @ty_24 (And.intro @ty_26 (And.intro @ty_42 (And.intro @ty_43 (And.intro @ty_44 (And.intro @ty_45 (And.intro @ty_46 (And.intro @ty_47 (And.intro @ty_48 (And.intro @ty_52 (And.intro @ty_53 (And.intro @ty_55 (And.intro @ty_63 (And.intro @ty_64 (And.intro @ty_68 (And.intro @ty_69 (And.intro @ty_70 (And.intro @ty_71 (And.intro @ty_72 (And.intro @ty_74 (And.intro @ty_75 (And.intro @ty_77 (And.intro @ty_78 (And.intro @ty_79 (And.intro @ty_80 (And.intro @ty_81 (And.intro @ty_82 (And.intro @ty_83 (And.intro @ty_84 (And.intro @eqk_23 (And.intro @eqk_42 (And.intro @eqk_43 (And.intro @eqk_45 (And.intro @eqk_53 (@eqk_83))))))))))))))))))))))))))))))))))))))))))))))))))))))))
end Go.Proofs.Ytnakoioakhaekaa
