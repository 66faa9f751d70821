import Derived.Test.YtmemdnpjkabjhaaProg
import Derived.Test.YtmemdnpjkabjhaaH
import Derived.KernelRfl
/-! The types of the program, told one by one. -/
set_option linter.unusedVariables false
namespace Go.Proofs.Ytmemdnpjkabjhaa
theorem ty_2 : tyOf Try.prog 2 = some ⟨false, 1, 8, (.int .i64 0), (.int .i64)⟩ := by kernel_rfl
theorem ty_3 : tyOf Try.prog 3 = some ⟨false, 1, 8, (.int .i64 0), (.int .i64)⟩ := by kernel_rfl
theorem ty_4 : tyOf Try.prog 4 = some ⟨false, 1, 1, (.bool false), .bool⟩ := by kernel_rfl
theorem ty_5 : tyOf Try.prog 5 = some ⟨false, 1, 1, (.int .u8 0), (.int .u8)⟩ := by kernel_rfl
theorem ty_6 : tyOf Try.prog 6 = some ⟨false, 1, 1, (.int .u8 0), (.int .u8)⟩ := by kernel_rfl
theorem ty_7 : tyOf Try.prog 7 = some ⟨true, 4, 24, (.agg [(.int .i64 0), (.int .i64 0), (.bool false), (.int .u8 0)]), (.strct [(0, 2, 1), (1, 3, 1), (2, 4, 1), (3, 6, 1)])⟩ := by kernel_rfl
theorem ty_8 : tyOf Try.prog 8 = some ⟨true, 4, 24, (.agg [(.int .i64 0), (.int .i64 0), (.bool false), (.int .u8 0)]), (.strct [(0, 2, 1), (1, 3, 1), (2, 4, 1), (3, 6, 1)])⟩ := by kernel_rfl
theorem ty_9 : tyOf Try.prog 9 = some ⟨false, 1, 16, (.str []), .str⟩ := by kernel_rfl
theorem ty_10 : tyOf Try.prog 10 = some ⟨false, 1, 16, (.str []), .str⟩ := by kernel_rfl
theorem ty_11 : tyOf Try.prog 11 = some ⟨false, 1, 16, (.str []), .str⟩ := by kernel_rfl
theorem ty_12 : tyOf Try.prog 12 = some ⟨false, 1, 8, (.int .u64 0), (.int .u64)⟩ := by kernel_rfl
theorem ty_13 : tyOf Try.prog 13 = some ⟨true, 2, 24, (.agg [(.str []), (.int .u64 0)]), (.strct [(0, 9, 1), (1, 12, 1)])⟩ := by kernel_rfl
theorem ty_14 : tyOf Try.prog 14 = some ⟨true, 2, 24, (.agg [(.str []), (.int .u64 0)]), (.strct [(0, 9, 1), (1, 12, 1)])⟩ := by kernel_rfl
theorem ty_15 : tyOf Try.prog 15 = some ⟨false, 1, 8, (.lit (.pointer none)), (.ptr 50)⟩ := by kernel_rfl
theorem ty_16 : tyOf Try.prog 16 = some ⟨false, 1, 8, (.lit (.pointer none)), (.ptr 53)⟩ := by kernel_rfl
theorem ty_17 : tyOf Try.prog 17 = some ⟨false, 1, 8, (.lit (.pointer none)), (.ptr 62)⟩ := by kernel_rfl
theorem ty_18 : tyOf Try.prog 18 = some ⟨true, 1, 8, (.agg [(.lit (.pointer none))]), (.strct [(0, 17, 1)])⟩ := by kernel_rfl
theorem ty_19 : tyOf Try.prog 19 = some ⟨true, 1, 8, (.agg [(.lit (.pointer none))]), (.strct [(0, 17, 1)])⟩ := by kernel_rfl
theorem ty_20 : tyOf Try.prog 20 = some ⟨false, 1, 16, (.lit .nilIface), .iface⟩ := by kernel_rfl
theorem ty_21 : tyOf Try.prog 21 = some ⟨false, 1, 4, (.int .i32 0), (.int .i32)⟩ := by kernel_rfl
theorem ty_22 : tyOf Try.prog 22 = some ⟨false, 1, 24, (.sl 0 []), (.slice 35)⟩ := by kernel_rfl
theorem ty_29 : tyOf Try.prog 29 = some ⟨true, 4, 4, (.agg [(.int .u8 0), (.int .u8 0), (.int .u8 0), (.int .u8 0)]), (.array 4 5)⟩ := by kernel_rfl
theorem eqk_29 : eqKinds Try.prog 29 = some [(.int .u8), (.int .u8), (.int .u8), (.int .u8)] := by kernel_rfl
theorem ty_30 : tyOf Try.prog 30 = some ⟨true, 4, 4, (.agg [(.int .u8 0), (.int .u8 0), (.int .u8 0), (.int .u8 0)]), (.array 4 5)⟩ := by kernel_rfl
theorem eqk_30 : eqKinds Try.prog 30 = some [(.int .u8), (.int .u8), (.int .u8), (.int .u8)] := by kernel_rfl
theorem ty_31 : tyOf Try.prog 31 = some ⟨true, 5, 16, (.agg [(.int .u8 0), (.int .u8 0), (.int .u8 0), (.int .u8 0), (.int .i64 0)]), (.strct [(0, 30, 4), (4, 3, 1)])⟩ := by kernel_rfl
theorem ty_32 : tyOf Try.prog 32 = some ⟨true, 5, 16, (.agg [(.int .u8 0), (.int .u8 0), (.int .u8 0), (.int .u8 0), (.int .i64 0)]), (.strct [(0, 30, 4), (4, 3, 1)])⟩ := by kernel_rfl
theorem eqk_32 : eqKinds Try.prog 32 = some [(.int .u8), (.int .u8), (.int .u8), (.int .u8), (.int .i64)] := by kernel_rfl
theorem ty_33 : tyOf Try.prog 33 = some ⟨false, 1, 24, (.sl 0 []), (.slice 64)⟩ := by kernel_rfl
theorem ty_34 : tyOf Try.prog 34 = some ⟨true, 14, 120, (.agg [(.str []), (.str []), (.int .u8 0), (.int .u8 0), (.int .u8 0), (.int .u8 0), (.int .i64 0), (.int .i64 0), (.int .i64 0), (.sl 0 []), (.int .i64 0), (.int .i64 0), (.int .i64 0), (.int .i64 0)]), (.strct [(0, 9, 1), (1, 9, 1), (2, 32, 5), (7, 3, 1), (8, 3, 1), (9, 33, 1), (10, 3, 1), (11, 3, 1), (12, 3, 1), (13, 3, 1)])⟩ := by kernel_rfl
theorem ty_35 : tyOf Try.prog 35 = some ⟨true, 14, 120, (.agg [(.str []), (.str []), (.int .u8 0), (.int .u8 0), (.int .u8 0), (.int .u8 0), (.int .i64 0), (.int .i64 0), (.int .i64 0), (.sl 0 []), (.int .i64 0), (.int .i64 0), (.int .i64 0), (.int .i64 0)]), (.strct [(0, 9, 1), (1, 9, 1), (2, 32, 5), (7, 3, 1), (8, 3, 1), (9, 33, 1), (10, 3, 1), (11, 3, 1), (12, 3, 1), (13, 3, 1)])⟩ := by kernel_rfl
theorem ty_44 : tyOf Try.prog 44 = some ⟨false, 1, 8, (.int .u64 0), (.int .u64)⟩ := by kernel_rfl
theorem ty_45 : tyOf Try.prog 45 = some ⟨false, 1, 4, (.int .u32 0), (.int .u32)⟩ := by kernel_rfl
theorem ty_49 : tyOf Try.prog 49 = some ⟨true, 4, 40, (.agg [(.lit (.pointer none)), (.lit (.pointer none)), (.lit (.pointer none)), (.str [])]), (.strct [(0, 17, 1), (1, 17, 1), (2, 17, 1), (3, 9, 1)])⟩ := by kernel_rfl
theorem ty_50 : tyOf Try.prog 50 = some ⟨true, 4, 40, (.agg [(.lit (.pointer none)), (.lit (.pointer none)), (.lit (.pointer none)), (.str [])]), (.strct [(0, 17, 1), (1, 17, 1), (2, 17, 1), (3, 9, 1)])⟩ := by kernel_rfl
theorem ty_51 : tyOf Try.prog 51 = some ⟨true, 0, 0, (.agg []), (.array 0 16)⟩ := by kernel_rfl
theorem ty_52 : tyOf Try.prog 52 = some ⟨true, 0, 0, (.agg []), (.strct [(0, 51, 0)])⟩ := by kernel_rfl
theorem ty_53 : tyOf Try.prog 53 = some ⟨true, 0, 0, (.agg []), (.strct [(0, 51, 0)])⟩ := by kernel_rfl
theorem ty_55 : tyOf Try.prog 55 = some ⟨false, 1, 1, (.int .u8 0), (.int .u8)⟩ := by kernel_rfl
theorem ty_56 : tyOf Try.prog 56 = some ⟨false, 1, 1, (.int .u8 0), (.int .u8)⟩ := by kernel_rfl
theorem ty_58 : tyOf Try.prog 58 = some ⟨false, 1, 8, (.lit (.pointer none)), (.ptr 5)⟩ := by kernel_rfl
theorem ty_59 : tyOf Try.prog 59 = some ⟨false, 1, 4, (.int .i32 0), (.int .i32)⟩ := by kernel_rfl
theorem ty_60 : tyOf Try.prog 60 = some ⟨false, 1, 4, (.int .i32 0), (.int .i32)⟩ := by kernel_rfl
theorem ty_61 : tyOf Try.prog 61 = some ⟨true, 11, 48, (.agg [(.int .u64 0), (.int .u64 0), (.int .u32 0), (.int .u8 0), (.int .u8 0), (.int .u8 0), (.int .u8 0), (.lit .nilFunc), (.lit (.pointer none)), (.int .i32 0), (.int .i32 0)]), (.strct [(0, 12, 1), (1, 12, 1), (2, 45, 1), (3, 55, 1), (4, 5, 1), (5, 5, 1), (6, 56, 1), (7, 57, 1), (8, 58, 1), (9, 59, 1), (10, 60, 1)])⟩ := by kernel_rfl
theorem ty_62 : tyOf Try.prog 62 = some ⟨true, 11, 48, (.agg [(.int .u64 0), (.int .u64 0), (.int .u32 0), (.int .u8 0), (.int .u8 0), (.int .u8 0), (.int .u8 0), (.lit .nilFunc), (.lit (.pointer none)), (.int .i32 0), (.int .i32 0)]), (.strct [(0, 12, 1), (1, 12, 1), (2, 45, 1), (3, 55, 1), (4, 5, 1), (5, 5, 1), (6, 56, 1), (7, 57, 1), (8, 58, 1), (9, 59, 1), (10, 60, 1)])⟩ := by kernel_rfl
theorem ty_63 : tyOf Try.prog 63 = some ⟨true, 3, 40, (.agg [(.bool false), (.str []), (.str [])]), (.strct [(0, 4, 1), (1, 9, 1), (2, 9, 1)])⟩ := by kernel_rfl
theorem ty_64 : tyOf Try.prog 64 = some ⟨true, 3, 40, (.agg [(.bool false), (.str []), (.str [])]), (.strct [(0, 4, 1), (1, 9, 1), (2, 9, 1)])⟩ := by kernel_rfl
theorem eqk_64 : eqKinds Try.prog 64 = some [.bool, .str, .str] := by kernel_rfl
theorem ty_65 : tyOf Try.prog 65 = some ⟨false, 1, 8, (.lit (.pointer none)), .other⟩ := by kernel_rfl
theorem mixed : Try.prog.follows .mixedOrders = true := by kernel_rfl
end Go.Proofs.Ytmemdnpjkabjhaa
