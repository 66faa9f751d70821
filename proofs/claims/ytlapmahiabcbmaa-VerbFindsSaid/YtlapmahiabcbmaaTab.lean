import Derived.Test.YtlapmahiabcbmaaProg
import Derived.Test.YtlapmahiabcbmaaH
import Derived.KernelRfl
/-! The types of the program, told one by one. -/
set_option linter.unusedVariables false
namespace Go.Proofs.Ytlapmahiabcbmaa
theorem ty_1 : tyOf Try.prog 1 = some ⟨false, 1, 8, (.lit .nilFunc), .other⟩ := by kernel_rfl
theorem ty_2 : tyOf Try.prog 2 = some ⟨false, 1, 8, (.int .i64 0), (.int .i64)⟩ := by kernel_rfl
theorem ty_3 : tyOf Try.prog 3 = some ⟨false, 1, 8, (.int .i64 0), (.int .i64)⟩ := by kernel_rfl
theorem ty_4 : tyOf Try.prog 4 = some ⟨false, 1, 1, (.bool false), .bool⟩ := by kernel_rfl
theorem ty_5 : tyOf Try.prog 5 = some ⟨false, 1, 1, (.int .u8 0), (.int .u8)⟩ := by kernel_rfl
theorem ty_6 : tyOf Try.prog 6 = some ⟨false, 1, 1, (.int .u8 0), (.int .u8)⟩ := by kernel_rfl
theorem ty_7 : tyOf Try.prog 7 = some ⟨true, 4, 24, (.agg [(.int .i64 0), (.int .i64 0), (.bool false), (.int .u8 0)]), (.strct [(0, 2, 1), (1, 3, 1), (2, 4, 1), (3, 6, 1)])⟩ := by kernel_rfl
theorem ty_8 : tyOf Try.prog 8 = some ⟨true, 4, 24, (.agg [(.int .i64 0), (.int .i64 0), (.bool false), (.int .u8 0)]), (.strct [(0, 2, 1), (1, 3, 1), (2, 4, 1), (3, 6, 1)])⟩ := by kernel_rfl
theorem ty_9 : tyOf Try.prog 9 = some ⟨false, 1, 16, (.str []), .str⟩ := by kernel_rfl
theorem ty_10 : tyOf Try.prog 10 = some ⟨false, 1, 16, (.str []), .str⟩ := by kernel_rfl
theorem ty_11 : tyOf Try.prog 11 = some ⟨false, 1, 16, (.str []), .str⟩ := by kernel_rfl
theorem ty_12 : tyOf Try.prog 12 = some ⟨false, 1, 8, (.int .u64 0), (.int .u64)⟩ := by kernel_rfl
theorem ty_13 : tyOf Try.prog 13 = some ⟨true, 2, 24, (.agg [(.str []), (.int .u64 0)]), (.strct [(0, 9, 1), (1, 12, 1)])⟩ := by kernel_rfl
theorem ty_14 : tyOf Try.prog 14 = some ⟨true, 2, 24, (.agg [(.str []), (.int .u64 0)]), (.strct [(0, 9, 1), (1, 12, 1)])⟩ := by kernel_rfl
theorem ty_15 : tyOf Try.prog 15 = some ⟨false, 1, 8, (.lit (.pointer none)), (.ptr 66)⟩ := by kernel_rfl
theorem ty_16 : tyOf Try.prog 16 = some ⟨false, 1, 8, (.lit (.pointer none)), (.ptr 69)⟩ := by kernel_rfl
theorem ty_17 : tyOf Try.prog 17 = some ⟨false, 1, 8, (.lit (.pointer none)), (.ptr 78)⟩ := by kernel_rfl
theorem ty_18 : tyOf Try.prog 18 = some ⟨true, 1, 8, (.agg [(.lit (.pointer none))]), (.strct [(0, 17, 1)])⟩ := by kernel_rfl
theorem ty_19 : tyOf Try.prog 19 = some ⟨true, 1, 8, (.agg [(.lit (.pointer none))]), (.strct [(0, 17, 1)])⟩ := by kernel_rfl
theorem ty_20 : tyOf Try.prog 20 = some ⟨false, 1, 16, (.lit .nilIface), .iface⟩ := by kernel_rfl
theorem ty_21 : tyOf Try.prog 21 = some ⟨false, 1, 4, (.int .i32 0), (.int .i32)⟩ := by kernel_rfl
theorem ty_22 : tyOf Try.prog 22 = some ⟨false, 1, 8, (.lit .nilFunc), .other⟩ := by kernel_rfl
theorem ty_23 : tyOf Try.prog 23 = some ⟨true, 4, 40, (.agg [(.str []), (.int .i64 0), (.int .i64 0), (.bool false)]), (.strct [(0, 9, 1), (1, 3, 1), (2, 3, 1), (3, 4, 1)])⟩ := by kernel_rfl
theorem ty_24 : tyOf Try.prog 24 = some ⟨true, 4, 40, (.agg [(.str []), (.int .i64 0), (.int .i64 0), (.bool false)]), (.strct [(0, 9, 1), (1, 3, 1), (2, 3, 1), (3, 4, 1)])⟩ := by kernel_rfl
theorem eqk_24 : eqKinds Try.prog 24 = some [.str, (.int .i64), (.int .i64), .bool] := by kernel_rfl
theorem ty_26 : tyOf Try.prog 26 = some ⟨false, 1, 8, (.lit .nilFunc), .other⟩ := by kernel_rfl
theorem ty_27 : tyOf Try.prog 27 = some ⟨false, 1, 24, (.sl 0 []), (.slice 24)⟩ := by kernel_rfl
theorem ty_28 : tyOf Try.prog 28 = some ⟨false, 1, 8, (.lit .nilFunc), .other⟩ := by kernel_rfl
theorem ty_29 : tyOf Try.prog 29 = some ⟨false, 1, 8, (.lit .nilFunc), .other⟩ := by kernel_rfl
theorem ty_30 : tyOf Try.prog 30 = some ⟨false, 1, 8, (.lit .nilFunc), .other⟩ := by kernel_rfl
theorem ty_31 : tyOf Try.prog 31 = some ⟨false, 1, 24, (.sl 0 []), (.slice 5)⟩ := by kernel_rfl
theorem ty_32 : tyOf Try.prog 32 = some ⟨false, 1, 8, (.lit .nilFunc), .other⟩ := by kernel_rfl
theorem ty_33 : tyOf Try.prog 33 = some ⟨false, 1, 8, (.lit .nilFunc), .other⟩ := by kernel_rfl
theorem ty_34 : tyOf Try.prog 34 = some ⟨false, 1, 8, (.lit .nilFunc), .other⟩ := by kernel_rfl
theorem ty_35 : tyOf Try.prog 35 = some ⟨false, 1, 8, (.lit (.map none)), (.map 9 24)⟩ := by kernel_rfl
theorem ty_36 : tyOf Try.prog 36 = some ⟨false, 1, 8, (.lit .nilFunc), .other⟩ := by kernel_rfl
theorem ty_37 : tyOf Try.prog 37 = some ⟨false, 1, 8, (.lit .nilFunc), .other⟩ := by kernel_rfl
theorem ty_38 : tyOf Try.prog 38 = some ⟨false, 1, 8, (.lit .nilFunc), .other⟩ := by kernel_rfl
theorem ty_39 : tyOf Try.prog 39 = some ⟨false, 1, 8, (.lit .nilFunc), .other⟩ := by kernel_rfl
theorem ty_40 : tyOf Try.prog 40 = some ⟨false, 1, 8, (.lit .nilFunc), .other⟩ := by kernel_rfl
theorem ty_41 : tyOf Try.prog 41 = some ⟨false, 1, 8, (.lit .nilFunc), .other⟩ := by kernel_rfl
theorem ty_42 : tyOf Try.prog 42 = some ⟨false, 1, 8, (.int .u64 0), (.int .u64)⟩ := by kernel_rfl
theorem ty_43 : tyOf Try.prog 43 = some ⟨false, 1, 8, (.lit .nilFunc), .other⟩ := by kernel_rfl
theorem ty_44 : tyOf Try.prog 44 = some ⟨false, 1, 8, (.int .i64 0), (.int .i64)⟩ := by kernel_rfl
theorem ty_46 : tyOf Try.prog 46 = some ⟨false, 1, 8, (.lit .nilFunc), .other⟩ := by kernel_rfl
theorem ty_47 : tyOf Try.prog 47 = some ⟨false, 1, 8, (.lit .nilFunc), .other⟩ := by kernel_rfl
theorem ty_48 : tyOf Try.prog 48 = some ⟨false, 1, 8, (.lit .nilFunc), .other⟩ := by kernel_rfl
theorem ty_50 : tyOf Try.prog 50 = some ⟨false, 1, 8, (.lit .nilFunc), .other⟩ := by kernel_rfl
theorem ty_51 : tyOf Try.prog 51 = some ⟨false, 1, 8, (.lit .nilFunc), .other⟩ := by kernel_rfl
theorem ty_52 : tyOf Try.prog 52 = some ⟨false, 1, 4, (.int .u32 0), (.int .u32)⟩ := by kernel_rfl
theorem ty_53 : tyOf Try.prog 53 = some ⟨false, 1, 8, (.lit .nilFunc), .other⟩ := by kernel_rfl
theorem ty_54 : tyOf Try.prog 54 = some ⟨false, 1, 8, (.int .u64 0), (.int .u64)⟩ := by kernel_rfl
theorem ty_55 : tyOf Try.prog 55 = some ⟨false, 1, 8, (.int .u64 0), (.int .u64)⟩ := by kernel_rfl
theorem ty_56 : tyOf Try.prog 56 = some ⟨false, 1, 8, (.lit .nilFunc), .other⟩ := by kernel_rfl
theorem ty_57 : tyOf Try.prog 57 = some ⟨false, 1, 8, (.lit .nilFunc), .other⟩ := by kernel_rfl
theorem ty_58 : tyOf Try.prog 58 = some ⟨false, 1, 8, (.lit .nilFunc), .other⟩ := by kernel_rfl
theorem ty_59 : tyOf Try.prog 59 = some ⟨false, 1, 8, (.lit (.pointer none)), (.ptr 3)⟩ := by kernel_rfl
theorem ty_60 : tyOf Try.prog 60 = some ⟨false, 1, 8, (.lit .nilFunc), .other⟩ := by kernel_rfl
theorem ty_61 : tyOf Try.prog 61 = some ⟨false, 1, 8, (.lit (.pointer none)), (.ptr 55)⟩ := by kernel_rfl
theorem ty_63 : tyOf Try.prog 63 = some ⟨false, 1, 8, (.lit .nilFunc), .other⟩ := by kernel_rfl
theorem ty_64 : tyOf Try.prog 64 = some ⟨false, 1, 8, (.lit .nilFunc), .other⟩ := by kernel_rfl
theorem ty_65 : tyOf Try.prog 65 = some ⟨true, 4, 40, (.agg [(.lit (.pointer none)), (.lit (.pointer none)), (.lit (.pointer none)), (.str [])]), (.strct [(0, 17, 1), (1, 17, 1), (2, 17, 1), (3, 9, 1)])⟩ := by kernel_rfl
theorem ty_66 : tyOf Try.prog 66 = some ⟨true, 4, 40, (.agg [(.lit (.pointer none)), (.lit (.pointer none)), (.lit (.pointer none)), (.str [])]), (.strct [(0, 17, 1), (1, 17, 1), (2, 17, 1), (3, 9, 1)])⟩ := by kernel_rfl
theorem ty_67 : tyOf Try.prog 67 = some ⟨true, 0, 0, (.agg []), (.array 0 16)⟩ := by kernel_rfl
theorem ty_68 : tyOf Try.prog 68 = some ⟨true, 0, 0, (.agg []), (.strct [(0, 67, 0)])⟩ := by kernel_rfl
theorem ty_69 : tyOf Try.prog 69 = some ⟨true, 0, 0, (.agg []), (.strct [(0, 67, 0)])⟩ := by kernel_rfl
theorem ty_70 : tyOf Try.prog 70 = some ⟨false, 1, 8, (.lit .nilFunc), .other⟩ := by kernel_rfl
theorem ty_71 : tyOf Try.prog 71 = some ⟨false, 1, 1, (.int .u8 0), (.int .u8)⟩ := by kernel_rfl
theorem ty_72 : tyOf Try.prog 72 = some ⟨false, 1, 1, (.int .u8 0), (.int .u8)⟩ := by kernel_rfl
theorem ty_73 : tyOf Try.prog 73 = some ⟨false, 1, 8, (.lit .nilFunc), .other⟩ := by kernel_rfl
theorem ty_74 : tyOf Try.prog 74 = some ⟨false, 1, 8, (.lit (.pointer none)), (.ptr 5)⟩ := by kernel_rfl
theorem ty_75 : tyOf Try.prog 75 = some ⟨false, 1, 4, (.int .i32 0), (.int .i32)⟩ := by kernel_rfl
theorem ty_76 : tyOf Try.prog 76 = some ⟨false, 1, 4, (.int .i32 0), (.int .i32)⟩ := by kernel_rfl
theorem ty_77 : tyOf Try.prog 77 = some ⟨true, 11, 48, (.agg [(.int .u64 0), (.int .u64 0), (.int .u32 0), (.int .u8 0), (.int .u8 0), (.int .u8 0), (.int .u8 0), (.lit .nilFunc), (.lit (.pointer none)), (.int .i32 0), (.int .i32 0)]), (.strct [(0, 12, 1), (1, 12, 1), (2, 52, 1), (3, 71, 1), (4, 5, 1), (5, 5, 1), (6, 72, 1), (7, 73, 1), (8, 74, 1), (9, 75, 1), (10, 76, 1)])⟩ := by kernel_rfl
theorem ty_78 : tyOf Try.prog 78 = some ⟨true, 11, 48, (.agg [(.int .u64 0), (.int .u64 0), (.int .u32 0), (.int .u8 0), (.int .u8 0), (.int .u8 0), (.int .u8 0), (.lit .nilFunc), (.lit (.pointer none)), (.int .i32 0), (.int .i32 0)]), (.strct [(0, 12, 1), (1, 12, 1), (2, 52, 1), (3, 71, 1), (4, 5, 1), (5, 5, 1), (6, 72, 1), (7, 73, 1), (8, 74, 1), (9, 75, 1), (10, 76, 1)])⟩ := by kernel_rfl
theorem ty_79 : tyOf Try.prog 79 = some ⟨false, 1, 8, (.lit (.pointer none)), .other⟩ := by kernel_rfl
theorem mixed : Try.prog.follows .mixedOrders = true := by kernel_rfl
theorem Wt : type_of% (And.intro @ty_1 (And.intro @ty_2 (And.intro @ty_3 (And.intro @ty_4 (And.intro @ty_5 (And.intro @ty_6 (And.intro @ty_7 (And.intro @ty_8 (And.intro @ty_9 (And.intro @ty_10 (And.intro @ty_11 (And.intro @ty_12 (And.intro @ty_13 (And.intro @ty_14 (And.intro @ty_15 (And.intro @ty_16 (And.intro @ty_17 (And.intro @ty_18 (And.intro @ty_19 (And.intro @ty_20 (And.intro @ty_21 (And.intro @ty_22 (And.intro @ty_23 (And.intro @ty_24 (And.intro @ty_26 (And.intro @ty_27 (And.intro @ty_28 (And.intro @ty_29 (And.intro @ty_30 (And.intro @ty_31 (And.intro @ty_32 (And.intro @ty_33 (And.intro @ty_34 (And.intro @ty_35 (And.intro @ty_36 (And.intro @ty_37 (And.intro @ty_38 (And.intro @ty_39 (And.intro @ty_40 (And.intro @ty_41 (And.intro @ty_42 (And.intro @ty_43 (And.intro @ty_44 (And.intro @ty_46 (And.intro @ty_47 (And.intro @ty_48 (And.intro @ty_50 (And.intro @ty_51 (And.intro @ty_52 (And.intro @ty_53 (And.intro @ty_54 (And.intro @ty_55 (And.intro @ty_56 (And.intro @ty_57 (And.intro @ty_58 (And.intro @ty_59 (And.intro @ty_60 (And.intro @ty_61 (And.intro @ty_63 (And.intro @ty_64 (And.intro @ty_65 (And.intro @ty_66 (And.intro @ty_67 (And.intro @ty_68 (And.intro @ty_69 (And.intro @ty_70 (And.intro @ty_71 (And.intro @ty_72 (And.intro @ty_73 (And.intro @ty_74 (And.intro @ty_75 (And.intro @ty_76 (And.intro @ty_77 (And.intro @ty_78 (And.intro @ty_79 (@eqk_24)))))))))))))))))))))))))))))))))))))))))))))))))))))))))))))))))))))))))))) := And.intro @ty_1 (And.intro @ty_2 (And.intro @ty_3 (And.intro @ty_4 (And.intro @ty_5 (And.intro @ty_6 (And.intro @ty_7 (And.intro @ty_8 (And.intro @ty_9 (And.intro @ty_10 (And.intro @ty_11 (And.intro @ty_12 (And.intro @ty_13 (And.intro @ty_14 (And.intro @ty_15 (And.intro @ty_16 (And.intro @ty_17 (And.intro @ty_18 (And.intro @ty_19 (And.intro @ty_20 (And.intro @ty_21 (And.intro @ty_22 (And.intro @ty_23 (And.intro @ty_24 (And.intro @ty_26 (And.intro @ty_27 (And.intro @ty_28 (And.intro @ty_29 (And.intro @ty_30 (And.intro @ty_31 (And.intro @ty_32 (And.intro @ty_33 (And.intro @ty_34 (And.intro @ty_35 (And.intro @ty_36 (And.intro @ty_37 (And.intro @ty_38 (And.intro @ty_39 (And.intro @ty_40 (And.intro @ty_41 (And.intro @ty_42 (And.intro @ty_43 (And.intro @ty_44 (And.intro @ty_46 (And.intro @ty_47 (And.intro @ty_48 (And.intro @ty_50 (And.intro @ty_51 (And.intro @ty_52 (And.intro @ty_53 (And.intro @ty_54 (And.intro @ty_55 (And.intro @ty_56 (And.intro @ty_57 (And.intro @ty_58 (And.intro @ty_59 (And.intro @ty_60 (And.intro @ty_61 (And.intro @ty_63 (And.intro @ty_64 (And.intro @ty_65 (And.intro @ty_66 (And.intro @ty_67 (And.intro @ty_68 (And.intro @ty_69 (And.intro @ty_70 (And.intro @ty_71 (And.intro @ty_72 (And.intro @ty_73 (And.intro @ty_74 (And.intro @ty_75 (And.intro @ty_76 (And.intro @ty_77 (And.intro @ty_78 (And.intro @ty_79 (@eqk_24)))))))))))))))))))))))))))))))))))))))))))))))))))))))))))))))))))))))))))
end Go.Proofs.Ytlapmahiabcbmaa
