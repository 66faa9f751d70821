import Derived.Test.YtgagnohelibaoaaDoorProg
import Derived.Test.YtgagnohelibaoaaDoorH
import Derived.KernelRfl
/-! The types of the program, told one by one. -/
set_option linter.unusedVariables false
namespace Go.Proofs.YtgagnohelibaoaaDoor
theorem ty_1 : tyOf Tryd.prog 1 = some ⟨false, 1, 8, (.lit .nilFunc), .other⟩ := by kernel_rfl
theorem ty_2 : tyOf Tryd.prog 2 = some ⟨false, 1, 8, (.int .i64 0), (.int .i64)⟩ := by kernel_rfl
theorem ty_3 : tyOf Tryd.prog 3 = some ⟨false, 1, 8, (.int .i64 0), (.int .i64)⟩ := by kernel_rfl
theorem ty_4 : tyOf Tryd.prog 4 = some ⟨false, 1, 1, (.bool false), .bool⟩ := by kernel_rfl
theorem ty_5 : tyOf Tryd.prog 5 = some ⟨false, 1, 1, (.int .u8 0), (.int .u8)⟩ := by kernel_rfl
theorem ty_6 : tyOf Tryd.prog 6 = some ⟨false, 1, 1, (.int .u8 0), (.int .u8)⟩ := by kernel_rfl
theorem ty_7 : tyOf Tryd.prog 7 = some ⟨true, 4, 24, (.agg [(.int .i64 0), (.int .i64 0), (.bool false), (.int .u8 0)]), (.strct [(0, 2, 1), (1, 3, 1), (2, 4, 1), (3, 6, 1)])⟩ := by kernel_rfl
theorem ty_8 : tyOf Tryd.prog 8 = some ⟨true, 4, 24, (.agg [(.int .i64 0), (.int .i64 0), (.bool false), (.int .u8 0)]), (.strct [(0, 2, 1), (1, 3, 1), (2, 4, 1), (3, 6, 1)])⟩ := by kernel_rfl
theorem ty_9 : tyOf Tryd.prog 9 = some ⟨false, 1, 16, (.str []), .str⟩ := by kernel_rfl
theorem ty_10 : tyOf Tryd.prog 10 = some ⟨false, 1, 16, (.str []), .str⟩ := by kernel_rfl
theorem ty_11 : tyOf Tryd.prog 11 = some ⟨false, 1, 16, (.str []), .str⟩ := by kernel_rfl
theorem ty_12 : tyOf Tryd.prog 12 = some ⟨false, 1, 8, (.int .u64 0), (.int .u64)⟩ := by kernel_rfl
theorem ty_13 : tyOf Tryd.prog 13 = some ⟨true, 2, 24, (.agg [(.str []), (.int .u64 0)]), (.strct [(0, 9, 1), (1, 12, 1)])⟩ := by kernel_rfl
theorem ty_14 : tyOf Tryd.prog 14 = some ⟨true, 2, 24, (.agg [(.str []), (.int .u64 0)]), (.strct [(0, 9, 1), (1, 12, 1)])⟩ := by kernel_rfl
theorem ty_15 : tyOf Tryd.prog 15 = some ⟨false, 1, 8, (.lit (.pointer none)), (.ptr 115)⟩ := by kernel_rfl
theorem ty_16 : tyOf Tryd.prog 16 = some ⟨false, 1, 8, (.lit (.pointer none)), (.ptr 118)⟩ := by kernel_rfl
theorem ty_17 : tyOf Tryd.prog 17 = some ⟨false, 1, 8, (.lit (.pointer none)), (.ptr 127)⟩ := by kernel_rfl
theorem ty_18 : tyOf Tryd.prog 18 = some ⟨true, 1, 8, (.agg [(.lit (.pointer none))]), (.strct [(0, 17, 1)])⟩ := by kernel_rfl
theorem ty_19 : tyOf Tryd.prog 19 = some ⟨true, 1, 8, (.agg [(.lit (.pointer none))]), (.strct [(0, 17, 1)])⟩ := by kernel_rfl
theorem ty_20 : tyOf Tryd.prog 20 = some ⟨false, 1, 16, (.lit .nilIface), .iface⟩ := by kernel_rfl
theorem ty_21 : tyOf Tryd.prog 21 = some ⟨false, 1, 4, (.int .i32 0), (.int .i32)⟩ := by kernel_rfl
theorem ty_22 : tyOf Tryd.prog 22 = some ⟨true, 2, 32, (.agg [(.str []), (.str [])]), (.strct [(0, 9, 1), (1, 9, 1)])⟩ := by kernel_rfl
theorem ty_23 : tyOf Tryd.prog 23 = some ⟨true, 2, 32, (.agg [(.str []), (.str [])]), (.strct [(0, 9, 1), (1, 9, 1)])⟩ := by kernel_rfl
theorem eqk_23 : eqKinds Tryd.prog 23 = some [.str, .str] := by kernel_rfl
theorem ty_24 : tyOf Tryd.prog 24 = some ⟨false, 1, 8, (.lit .nilFunc), .other⟩ := by kernel_rfl
theorem ty_25 : tyOf Tryd.prog 25 = some ⟨false, 1, 8, (.lit .nilFunc), .other⟩ := by kernel_rfl
theorem ty_27 : tyOf Tryd.prog 27 = some ⟨false, 1, 8, (.lit .nilFunc), .other⟩ := by kernel_rfl
theorem ty_28 : tyOf Tryd.prog 28 = some ⟨false, 1, 8, (.int .i64 0), (.int .i64)⟩ := by kernel_rfl
theorem ty_30 : tyOf Tryd.prog 30 = some ⟨false, 1, 8, (.lit .nilFunc), .other⟩ := by kernel_rfl
theorem ty_31 : tyOf Tryd.prog 31 = some ⟨false, 1, 8, (.lit .nilFunc), .other⟩ := by kernel_rfl
theorem ty_32 : tyOf Tryd.prog 32 = some ⟨false, 1, 8, (.lit .nilFunc), .other⟩ := by kernel_rfl
theorem ty_33 : tyOf Tryd.prog 33 = some ⟨false, 1, 8, (.lit .nilFunc), .other⟩ := by kernel_rfl
theorem ty_34 : tyOf Tryd.prog 34 = some ⟨true, 4, 40, (.agg [(.str []), (.int .i64 0), (.int .i64 0), (.bool false)]), (.strct [(0, 9, 1), (1, 3, 1), (2, 3, 1), (3, 4, 1)])⟩ := by kernel_rfl
theorem ty_35 : tyOf Tryd.prog 35 = some ⟨true, 4, 40, (.agg [(.str []), (.int .i64 0), (.int .i64 0), (.bool false)]), (.strct [(0, 9, 1), (1, 3, 1), (2, 3, 1), (3, 4, 1)])⟩ := by kernel_rfl
theorem eqk_35 : eqKinds Tryd.prog 35 = some [.str, (.int .i64), (.int .i64), .bool] := by kernel_rfl
theorem ty_37 : tyOf Tryd.prog 37 = some ⟨false, 1, 8, (.lit .nilFunc), .other⟩ := by kernel_rfl
theorem ty_38 : tyOf Tryd.prog 38 = some ⟨false, 1, 8, (.lit .nilFunc), .other⟩ := by kernel_rfl
theorem ty_39 : tyOf Tryd.prog 39 = some ⟨false, 1, 8, (.lit .nilFunc), .other⟩ := by kernel_rfl
theorem ty_40 : tyOf Tryd.prog 40 = some ⟨false, 1, 24, (.sl 0 []), (.slice 35)⟩ := by kernel_rfl
theorem ty_41 : tyOf Tryd.prog 41 = some ⟨false, 1, 8, (.lit .nilFunc), .other⟩ := by kernel_rfl
theorem ty_42 : tyOf Tryd.prog 42 = some ⟨false, 1, 8, (.lit .nilFunc), .other⟩ := by kernel_rfl
theorem ty_43 : tyOf Tryd.prog 43 = some ⟨false, 1, 24, (.sl 0 []), (.slice 5)⟩ := by kernel_rfl
theorem ty_44 : tyOf Tryd.prog 44 = some ⟨false, 1, 8, (.lit .nilFunc), .other⟩ := by kernel_rfl
theorem ty_45 : tyOf Tryd.prog 45 = some ⟨false, 1, 16, (.lit .nilIface), .iface⟩ := by kernel_rfl
theorem ty_46 : tyOf Tryd.prog 46 = some ⟨false, 1, 16, (.lit .nilIface), .iface⟩ := by kernel_rfl
theorem ty_48 : tyOf Tryd.prog 48 = some ⟨false, 1, 8, (.lit .nilFunc), .other⟩ := by kernel_rfl
theorem ty_49 : tyOf Tryd.prog 49 = some ⟨false, 1, 8, (.int .i64 0), (.int .i64)⟩ := by kernel_rfl
theorem ty_50 : tyOf Tryd.prog 50 = some ⟨false, 1, 8, (.lit .nilFunc), .other⟩ := by kernel_rfl
theorem ty_51 : tyOf Tryd.prog 51 = some ⟨false, 1, 8, (.lit (.pointer none)), (.ptr 49)⟩ := by kernel_rfl
theorem ty_52 : tyOf Tryd.prog 52 = some ⟨false, 1, 8, (.lit (.map none)), (.map 9 35)⟩ := by kernel_rfl
theorem ty_53 : tyOf Tryd.prog 53 = some ⟨false, 1, 8, (.lit .nilFunc), .other⟩ := by kernel_rfl
theorem ty_54 : tyOf Tryd.prog 54 = some ⟨false, 1, 8, (.lit .nilFunc), .other⟩ := by kernel_rfl
theorem ty_55 : tyOf Tryd.prog 55 = some ⟨false, 1, 8, (.lit .nilFunc), .other⟩ := by kernel_rfl
theorem ty_56 : tyOf Tryd.prog 56 = some ⟨false, 1, 8, (.lit .nilFunc), .other⟩ := by kernel_rfl
theorem ty_58 : tyOf Tryd.prog 58 = some ⟨false, 1, 8, (.lit .nilFunc), .other⟩ := by kernel_rfl
theorem ty_59 : tyOf Tryd.prog 59 = some ⟨false, 1, 8, (.lit (.pointer none)), .other⟩ := by kernel_rfl
theorem ty_60 : tyOf Tryd.prog 60 = some ⟨false, 1, 8, (.int .u64 0), (.int .u64)⟩ := by kernel_rfl
theorem ty_61 : tyOf Tryd.prog 61 = some ⟨true, 3, 24, (.agg [(.lit (.pointer none)), (.lit (.pointer none)), (.int .u64 0)]), (.strct [(0, 17, 1), (1, 59, 1), (2, 60, 1)])⟩ := by kernel_rfl
theorem ty_62 : tyOf Tryd.prog 62 = some ⟨true, 3, 24, (.agg [(.lit (.pointer none)), (.lit (.pointer none)), (.int .u64 0)]), (.strct [(0, 17, 1), (1, 59, 1), (2, 60, 1)])⟩ := by kernel_rfl
theorem ty_63 : tyOf Tryd.prog 63 = some ⟨false, 1, 8, (.lit .nilFunc), .other⟩ := by kernel_rfl
theorem ty_64 : tyOf Tryd.prog 64 = some ⟨false, 1, 16, (.lit .nilIface), .iface⟩ := by kernel_rfl
theorem ty_65 : tyOf Tryd.prog 65 = some ⟨false, 1, 16, (.lit .nilIface), .iface⟩ := by kernel_rfl
theorem ty_66 : tyOf Tryd.prog 66 = some ⟨false, 1, 8, (.lit .nilFunc), .other⟩ := by kernel_rfl
theorem ty_67 : tyOf Tryd.prog 67 = some ⟨false, 1, 1, (.int .u8 0), (.int .u8)⟩ := by kernel_rfl
theorem ty_68 : tyOf Tryd.prog 68 = some ⟨false, 1, 8, (.lit .nilFunc), .other⟩ := by kernel_rfl
theorem ty_69 : tyOf Tryd.prog 69 = some ⟨false, 1, 8, (.lit .nilFunc), .other⟩ := by kernel_rfl
theorem ty_70 : tyOf Tryd.prog 70 = some ⟨false, 1, 8, (.lit .nilFunc), .other⟩ := by kernel_rfl
theorem ty_71 : tyOf Tryd.prog 71 = some ⟨false, 1, 8, (.lit .nilFunc), .other⟩ := by kernel_rfl
theorem ty_72 : tyOf Tryd.prog 72 = some ⟨false, 1, 8, (.lit .nilFunc), .other⟩ := by kernel_rfl
theorem ty_73 : tyOf Tryd.prog 73 = some ⟨false, 1, 8, (.int .u64 0), (.int .u64)⟩ := by kernel_rfl
theorem ty_74 : tyOf Tryd.prog 74 = some ⟨true, 1, 8, (.agg [(.lit (.pointer none))]), (.strct [(0, 17, 1)])⟩ := by kernel_rfl
theorem ty_75 : tyOf Tryd.prog 75 = some ⟨true, 1, 8, (.agg [(.lit (.pointer none))]), (.strct [(0, 17, 1)])⟩ := by kernel_rfl
theorem ty_76 : tyOf Tryd.prog 76 = some ⟨false, 1, 8, (.lit (.pointer none)), (.ptr 131)⟩ := by kernel_rfl
theorem ty_77 : tyOf Tryd.prog 77 = some ⟨false, 1, 8, (.lit .nilFunc), .other⟩ := by kernel_rfl
theorem ty_78 : tyOf Tryd.prog 78 = some ⟨false, 1, 8, (.lit .nilFunc), .other⟩ := by kernel_rfl
theorem ty_79 : tyOf Tryd.prog 79 = some ⟨false, 1, 8, (.lit .nilFunc), .other⟩ := by kernel_rfl
theorem ty_80 : tyOf Tryd.prog 80 = some ⟨false, 1, 16, (.lit .nilIface), .iface⟩ := by kernel_rfl
theorem ty_82 : tyOf Tryd.prog 82 = some ⟨false, 1, 8, (.lit .nilFunc), .other⟩ := by kernel_rfl
theorem ty_83 : tyOf Tryd.prog 83 = some ⟨false, 1, 16, (.lit .nilIface), .iface⟩ := by kernel_rfl
theorem ty_84 : tyOf Tryd.prog 84 = some ⟨false, 1, 8, (.lit .nilFunc), .other⟩ := by kernel_rfl
theorem ty_85 : tyOf Tryd.prog 85 = some ⟨false, 1, 16, (.lit .nilIface), .iface⟩ := by kernel_rfl
theorem ty_86 : tyOf Tryd.prog 86 = some ⟨false, 1, 24, (.sl 0 []), (.slice 46)⟩ := by kernel_rfl
theorem ty_87 : tyOf Tryd.prog 87 = some ⟨false, 1, 8, (.lit .nilFunc), .other⟩ := by kernel_rfl
theorem ty_88 : tyOf Tryd.prog 88 = some ⟨false, 1, 8, (.lit .nilFunc), .other⟩ := by kernel_rfl
theorem ty_89 : tyOf Tryd.prog 89 = some ⟨false, 1, 8, (.int .i64 0), (.int .i64)⟩ := by kernel_rfl
theorem ty_91 : tyOf Tryd.prog 91 = some ⟨false, 1, 8, (.lit .nilFunc), .other⟩ := by kernel_rfl
theorem ty_92 : tyOf Tryd.prog 92 = some ⟨false, 1, 8, (.lit .nilFunc), .other⟩ := by kernel_rfl
theorem ty_93 : tyOf Tryd.prog 93 = some ⟨false, 1, 8, (.lit .nilFunc), .other⟩ := by kernel_rfl
theorem ty_95 : tyOf Tryd.prog 95 = some ⟨false, 1, 8, (.lit .nilFunc), .other⟩ := by kernel_rfl
theorem ty_96 : tyOf Tryd.prog 96 = some ⟨false, 1, 8, (.lit .nilFunc), .other⟩ := by kernel_rfl
theorem ty_97 : tyOf Tryd.prog 97 = some ⟨false, 1, 4, (.int .u32 0), (.int .u32)⟩ := by kernel_rfl
theorem ty_98 : tyOf Tryd.prog 98 = some ⟨false, 1, 8, (.lit .nilFunc), .other⟩ := by kernel_rfl
theorem ty_99 : tyOf Tryd.prog 99 = some ⟨false, 1, 8, (.int .u64 0), (.int .u64)⟩ := by kernel_rfl
theorem ty_100 : tyOf Tryd.prog 100 = some ⟨false, 1, 8, (.int .u64 0), (.int .u64)⟩ := by kernel_rfl
theorem ty_101 : tyOf Tryd.prog 101 = some ⟨false, 1, 8, (.lit .nilFunc), .other⟩ := by kernel_rfl
theorem ty_102 : tyOf Tryd.prog 102 = some ⟨false, 1, 8, (.lit .nilFunc), .other⟩ := by kernel_rfl
theorem ty_103 : tyOf Tryd.prog 103 = some ⟨false, 1, 8, (.lit .nilFunc), .other⟩ := by kernel_rfl
theorem ty_104 : tyOf Tryd.prog 104 = some ⟨false, 1, 8, (.lit (.pointer none)), (.ptr 3)⟩ := by kernel_rfl
theorem ty_105 : tyOf Tryd.prog 105 = some ⟨false, 1, 8, (.lit .nilFunc), .other⟩ := by kernel_rfl
theorem ty_106 : tyOf Tryd.prog 106 = some ⟨false, 1, 8, (.lit .nilFunc), .other⟩ := by kernel_rfl
theorem ty_107 : tyOf Tryd.prog 107 = some ⟨false, 1, 8, (.lit .nilFunc), .other⟩ := by kernel_rfl
theorem ty_108 : tyOf Tryd.prog 108 = some ⟨false, 1, 8, (.lit (.pointer none)), (.ptr 100)⟩ := by kernel_rfl
theorem ty_110 : tyOf Tryd.prog 110 = some ⟨false, 1, 8, (.lit .nilFunc), .other⟩ := by kernel_rfl
theorem ty_112 : tyOf Tryd.prog 112 = some ⟨false, 1, 8, (.lit .nilFunc), .other⟩ := by kernel_rfl
theorem ty_113 : tyOf Tryd.prog 113 = some ⟨false, 1, 8, (.lit .nilFunc), .other⟩ := by kernel_rfl
theorem ty_114 : tyOf Tryd.prog 114 = some ⟨true, 4, 40, (.agg [(.lit (.pointer none)), (.lit (.pointer none)), (.lit (.pointer none)), (.str [])]), (.strct [(0, 17, 1), (1, 17, 1), (2, 17, 1), (3, 9, 1)])⟩ := by kernel_rfl
theorem ty_115 : tyOf Tryd.prog 115 = some ⟨true, 4, 40, (.agg [(.lit (.pointer none)), (.lit (.pointer none)), (.lit (.pointer none)), (.str [])]), (.strct [(0, 17, 1), (1, 17, 1), (2, 17, 1), (3, 9, 1)])⟩ := by kernel_rfl
theorem ty_116 : tyOf Tryd.prog 116 = some ⟨true, 0, 0, (.agg []), (.array 0 16)⟩ := by kernel_rfl
theorem ty_117 : tyOf Tryd.prog 117 = some ⟨true, 0, 0, (.agg []), (.strct [(0, 116, 0)])⟩ := by kernel_rfl
theorem ty_118 : tyOf Tryd.prog 118 = some ⟨true, 0, 0, (.agg []), (.strct [(0, 116, 0)])⟩ := by kernel_rfl
theorem ty_119 : tyOf Tryd.prog 119 = some ⟨false, 1, 8, (.lit .nilFunc), .other⟩ := by kernel_rfl
theorem ty_120 : tyOf Tryd.prog 120 = some ⟨false, 1, 8, (.lit .nilFunc), .other⟩ := by kernel_rfl
theorem ty_121 : tyOf Tryd.prog 121 = some ⟨false, 1, 1, (.int .u8 0), (.int .u8)⟩ := by kernel_rfl
theorem ty_122 : tyOf Tryd.prog 122 = some ⟨false, 1, 8, (.lit .nilFunc), .other⟩ := by kernel_rfl
theorem ty_123 : tyOf Tryd.prog 123 = some ⟨false, 1, 8, (.lit (.pointer none)), (.ptr 5)⟩ := by kernel_rfl
theorem ty_124 : tyOf Tryd.prog 124 = some ⟨false, 1, 4, (.int .i32 0), (.int .i32)⟩ := by kernel_rfl
theorem ty_125 : tyOf Tryd.prog 125 = some ⟨false, 1, 4, (.int .i32 0), (.int .i32)⟩ := by kernel_rfl
theorem ty_126 : tyOf Tryd.prog 126 = some ⟨true, 11, 48, (.agg [(.int .u64 0), (.int .u64 0), (.int .u32 0), (.int .u8 0), (.int .u8 0), (.int .u8 0), (.int .u8 0), (.lit .nilFunc), (.lit (.pointer none)), (.int .i32 0), (.int .i32 0)]), (.strct [(0, 12, 1), (1, 12, 1), (2, 97, 1), (3, 121, 1), (4, 5, 1), (5, 5, 1), (6, 67, 1), (7, 122, 1), (8, 123, 1), (9, 124, 1), (10, 125, 1)])⟩ := by kernel_rfl
theorem ty_127 : tyOf Tryd.prog 127 = some ⟨true, 11, 48, (.agg [(.int .u64 0), (.int .u64 0), (.int .u32 0), (.int .u8 0), (.int .u8 0), (.int .u8 0), (.int .u8 0), (.lit .nilFunc), (.lit (.pointer none)), (.int .i32 0), (.int .i32 0)]), (.strct [(0, 12, 1), (1, 12, 1), (2, 97, 1), (3, 121, 1), (4, 5, 1), (5, 5, 1), (6, 67, 1), (7, 122, 1), (8, 123, 1), (9, 124, 1), (10, 125, 1)])⟩ := by kernel_rfl
theorem ty_128 : tyOf Tryd.prog 128 = some ⟨false, 1, 8, (.lit .nilFunc), .other⟩ := by kernel_rfl
theorem ty_129 : tyOf Tryd.prog 129 = some ⟨false, 1, 8, (.lit .nilFunc), .other⟩ := by kernel_rfl
theorem ty_130 : tyOf Tryd.prog 130 = some ⟨true, 2, 24, (.agg [(.str []), (.int .u8 0)]), (.strct [(0, 9, 1), (1, 67, 1)])⟩ := by kernel_rfl
theorem ty_131 : tyOf Tryd.prog 131 = some ⟨true, 2, 24, (.agg [(.str []), (.int .u8 0)]), (.strct [(0, 9, 1), (1, 67, 1)])⟩ := by kernel_rfl
theorem ty_132 : tyOf Tryd.prog 132 = some ⟨false, 1, 8, (.lit (.pointer none)), (.ptr 136)⟩ := by kernel_rfl
theorem ty_133 : tyOf Tryd.prog 133 = some ⟨false, 1, 8, (.lit .nilFunc), .other⟩ := by kernel_rfl
theorem ty_134 : tyOf Tryd.prog 134 = some ⟨false, 1, 2, (.int .u16 0), (.int .u16)⟩ := by kernel_rfl
theorem ty_135 : tyOf Tryd.prog 135 = some ⟨true, 5, 16, (.agg [(.int .i32 0), (.int .u16 0), (.int .u16 0), (.int .u32 0), (.int .u32 0)]), (.strct [(0, 124, 1), (1, 134, 1), (2, 134, 1), (3, 97, 1), (4, 97, 1)])⟩ := by kernel_rfl
theorem ty_136 : tyOf Tryd.prog 136 = some ⟨true, 5, 16, (.agg [(.int .i32 0), (.int .u16 0), (.int .u16 0), (.int .u32 0), (.int .u32 0)]), (.strct [(0, 124, 1), (1, 134, 1), (2, 134, 1), (3, 97, 1), (4, 97, 1)])⟩ := by kernel_rfl
theorem ty_137 : tyOf Tryd.prog 137 = some ⟨false, 1, 24, (.sl 0 []), (.slice 140)⟩ := by kernel_rfl
theorem ty_138 : tyOf Tryd.prog 138 = some ⟨false, 1, 4, (.int .i32 0), (.int .i32)⟩ := by kernel_rfl
theorem ty_139 : tyOf Tryd.prog 139 = some ⟨true, 4, 16, (.agg [(.int .i32 0), (.int .i32 0), (.int .i32 0), (.int .i32 0)]), (.strct [(0, 124, 1), (1, 125, 1), (2, 138, 1), (3, 138, 1)])⟩ := by kernel_rfl
theorem ty_140 : tyOf Tryd.prog 140 = some ⟨true, 4, 16, (.agg [(.int .i32 0), (.int .i32 0), (.int .i32 0), (.int .i32 0)]), (.strct [(0, 124, 1), (1, 125, 1), (2, 138, 1), (3, 138, 1)])⟩ := by kernel_rfl
theorem ty_141 : tyOf Tryd.prog 141 = some ⟨false, 1, 8, (.lit (.pointer none)), (.ptr 46)⟩ := by kernel_rfl
theorem mixed : Tryd.prog.follows .mixedOrders = true := by kernel_rfl
theorem Wt : type_of% (And.intro @ty_1 (And.intro @ty_2 (And.intro @ty_3 (And.intro @ty_4 (And.intro @ty_5 (And.intro @ty_6 (And.intro @ty_7 (And.intro @ty_8 (And.intro @ty_9 (And.intro @ty_10 (And.intro @ty_11 (And.intro @ty_12 (And.intro @ty_13 (And.intro @ty_14 (And.intro @ty_15 (And.intro @ty_16 (And.intro @ty_17 (And.intro @ty_18 (And.intro @ty_19 (And.intro @ty_20 (And.intro @ty_21 (And.intro @ty_22 (And.intro @ty_23 (And.intro @ty_24 (And.intro @ty_25 (And.intro @ty_27 (And.intro @ty_28 (And.intro @ty_30 (And.intro @ty_31 (And.intro @ty_32 (And.intro @ty_33 (And.intro @ty_34 (And.intro @ty_35 (And.intro @ty_37 (And.intro @ty_38 (And.intro @ty_39 (And.intro @ty_40 (And.intro @ty_41 (And.intro @ty_42 (And.intro @ty_43 (And.intro @ty_44 (And.intro @ty_45 (And.intro @ty_46 (And.intro @ty_48 (And.intro @ty_49 (And.intro @ty_50 (And.intro @ty_51 (And.intro @ty_52 (And.intro @ty_53 (And.intro @ty_54 (And.intro @ty_55 (And.intro @ty_56 (And.intro @ty_58 (And.intro @ty_59 (And.intro @ty_60 (And.intro @ty_61 (And.intro @ty_62 (And.intro @ty_63 (And.intro @ty_64 (And.intro @ty_65 (And.intro @ty_66 (And.intro @ty_67 (And.intro @ty_68 (And.intro @ty_69 (And.intro @ty_70 (And.intro @ty_71 (And.intro @ty_72 (And.intro @ty_73 (And.intro @ty_74 (And.intro @ty_75 (And.intro @ty_76 (And.intro @ty_77 (And.intro @ty_78 (And.intro @ty_79 (And.intro @ty_80 (And.intro @ty_82 (And.intro @ty_83 (And.intro @ty_84 (And.intro @ty_85 (And.intro @ty_86 (And.intro @ty_87 (And.intro @ty_88 (And.intro @ty_89 (And.intro @ty_91 (And.intro @ty_92 (And.intro @ty_93 (And.intro @ty_95 (And.intro @ty_96 (And.intro @ty_97 (And.intro @ty_98 (And.intro @ty_99 (And.intro @ty_100 (And.intro @ty_101 (And.intro @ty_102 (And.intro @ty_103 (And.intro @ty_104 (And.intro @ty_105 (And.intro @ty_106 (And.intro @ty_107 (And.intro @ty_108 (And.intro @ty_110 (And.intro @ty_112 (And.intro @ty_113 (And.intro @ty_114 (And.intro @ty_115 (And.intro @ty_116 (And.intro @ty_117 (And.intro @ty_118 (And.intro @ty_119 (And.intro @ty_120 (And.intro @ty_121 (And.intro @ty_122 (And.intro @ty_123 (And.intro @ty_124 (And.intro @ty_125 (And.intro @ty_126 (And.intro @ty_127 (And.intro @ty_128 (And.intro @ty_129 (And.intro @ty_130 (And.intro @ty_131 (And.intro @ty_132 (And.intro @ty_133 (And.intro @ty_134 (And.intro @ty_135 (And.intro @ty_136 (And.intro @ty_137 (And.intro @ty_138 (And.intro @ty_139 (And.intro @ty_140 (And.intro @ty_141 (And.intro @eqk_23 (@eqk_35))))))))))))))))))))))))))))))))))))))))))))))))))))))))))))))))))))))))))))))))))))))))))))))))))))))))))))))))))))))))))))))))))))) := And.intro @ty_1 (And.intro @ty_2 (And.intro @ty_3 (And.intro @ty_4 (And.intro @ty_5 (And.intro @ty_6 (And.intro @ty_7 (And.intro @ty_8 (And.intro @ty_9 (And.intro @ty_10 (And.intro @ty_11 (And.intro @ty_12 (And.intro @ty_13 (And.intro @ty_14 (And.intro @ty_15 (And.intro @ty_16 (And.intro @ty_17 (And.intro @ty_18 (And.intro @ty_19 (And.intro @ty_20 (And.intro @ty_21 (And.intro @ty_22 (And.intro @ty_23 (And.intro @ty_24 (And.intro @ty_25 (And.intro @ty_27 (And.intro @ty_28 (And.intro @ty_30 (And.intro @ty_31 (And.intro @ty_32 (And.intro @ty_33 (And.intro @ty_34 (And.intro @ty_35 (And.intro @ty_37 (And.intro @ty_38 (And.intro @ty_39 (And.intro @ty_40 (And.intro @ty_41 (And.intro @ty_42 (And.intro @ty_43 (And.intro @ty_44 (And.intro @ty_45 (And.intro @ty_46 (And.intro @ty_48 (And.intro @ty_49 (And.intro @ty_50 (And.intro @ty_51 (And.intro @ty_52 (And.intro @ty_53 (And.intro @ty_54 (And.intro @ty_55 (And.intro @ty_56 (And.intro @ty_58 (And.intro @ty_59 (And.intro @ty_60 (And.intro @ty_61 (And.intro @ty_62 (And.intro @ty_63 (And.intro @ty_64 (And.intro @ty_65 (And.intro @ty_66 (And.intro @ty_67 (And.intro @ty_68 (And.intro @ty_69 (And.intro @ty_70 (And.intro @ty_71 (And.intro @ty_72 (And.intro @ty_73 (And.intro @ty_74 (And.intro @ty_75 (And.intro @ty_76 (And.intro @ty_77 (And.intro @ty_78 (And.intro @ty_79 (And.intro @ty_80 (And.intro @ty_82 (And.intro @ty_83 (And.intro @ty_84 (And.intro @ty_85 (And.intro @ty_86 (And.intro @ty_87 (And.intro @ty_88 (And.intro @ty_89 (And.intro @ty_91 (And.intro @ty_92 (And.intro @ty_93 (And.intro @ty_95 (And.intro @ty_96 (And.intro @ty_97 (And.intro @ty_98 (And.intro @ty_99 (And.intro @ty_100 (And.intro @ty_101 (And.intro @ty_102 (And.intro @ty_103 (And.intro @ty_104 (And.intro @ty_105 (And.intro @ty_106 (And.intro @ty_107 (And.intro @ty_108 (And.intro @ty_110 (And.intro @ty_112 (And.intro @ty_113 (And.intro @ty_114 (And.intro @ty_115 (And.intro @ty_116 (And.intro @ty_117 (And.intro @ty_118 (And.intro @ty_119 (And.intro @ty_120 (And.intro @ty_121 (And.intro @ty_122 (And.intro @ty_123 (And.intro @ty_124 (And.intro @ty_125 (And.intro @ty_126 (And.intro @ty_127 (And.intro @ty_128 (And.intro @ty_129 (And.intro @ty_130 (And.intro @ty_131 (And.intro @ty_132 (And.intro @ty_133 (And.intro @ty_134 (And.intro @ty_135 (And.intro @ty_136 (And.intro @ty_137 (And.intro @ty_138 (And.intro @ty_139 (And.intro @ty_140 (And.intro @ty_141 (And.intro @eqk_23 (@eqk_35))))))))))))))))))))))))))))))))))))))))))))))))))))))))))))))))))))))))))))))))))))))))))))))))))))))))))))))))))))))))))))))))))))
end Go.Proofs.YtgagnohelibaoaaDoor
