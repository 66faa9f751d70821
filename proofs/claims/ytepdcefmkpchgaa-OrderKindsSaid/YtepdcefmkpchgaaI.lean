import Derived.Test.YtepdcefmkpchgaaTab
import Derived.Test.YtepdcefmkpchgaaM
import Derived.Lib.IndexAny
/-! What the functions of Go's library come to here. -/
set_option linter.unusedSimpArgs false
set_option linter.unusedVariables false
namespace Go.Proofs.Ytepdcefmkpchgaa
open Go.RowKit

set_option maxHeartbeats 1000000 in
set_option maxRecDepth 100000 in
theorem lite_byte (s : ByteArray) (c : Int) (w : World) : Calls Try.prog 40 #[.string s, .int .u8 c] w fun e w' => e = .returned (.int .i64 (Lib.indexByte s.data.toList c.toNat.toUInt8)) ∧ w' = w := by
  go_enter Try.func40, Try.ntmps40
  go_wp2
  rw [run_callFunc_extern Try.func51 (by kernel_rfl) (by kernel_rfl) (by kernel_rfl) (e := Extern.BytealgIndexByte.indexByte) (by kernel_rfl), Lib.run_indexByteString]
  simp only [Result.andThen]
  rw [Oper.upon_value]
  go_wp2
  go_ret
  exact ⟨rfl, rfl⟩
set_option maxHeartbeats 1000000 in
theorem byte_calls (s : ByteArray) (c : Int) (w : World) : Calls Try.prog 32 #[.string s, .int .u8 c] w fun e w' => e = .returned (.int .i64 (Lib.indexByte s.data.toList c.toNat.toUInt8)) ∧ w' = w := by
  go_enter Try.func32, Try.ntmps32
  go_wp2_with (go_at_call 40; refine (lite_byte _ _ _).mono ?_; rintro e w' ⟨rfl, rfl⟩)
  go_ret
  exact ⟨rfl, rfl⟩
theorem indexByte_to (l : List UInt8) (c : UInt8) : CallsTo Try.prog 32 [.str l, .int .u8 c.toNat] (.int .i64 (Lib.indexByte l c)) [] :=
  callsTo_same (by kernel_rfl) rfl rfl fun w => by
    have := byte_calls ⟨l.toArray⟩ (c.toNat : Int) w
    simpa using this
end Go.Proofs.Ytepdcefmkpchgaa
