import Derived.Test.YtgagnohelibaoaaDoorTab
import Derived.Test.YtgagnohelibaoaaDoorX
/-! What the arguments of laws are read as. -/
set_option linter.unusedVariables false
namespace Go.Proofs.YtgagnohelibaoaaDoor
open Go.RowKit
/-- A value of type GVerb. -/
structure GVerb where
  name : List UInt8
  kind : Int
  arg : Int
  path : Bool
  deriving Inhabited, DecidableEq
def GVerb.cs (x : GVerb) : List PV := [.str x.name, .int .i64 x.kind, .int .i64 x.arg, .bool x.path]
def GVerb.ok (x : GVerb) : Prop := (x.name.length ≤ 9223372036854775807) ∧ (-9223372036854775808 ≤ x.kind ∧ x.kind ≤ 9223372036854775807) ∧ (-9223372036854775808 ≤ x.arg ∧ x.arg ≤ 9223372036854775807)
theorem decGVerb (x : List PV) (h : OkL [.str, (.int .i64), (.int .i64), .bool] x) : ∃ a : GVerb, x = a.cs ∧ a.ok := by
  obtain ⟨p0, x0, rfl, h0, h⟩ := okl_cons h
  obtain ⟨p1, x1, rfl, h1, h⟩ := okl_cons h
  obtain ⟨p2, x2, rfl, h2, h⟩ := okl_cons h
  obtain ⟨p3, x3, rfl, h3, h⟩ := okl_cons h
  obtain rfl := okl_nil h
  obtain ⟨a0, rfl, f0⟩ := str_dec h0
  obtain ⟨a1, rfl, f1⟩ := i64_dec h1
  obtain ⟨a2, rfl, f2⟩ := i64_dec h2
  obtain ⟨a3, rfl⟩ := bool_dec h3
  exact ⟨⟨a0, a1, a2, a3⟩, rfl, f0, f1, f2⟩
/-- A value of type GCmd. -/
structure GCmd where
  verb : List UInt8
  arg : List UInt8
  deriving Inhabited, DecidableEq
def GCmd.cs (x : GCmd) : List PV := [.str x.verb, .str x.arg]
def GCmd.ok (x : GCmd) : Prop := (x.verb.length ≤ 9223372036854775807) ∧ (x.arg.length ≤ 9223372036854775807)
theorem decGCmd (x : List PV) (h : OkL [.str, .str] x) : ∃ a : GCmd, x = a.cs ∧ a.ok := by
  obtain ⟨p0, x0, rfl, h0, h⟩ := okl_cons h
  obtain ⟨p1, x1, rfl, h1, h⟩ := okl_cons h
  obtain rfl := okl_nil h
  obtain ⟨a0, rfl, f0⟩ := str_dec h0
  obtain ⟨a1, rfl, f1⟩ := str_dec h1
  exact ⟨⟨a0, a1⟩, rfl, f0, f1⟩
theorem arg23 {q : PV} (h : OkV Tryd.prog 9 23 q) : ∃ a : GCmd, q = .agg a.cs ∧ a.ok := by
  obtain ⟨x, rfl, h2⟩ := okv_agg (l := [.str, .str]) (by kernel_rfl) (by kernel_rfl) h
  obtain ⟨a, rfl, h3⟩ := decGCmd x h2
  exact ⟨a, rfl, h3⟩
theorem arg9 {q : PV} (h : OkV Tryd.prog 9 9 q) : ∃ a : List UInt8, q = .str a ∧ a.length ≤ 9223372036854775807 := by
  obtain ⟨a, rfl, f⟩ := str_dec (okv_one (s := .str) (by kernel_rfl) (by kernel_rfl) h)
  exact ⟨a, rfl, f⟩
theorem arg3 {q : PV} (h : OkV Tryd.prog 9 3 q) : ∃ a : Int, q = .int .i64 a ∧ -9223372036854775808 ≤ a ∧ a ≤ 9223372036854775807 := by
  obtain ⟨a, rfl, f⟩ := i64_dec (okv_one (s := (.int .i64)) (by kernel_rfl) (by kernel_rfl) h)
  exact ⟨a, rfl, f⟩
end Go.Proofs.YtgagnohelibaoaaDoor
