import Derived.Test.YtemlofepmphgiaaTab
import Derived.Test.YtemlofepmphgiaaX
/-! What the arguments of laws are read as. -/
set_option linter.unusedVariables false
namespace Go.Proofs.Ytemlofepmphgiaa
open Go.RowKit
/-- A value of type GLine. -/
structure GLine where
  text : List UInt8
  over : Bool
  deriving Inhabited, DecidableEq
def GLine.cs (x : GLine) : List PV := [.str x.text, .bool x.over]
def GLine.ok (x : GLine) : Prop := (x.text.length ≤ 9223372036854775807)
theorem decGLine (x : List PV) (h : OkL [.str, .bool] x) : ∃ a : GLine, x = a.cs ∧ a.ok := by
  obtain ⟨p0, x0, rfl, h0, h⟩ := okl_cons h
  obtain ⟨p1, x1, rfl, h1, h⟩ := okl_cons h
  obtain rfl := okl_nil h
  obtain ⟨a0, rfl, f0⟩ := str_dec h0
  obtain ⟨a1, rfl⟩ := bool_dec h1
  exact ⟨⟨a0, a1⟩, rfl, f0⟩
/-- A value of type GFramer. -/
structure GFramer where
  b : List UInt8
  cr : Bool
  skip : Bool
  deriving Inhabited, DecidableEq
def GFramer.cs (x : GFramer) : List PV := [.sl 1 (x.b.map byteE), .bool x.cr, .bool x.skip]
def GFramer.ok (x : GFramer) : Prop := (x.b.length ≤ 9223372036854775807)
theorem decGFramer (x : List PV) (h : OkL [(.sl [(.int .u8)]), .bool, .bool] x) : ∃ a : GFramer, x = a.cs ∧ a.ok := by
  obtain ⟨p0, x0, rfl, h0, h⟩ := okl_cons h
  obtain ⟨p1, x1, rfl, h1, h⟩ := okl_cons h
  obtain ⟨p2, x2, rfl, h2, h⟩ := okl_cons h
  obtain rfl := okl_nil h
  obtain ⟨a0, rfl, f0⟩ := bytes_dec h0
  obtain ⟨a1, rfl⟩ := bool_dec h1
  obtain ⟨a2, rfl⟩ := bool_dec h2
  exact ⟨⟨a0, a1, a2⟩, rfl, f0⟩
theorem arg24 {q : PV} (h : OkV Try.prog 9 24 q) : ∃ a : GFramer, q = .agg a.cs ∧ a.ok := by
  obtain ⟨x, rfl, h2⟩ := okv_agg (l := [(.sl [(.int .u8)]), .bool, .bool]) (by kernel_rfl) (by kernel_rfl) h
  obtain ⟨a, rfl, h3⟩ := decGFramer x h2
  exact ⟨a, rfl, h3⟩
theorem arg22 {q : PV} (h : OkV Try.prog 9 22 q) : ∃ a : List UInt8, q = .sl 1 (a.map byteE) ∧ a.length ≤ 9223372036854775807 := by
  obtain ⟨a, rfl, f⟩ := bytes_dec (okv_one (s := (.sl [(.int .u8)])) (by kernel_rfl) (by kernel_rfl) h)
  exact ⟨a, rfl, f⟩
theorem arg3 {q : PV} (h : OkV Try.prog 9 3 q) : ∃ a : Int, q = .int .i64 a ∧ -9223372036854775808 ≤ a ∧ a ≤ 9223372036854775807 := by
  obtain ⟨a, rfl, f⟩ := i64_dec (okv_one (s := (.int .i64)) (by kernel_rfl) (by kernel_rfl) h)
  exact ⟨a, rfl, f⟩
theorem arg4 {q : PV} (h : OkV Try.prog 9 4 q) : ∃ a : Bool, q = .bool a ∧ True := by
  obtain ⟨a, rfl⟩ := bool_dec (okv_one (s := .bool) (by kernel_rfl) (by kernel_rfl) h)
  exact ⟨a, rfl, trivial⟩
theorem arg9 {q : PV} (h : OkV Try.prog 9 9 q) : ∃ a : List UInt8, q = .str a ∧ a.length ≤ 9223372036854775807 := by
  obtain ⟨a, rfl, f⟩ := str_dec (okv_one (s := .str) (by kernel_rfl) (by kernel_rfl) h)
  exact ⟨a, rfl, f⟩
theorem arg35 {q : PV} (h : OkV Try.prog 9 35 q) : ∃ a : List (List UInt8), q = .sl 1 (a.map textE) ∧ a.length ≤ 9223372036854775807 ∧ ∀ y ∈ a, y.length ≤ 9223372036854775807 := by
  obtain ⟨a, rfl, f⟩ := texts_dec (okv_one (s := (.sl [.str])) (by kernel_rfl) (by kernel_rfl) h)
  exact ⟨a, rfl, f⟩
theorem arg5 {q : PV} (h : OkV Try.prog 9 5 q) : ∃ a : UInt8, q = .int .u8 a.toNat ∧ True := by
  obtain ⟨a, rfl⟩ := u8_dec (okv_one (s := (.int .u8)) (by kernel_rfl) (by kernel_rfl) h)
  exact ⟨a, rfl, trivial⟩
end Go.Proofs.Ytemlofepmphgiaa
