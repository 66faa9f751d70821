import Derived.Test.YtbpagmhhjbcceaaTab
import Derived.Test.YtbpagmhhjbcceaaX
/-! What the arguments of laws are read as. -/
set_option linter.unusedVariables false
namespace Go.Proofs.Ytbpagmhhjbcceaa
open Go.RowKit
/-- A value of type GReply. -/
structure GReply where
  code : Int
  lines : List (List UInt8)
  deriving Inhabited, DecidableEq
def GReply.cs (x : GReply) : List PV := [.int .i64 x.code, .sl 1 (x.lines.map textE)]
def GReply.ok (x : GReply) : Prop := (-9223372036854775808 ≤ x.code ∧ x.code ≤ 9223372036854775807) ∧ (x.lines.length ≤ 9223372036854775807 ∧ ∀ y ∈ x.lines, y.length ≤ 9223372036854775807)
theorem decGReply (x : List PV) (h : OkL [(.int .i64), (.sl [.str])] x) : ∃ a : GReply, x = a.cs ∧ a.ok := by
  obtain ⟨p0, x0, rfl, h0, h⟩ := okl_cons h
  obtain ⟨p1, x1, rfl, h1, h⟩ := okl_cons h
  obtain rfl := okl_nil h
  obtain ⟨a0, rfl, f0⟩ := i64_dec h0
  obtain ⟨a1, rfl, f1⟩ := texts_dec h1
  exact ⟨⟨a0, a1⟩, rfl, f0, f1⟩
theorem arg24 {q : PV} (h : OkV Try.prog 9 24 q) : ∃ a : GReply, q = .agg a.cs ∧ a.ok := by
  obtain ⟨x, rfl, h2⟩ := okv_agg (l := [(.int .i64), (.sl [.str])]) (by kernel_rfl) (by kernel_rfl) h
  obtain ⟨a, rfl, h3⟩ := decGReply x h2
  exact ⟨a, rfl, h3⟩
theorem arg3 {q : PV} (h : OkV Try.prog 9 3 q) : ∃ a : Int, q = .int .i64 a ∧ -9223372036854775808 ≤ a ∧ a ≤ 9223372036854775807 := by
  obtain ⟨a, rfl, f⟩ := i64_dec (okv_one (s := (.int .i64)) (by kernel_rfl) (by kernel_rfl) h)
  exact ⟨a, rfl, f⟩
theorem arg9 {q : PV} (h : OkV Try.prog 9 9 q) : ∃ a : List UInt8, q = .str a ∧ a.length ≤ 9223372036854775807 := by
  obtain ⟨a, rfl, f⟩ := str_dec (okv_one (s := .str) (by kernel_rfl) (by kernel_rfl) h)
  exact ⟨a, rfl, f⟩
end Go.Proofs.Ytbpagmhhjbcceaa
