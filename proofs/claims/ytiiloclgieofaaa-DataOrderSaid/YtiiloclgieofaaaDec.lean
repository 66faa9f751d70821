import Derived.Test.YtiiloclgieofaaaTab
import Derived.Test.YtiiloclgieofaaaX
/-! What the arguments of laws are read as. -/
set_option linter.unusedVariables false
namespace Go.Proofs.Ytiiloclgieofaaa
open Go.RowKit
/-- A value of type GOut. -/
structure GOut where
  kind : Int
  conn : Int
  to_host0 : UInt8
  to_host1 : UInt8
  to_host2 : UInt8
  to_host3 : UInt8
  to_port : Int
  b : List UInt8
  deriving Inhabited, DecidableEq
def GOut.cs (x : GOut) : List PV := [.int .i64 x.kind, .int .i64 x.conn, .int .u8 x.to_host0.toNat, .int .u8 x.to_host1.toNat, .int .u8 x.to_host2.toNat, .int .u8 x.to_host3.toNat, .int .i64 x.to_port, .sl 1 (x.b.map byteE)]
def GOut.ok (x : GOut) : Prop := (-9223372036854775808 ≤ x.kind ∧ x.kind ≤ 9223372036854775807) ∧ (-9223372036854775808 ≤ x.conn ∧ x.conn ≤ 9223372036854775807) ∧ (-9223372036854775808 ≤ x.to_port ∧ x.to_port ≤ 9223372036854775807) ∧ (x.b.length ≤ 9223372036854775807)
theorem decGOut (x : List PV) (h : OkL [(.int .i64), (.int .i64), (.int .u8), (.int .u8), (.int .u8), (.int .u8), (.int .i64), (.sl [(.int .u8)])] x) : ∃ a : GOut, x = a.cs ∧ a.ok := by
  obtain ⟨p0, x0, rfl, h0, h⟩ := okl_cons h
  obtain ⟨p1, x1, rfl, h1, h⟩ := okl_cons h
  obtain ⟨p2, x2, rfl, h2, h⟩ := okl_cons h
  obtain ⟨p3, x3, rfl, h3, h⟩ := okl_cons h
  obtain ⟨p4, x4, rfl, h4, h⟩ := okl_cons h
  obtain ⟨p5, x5, rfl, h5, h⟩ := okl_cons h
  obtain ⟨p6, x6, rfl, h6, h⟩ := okl_cons h
  obtain ⟨p7, x7, rfl, h7, h⟩ := okl_cons h
  obtain rfl := okl_nil h
  obtain ⟨a0, rfl, f0⟩ := i64_dec h0
  obtain ⟨a1, rfl, f1⟩ := i64_dec h1
  obtain ⟨a2, rfl⟩ := u8_dec h2
  obtain ⟨a3, rfl⟩ := u8_dec h3
  obtain ⟨a4, rfl⟩ := u8_dec h4
  obtain ⟨a5, rfl⟩ := u8_dec h5
  obtain ⟨a6, rfl, f6⟩ := i64_dec h6
  obtain ⟨a7, rfl, f7⟩ := bytes_dec h7
  exact ⟨⟨a0, a1, a2, a3, a4, a5, a6, a7⟩, rfl, f0, f1, f6, f7⟩
theorem arg22 {q : PV} (h : OkV Try.prog 9 22 q) : ∃ a : List (List UInt8), q = .sl 1 (a.map chunkE) ∧ a.length ≤ 9223372036854775807 ∧ ∀ y ∈ a, y.length ≤ 9223372036854775807 := by
  obtain ⟨a, rfl, f⟩ := chunks_dec (okv_one (s := (.sl [(.sl [(.int .u8)])])) (by kernel_rfl) (by kernel_rfl) h)
  exact ⟨a, rfl, f⟩
theorem arg3 {q : PV} (h : OkV Try.prog 9 3 q) : ∃ a : Int, q = .int .i64 a ∧ -9223372036854775808 ≤ a ∧ a ≤ 9223372036854775807 := by
  obtain ⟨a, rfl, f⟩ := i64_dec (okv_one (s := (.int .i64)) (by kernel_rfl) (by kernel_rfl) h)
  exact ⟨a, rfl, f⟩
/-- A value of type GLink. -/
structure GLink where
  sess : Int
  a : Int
  b : Int
  wait : List (List UInt8)
  deriving Inhabited, DecidableEq
def GLink.cs (x : GLink) : List PV := [.int .i64 x.sess, .int .i64 x.a, .int .i64 x.b, .sl 1 (x.wait.map chunkE)]
def GLink.ok (x : GLink) : Prop := (-9223372036854775808 ≤ x.sess ∧ x.sess ≤ 9223372036854775807) ∧ (-9223372036854775808 ≤ x.a ∧ x.a ≤ 9223372036854775807) ∧ (-9223372036854775808 ≤ x.b ∧ x.b ≤ 9223372036854775807) ∧ (x.wait.length ≤ 9223372036854775807 ∧ ∀ y ∈ x.wait, y.length ≤ 9223372036854775807)
theorem decGLink (x : List PV) (h : OkL [(.int .i64), (.int .i64), (.int .i64), (.sl [(.sl [(.int .u8)])])] x) : ∃ a : GLink, x = a.cs ∧ a.ok := by
  obtain ⟨p0, x0, rfl, h0, h⟩ := okl_cons h
  obtain ⟨p1, x1, rfl, h1, h⟩ := okl_cons h
  obtain ⟨p2, x2, rfl, h2, h⟩ := okl_cons h
  obtain ⟨p3, x3, rfl, h3, h⟩ := okl_cons h
  obtain rfl := okl_nil h
  obtain ⟨a0, rfl, f0⟩ := i64_dec h0
  obtain ⟨a1, rfl, f1⟩ := i64_dec h1
  obtain ⟨a2, rfl, f2⟩ := i64_dec h2
  obtain ⟨a3, rfl, f3⟩ := chunks_dec h3
  exact ⟨⟨a0, a1, a2, a3⟩, rfl, f0, f1, f2, f3⟩
theorem arg25 {q : PV} (h : OkV Try.prog 9 25 q) : ∃ a : GLink, q = .agg a.cs ∧ a.ok := by
  obtain ⟨x, rfl, h2⟩ := okv_agg (l := [(.int .i64), (.int .i64), (.int .i64), (.sl [(.sl [(.int .u8)])])]) (by kernel_rfl) (by kernel_rfl) h
  obtain ⟨a, rfl, h3⟩ := decGLink x h2
  exact ⟨a, rfl, h3⟩
theorem arg33 {q : PV} (h : OkV Try.prog 9 33 q) : ∃ a : List UInt8, q = .sl 1 (a.map byteE) ∧ a.length ≤ 9223372036854775807 := by
  obtain ⟨a, rfl, f⟩ := bytes_dec (okv_one (s := (.sl [(.int .u8)])) (by kernel_rfl) (by kernel_rfl) h)
  exact ⟨a, rfl, f⟩
end Go.Proofs.Ytiiloclgieofaaa
