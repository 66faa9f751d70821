import Derived.Test.YtmdijfchljgdaaaTab
import Derived.Test.YtmdijfchljgdaaaX
/-! What the arguments of laws are read as. -/
set_option linter.unusedVariables false
namespace Go.Proofs.Ytmdijfchljgdaaa
open Go.RowKit
/-- A value of type GHole. -/
structure GHole where
  port : Int
  sess : Int
  tenant : Int
  peer0 : UInt8
  peer1 : UInt8
  peer2 : UInt8
  peer3 : UInt8
  to_host0 : UInt8
  to_host1 : UInt8
  to_host2 : UInt8
  to_host3 : UInt8
  to_port : Int
  dead : Int
  deriving Inhabited, DecidableEq
def GHole.cs (x : GHole) : List PV := [.int .i64 x.port, .int .i64 x.sess, .int .i64 x.tenant, .int .u8 x.peer0.toNat, .int .u8 x.peer1.toNat, .int .u8 x.peer2.toNat, .int .u8 x.peer3.toNat, .int .u8 x.to_host0.toNat, .int .u8 x.to_host1.toNat, .int .u8 x.to_host2.toNat, .int .u8 x.to_host3.toNat, .int .i64 x.to_port, .int .i64 x.dead]
def GHole.ok (x : GHole) : Prop := (-9223372036854775808 ≤ x.port ∧ x.port ≤ 9223372036854775807) ∧ (-9223372036854775808 ≤ x.sess ∧ x.sess ≤ 9223372036854775807) ∧ (-9223372036854775808 ≤ x.tenant ∧ x.tenant ≤ 9223372036854775807) ∧ (-9223372036854775808 ≤ x.to_port ∧ x.to_port ≤ 9223372036854775807) ∧ (-9223372036854775808 ≤ x.dead ∧ x.dead ≤ 9223372036854775807)
theorem decGHole (x : List PV) (h : OkL [(.int .i64), (.int .i64), (.int .i64), (.int .u8), (.int .u8), (.int .u8), (.int .u8), (.int .u8), (.int .u8), (.int .u8), (.int .u8), (.int .i64), (.int .i64)] x) : ∃ a : GHole, x = a.cs ∧ a.ok := by
  obtain ⟨p0, x0, rfl, h0, h⟩ := okl_cons h
  obtain ⟨p1, x1, rfl, h1, h⟩ := okl_cons h
  obtain ⟨p2, x2, rfl, h2, h⟩ := okl_cons h
  obtain ⟨p3, x3, rfl, h3, h⟩ := okl_cons h
  obtain ⟨p4, x4, rfl, h4, h⟩ := okl_cons h
  obtain ⟨p5, x5, rfl, h5, h⟩ := okl_cons h
  obtain ⟨p6, x6, rfl, h6, h⟩ := okl_cons h
  obtain ⟨p7, x7, rfl, h7, h⟩ := okl_cons h
  obtain ⟨p8, x8, rfl, h8, h⟩ := okl_cons h
  obtain ⟨p9, x9, rfl, h9, h⟩ := okl_cons h
  obtain ⟨p10, x10, rfl, h10, h⟩ := okl_cons h
  obtain ⟨p11, x11, rfl, h11, h⟩ := okl_cons h
  obtain ⟨p12, x12, rfl, h12, h⟩ := okl_cons h
  obtain rfl := okl_nil h
  obtain ⟨a0, rfl, f0⟩ := i64_dec h0
  obtain ⟨a1, rfl, f1⟩ := i64_dec h1
  obtain ⟨a2, rfl, f2⟩ := i64_dec h2
  obtain ⟨a3, rfl⟩ := u8_dec h3
  obtain ⟨a4, rfl⟩ := u8_dec h4
  obtain ⟨a5, rfl⟩ := u8_dec h5
  obtain ⟨a6, rfl⟩ := u8_dec h6
  obtain ⟨a7, rfl⟩ := u8_dec h7
  obtain ⟨a8, rfl⟩ := u8_dec h8
  obtain ⟨a9, rfl⟩ := u8_dec h9
  obtain ⟨a10, rfl⟩ := u8_dec h10
  obtain ⟨a11, rfl, f11⟩ := i64_dec h11
  obtain ⟨a12, rfl, f12⟩ := i64_dec h12
  exact ⟨⟨a0, a1, a2, a3, a4, a5, a6, a7, a8, a9, a10, a11, a12⟩, rfl, f0, f1, f2, f11, f12⟩
theorem arg22 {q : PV} (h : OkV Try.prog 9 22 q) : ∃ a : List GHole, q = .sl 1 (a.map GHole.cs) ∧ a.length ≤ 9223372036854775807 ∧ ∀ b ∈ a, GHole.ok b := by
  obtain ⟨a, rfl, f⟩ := sl_dec GHole.cs GHole.ok decGHole (okv_one (s := (.sl [(.int .i64), (.int .i64), (.int .i64), (.int .u8), (.int .u8), (.int .u8), (.int .u8), (.int .u8), (.int .u8), (.int .u8), (.int .u8), (.int .i64), (.int .i64)])) (by kernel_rfl) (by kernel_rfl) h)
  exact ⟨a, rfl, f⟩
theorem arg28 {q : PV} (h : OkV Try.prog 9 28 q) : ∃ a : GHole, q = .agg a.cs ∧ a.ok := by
  obtain ⟨x, rfl, h2⟩ := okv_agg (l := [(.int .i64), (.int .i64), (.int .i64), (.int .u8), (.int .u8), (.int .u8), (.int .u8), (.int .u8), (.int .u8), (.int .u8), (.int .u8), (.int .i64), (.int .i64)]) (by kernel_rfl) (by kernel_rfl) h
  obtain ⟨a, rfl, h3⟩ := decGHole x h2
  exact ⟨a, rfl, h3⟩
theorem arg3 {q : PV} (h : OkV Try.prog 9 3 q) : ∃ a : Int, q = .int .i64 a ∧ -9223372036854775808 ≤ a ∧ a ≤ 9223372036854775807 := by
  obtain ⟨a, rfl, f⟩ := i64_dec (okv_one (s := (.int .i64)) (by kernel_rfl) (by kernel_rfl) h)
  exact ⟨a, rfl, f⟩
/-- A value of type GHost. -/
structure GHost where
  a0 : UInt8
  a1 : UInt8
  a2 : UInt8
  a3 : UInt8
  deriving Inhabited, DecidableEq
def GHost.cs (x : GHost) : List PV := [.int .u8 x.a0.toNat, .int .u8 x.a1.toNat, .int .u8 x.a2.toNat, .int .u8 x.a3.toNat]
def GHost.ok (x : GHost) : Prop := True
theorem decGHost (x : List PV) (h : OkL [(.int .u8), (.int .u8), (.int .u8), (.int .u8)] x) : ∃ a : GHost, x = a.cs ∧ a.ok := by
  obtain ⟨p0, x0, rfl, h0, h⟩ := okl_cons h
  obtain ⟨p1, x1, rfl, h1, h⟩ := okl_cons h
  obtain ⟨p2, x2, rfl, h2, h⟩ := okl_cons h
  obtain ⟨p3, x3, rfl, h3, h⟩ := okl_cons h
  obtain rfl := okl_nil h
  obtain ⟨a0, rfl⟩ := u8_dec h0
  obtain ⟨a1, rfl⟩ := u8_dec h1
  obtain ⟨a2, rfl⟩ := u8_dec h2
  obtain ⟨a3, rfl⟩ := u8_dec h3
  exact ⟨⟨a0, a1, a2, a3⟩, rfl, trivial⟩
theorem arg24 {q : PV} (h : OkV Try.prog 9 24 q) : ∃ a : GHost, q = .agg a.cs ∧ a.ok := by
  obtain ⟨x, rfl, h2⟩ := okv_agg (l := [(.int .u8), (.int .u8), (.int .u8), (.int .u8)]) (by kernel_rfl) (by kernel_rfl) h
  obtain ⟨a, rfl, h3⟩ := decGHost x h2
  exact ⟨a, rfl, h3⟩
end Go.Proofs.Ytmdijfchljgdaaa
