import Derived.Test.YtnakoioakhaekaaTab
import Derived.Test.YtnakoioakhaekaaX
/-! What the arguments of laws are read as. -/
set_option linter.unusedVariables false
namespace Go.Proofs.Ytnakoioakhaekaa
open Go.RowKit
/-- A value of type GLogin. -/
structure GLogin where
  phase : Int
  tenant : Int
  user : List UInt8
  deriving Inhabited, DecidableEq
def GLogin.cs (x : GLogin) : List PV := [.int .i64 x.phase, .int .i64 x.tenant, .str x.user]
def GLogin.ok (x : GLogin) : Prop := (-9223372036854775808 ≤ x.phase ∧ x.phase ≤ 9223372036854775807) ∧ (-9223372036854775808 ≤ x.tenant ∧ x.tenant ≤ 9223372036854775807) ∧ (x.user.length ≤ 9223372036854775807)
theorem decGLogin (x : List PV) (h : OkL [(.int .i64), (.int .i64), .str] x) : ∃ a : GLogin, x = a.cs ∧ a.ok := by
  obtain ⟨p0, x0, rfl, h0, h⟩ := okl_cons h
  obtain ⟨p1, x1, rfl, h1, h⟩ := okl_cons h
  obtain ⟨p2, x2, rfl, h2, h⟩ := okl_cons h
  obtain rfl := okl_nil h
  obtain ⟨a0, rfl, f0⟩ := i64_dec h0
  obtain ⟨a1, rfl, f1⟩ := i64_dec h1
  obtain ⟨a2, rfl, f2⟩ := str_dec h2
  exact ⟨⟨a0, a1, a2⟩, rfl, f0, f1, f2⟩
theorem arg23 {q : PV} (h : OkV Try.prog 9 23 q) : ∃ a : GLogin, q = .agg a.cs ∧ a.ok := by
  obtain ⟨x, rfl, h2⟩ := okv_agg (l := [(.int .i64), (.int .i64), .str]) (by kernel_rfl) (by kernel_rfl) h
  obtain ⟨a, rfl, h3⟩ := decGLogin x h2
  exact ⟨a, rfl, h3⟩
/-- A value of type GRule. -/
structure GRule where
  allow : Bool
  verb : List UInt8
  path : List UInt8
  deriving Inhabited, DecidableEq
def GRule.cs (x : GRule) : List PV := [.bool x.allow, .str x.verb, .str x.path]
def GRule.ok (x : GRule) : Prop := (x.verb.length ≤ 9223372036854775807) ∧ (x.path.length ≤ 9223372036854775807)
theorem decGRule (x : List PV) (h : OkL [.bool, .str, .str] x) : ∃ a : GRule, x = a.cs ∧ a.ok := by
  obtain ⟨p0, x0, rfl, h0, h⟩ := okl_cons h
  obtain ⟨p1, x1, rfl, h1, h⟩ := okl_cons h
  obtain ⟨p2, x2, rfl, h2, h⟩ := okl_cons h
  obtain rfl := okl_nil h
  obtain ⟨a0, rfl⟩ := bool_dec h0
  obtain ⟨a1, rfl, f1⟩ := str_dec h1
  obtain ⟨a2, rfl, f2⟩ := str_dec h2
  exact ⟨⟨a0, a1, a2⟩, rfl, f1, f2⟩
/-- A value of type GTenant. -/
structure GTenant where
  name : List UInt8
  host : List UInt8
  at_host0 : UInt8
  at_host1 : UInt8
  at_host2 : UInt8
  at_host3 : UInt8
  at_port : Int
  low : Int
  high : Int
  rules : List GRule
  sessions : Int
  holes : Int
  quota : Int
  each : Int
  deriving Inhabited, DecidableEq
def GTenant.cs (x : GTenant) : List PV := [.str x.name, .str x.host, .int .u8 x.at_host0.toNat, .int .u8 x.at_host1.toNat, .int .u8 x.at_host2.toNat, .int .u8 x.at_host3.toNat, .int .i64 x.at_port, .int .i64 x.low, .int .i64 x.high, .sl 1 (x.rules.map GRule.cs), .int .i64 x.sessions, .int .i64 x.holes, .int .i64 x.quota, .int .i64 x.each]
def GTenant.ok (x : GTenant) : Prop := (x.name.length ≤ 9223372036854775807) ∧ (x.host.length ≤ 9223372036854775807) ∧ (-9223372036854775808 ≤ x.at_port ∧ x.at_port ≤ 9223372036854775807) ∧ (-9223372036854775808 ≤ x.low ∧ x.low ≤ 9223372036854775807) ∧ (-9223372036854775808 ≤ x.high ∧ x.high ≤ 9223372036854775807) ∧ (x.rules.length ≤ 9223372036854775807 ∧ ∀ b ∈ x.rules, GRule.ok b) ∧ (-9223372036854775808 ≤ x.sessions ∧ x.sessions ≤ 9223372036854775807) ∧ (-9223372036854775808 ≤ x.holes ∧ x.holes ≤ 9223372036854775807) ∧ (-9223372036854775808 ≤ x.quota ∧ x.quota ≤ 9223372036854775807) ∧ (-9223372036854775808 ≤ x.each ∧ x.each ≤ 9223372036854775807)
theorem decGTenant (x : List PV) (h : OkL [.str, .str, (.int .u8), (.int .u8), (.int .u8), (.int .u8), (.int .i64), (.int .i64), (.int .i64), (.sl [.bool, .str, .str]), (.int .i64), (.int .i64), (.int .i64), (.int .i64)] x) : ∃ a : GTenant, x = a.cs ∧ a.ok := by
  obtain ⟨p0, x0, rfl, h0, h⟩ := okl_cons h
  obtain ⟨p1, x1, rfl, h1, h⟩ := okl_cons h
  obtain ⟨p2, x2, rfl, h2, h⟩ := okl_cons h
  obtain ⟨p3, x3, rfl, h3, h⟩ := okl_cons h
  obtain ⟨p4, x4, rfl, h4, h⟩ := okl_cons h
  obtain ⟨p5, x5, rfl, h5, h⟩ := okl_cons h
  obtain ⟨p6, x6, rfl, h6, h⟩ := okl_cons h
  obtain ⟨p7, x7, rfl, h7, h⟩ := okl_cons h
  obtain ⟨p8, x8, rfl, h8, h⟩ := okl_cons h
  obtain ⟨p9, x9, rfl, h9, h⟩ := okl_cons h
  obtain ⟨p10, x10, rfl, h10, h⟩ := okl_cons h
  obtain ⟨p11, x11, rfl, h11, h⟩ := okl_cons h
  obtain ⟨p12, x12, rfl, h12, h⟩ := okl_cons h
  obtain ⟨p13, x13, rfl, h13, h⟩ := okl_cons h
  obtain rfl := okl_nil h
  obtain ⟨a0, rfl, f0⟩ := str_dec h0
  obtain ⟨a1, rfl, f1⟩ := str_dec h1
  obtain ⟨a2, rfl⟩ := u8_dec h2
  obtain ⟨a3, rfl⟩ := u8_dec h3
  obtain ⟨a4, rfl⟩ := u8_dec h4
  obtain ⟨a5, rfl⟩ := u8_dec h5
  obtain ⟨a6, rfl, f6⟩ := i64_dec h6
  obtain ⟨a7, rfl, f7⟩ := i64_dec h7
  obtain ⟨a8, rfl, f8⟩ := i64_dec h8
  obtain ⟨a9, rfl, f9⟩ := sl_dec GRule.cs GRule.ok decGRule h9
  obtain ⟨a10, rfl, f10⟩ := i64_dec h10
  obtain ⟨a11, rfl, f11⟩ := i64_dec h11
  obtain ⟨a12, rfl, f12⟩ := i64_dec h12
  obtain ⟨a13, rfl, f13⟩ := i64_dec h13
  exact ⟨⟨a0, a1, a2, a3, a4, a5, a6, a7, a8, a9, a10, a11, a12, a13⟩, rfl, f0, f1, f6, f7, f8, f9, f10, f11, f12, f13⟩
theorem arg24 {q : PV} (h : OkV Try.prog 9 24 q) : ∃ a : List GTenant, q = .sl 1 (a.map GTenant.cs) ∧ a.length ≤ 9223372036854775807 ∧ ∀ b ∈ a, GTenant.ok b := by
  obtain ⟨a, rfl, f⟩ := sl_dec GTenant.cs GTenant.ok decGTenant (okv_one (s := (.sl [.str, .str, (.int .u8), (.int .u8), (.int .u8), (.int .u8), (.int .i64), (.int .i64), (.int .i64), (.sl [.bool, .str, .str]), (.int .i64), (.int .i64), (.int .i64), (.int .i64)])) (by kernel_rfl) (by kernel_rfl) h)
  exact ⟨a, rfl, f⟩
theorem arg9 {q : PV} (h : OkV Try.prog 9 9 q) : ∃ a : List UInt8, q = .str a ∧ a.length ≤ 9223372036854775807 := by
  obtain ⟨a, rfl, f⟩ := str_dec (okv_one (s := .str) (by kernel_rfl) (by kernel_rfl) h)
  exact ⟨a, rfl, f⟩
theorem arg3 {q : PV} (h : OkV Try.prog 9 3 q) : ∃ a : Int, q = .int .i64 a ∧ -9223372036854775808 ≤ a ∧ a ≤ 9223372036854775807 := by
  obtain ⟨a, rfl, f⟩ := i64_dec (okv_one (s := (.int .i64)) (by kernel_rfl) (by kernel_rfl) h)
  exact ⟨a, rfl, f⟩
theorem arg4 {q : PV} (h : OkV Try.prog 9 4 q) : ∃ a : Bool, q = .bool a ∧ True := by
  obtain ⟨a, rfl⟩ := bool_dec (okv_one (s := .bool) (by kernel_rfl) (by kernel_rfl) h)
  exact ⟨a, rfl, trivial⟩
end Go.Proofs.Ytnakoioakhaekaa
