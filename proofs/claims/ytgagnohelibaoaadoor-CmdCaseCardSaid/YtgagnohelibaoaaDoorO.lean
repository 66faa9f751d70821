import Derived.Test.YtgagnohelibaoaaDoorS
/-! What one operation comes to, without memory. -/
set_option linter.unusedSimpArgs false
set_option linter.unusedVariables false
namespace Go.Proofs.YtgagnohelibaoaaDoor
open Go.RowKit

/-- The cells of a value. -/
def PV.cells : PV → List PV
  | .agg cs => cs
  | p => [p]
/-- It is one cell's. -/
def PV.one : PV → Bool
  | .undef => false
  | .agg _ => false
  | .tup _ => false
  | .lit x => x.oneCell'
  | _ => true
/-- It is one cell's, or a struct. -/
def PV.fit : PV → Bool
  | .agg _ => true
  | p => p.one
/-- A value of the program's text, or of a table. -/
def ofValC : Value → PV
  | .bool b => .bool b
  | .int k n => .int k n
  | .string s => .str s.data.toList
  | .slice none 0 0 => .sl 0 []
  | .func f ⟨[]⟩ ⟨[]⟩ => .clo f [] []
  | .nilFunc => .lit .nilFunc
  | .nilIface => .lit .nilIface
  | .pointer none => .lit (.pointer none)
  | .map none => .lit (.map none)
  | _ => .undef
def ofVal : Value → PV
  | .agg cs => .agg (cs.toList.map ofValC)
  | v => ofValC v

/-- What a type is. -/
inductive Shp where
  | int (k : IntKind)
  | bool
  | str
  | slice (e : TypeId)
  | strct (fs : List (Nat × TypeId × Nat))
  | array (n : Nat) (e : TypeId)
  | ptr (e : TypeId)
  | map (k e : TypeId)
  | iface
  | other
structure Ty where
  agg : Bool
  size : Nat
  bytes : Nat
  zero : PV
  shp : Shp
def shpOf (P : Program) : TypeDesc → Shp
  | .int k => .int k
  | .bool => .bool
  | .string => .str
  | .slice e => .slice e
  | .struct fs => if fs.toList.all (fun f => (P.info? f.type).isSome) = true then .strct (fs.toList.map fun f => (f.offset, f.type, P.cellsOf f.type)) else .other
  | .array n e => .array n e
  | .pointer e => .ptr e
  | .map k e => .map k e
  | .interface _ => .iface
  | _ => .other
def isAggD : TypeDesc → Bool
  | .struct _ => true
  | .array _ _ => true
  | _ => false
def tyOf (P : Program) (t : TypeId) : Option Ty :=
  match P.info? t with
  | none => none
  | some i => match P.underlying t with
    | none => none
    | some d => match i.zero with
      | none => none
      | some z => some ⟨isAggD d, i.size, i.bytes, ofVal z, shpOf P d⟩
theorem tyOf_inv {P : Program} {t : TypeId} {ty : Ty} (h : tyOf P t = some ty) : ∃ i d z, P.info? t = some i ∧ P.underlying t = some d ∧ i.zero = some z ∧ ty = ⟨isAggD d, i.size, i.bytes, ofVal z, shpOf P d⟩ := by
  unfold tyOf at h
  cases hi : P.info? t with
  | none => rw [hi] at h; cases h
  | some i =>
    cases hd : P.underlying t with
    | none => rw [hi, hd] at h; cases h
    | some d =>
      cases hz : i.zero with
      | none => simp only [hi, hd, hz] at h; cases h
      | some z => simp only [hi, hd, hz] at h; cases h; exact ⟨i, d, z, rfl, rfl, hz, rfl⟩

/-- What an operation comes to: what has to hold, the value, which boxes and tokens it asks, which it writes. -/
structure Res where
  ok : Prop
  val : PV
  rd : List Nat
  wr : List (Nat × Option HObj)
def qv (p : PV) : Option Res := some ⟨True, p, [], []⟩
def qc (c : Prop) (p : PV) : Option Res := some ⟨c, p, [], []⟩

/-- A byte's cell. -/
def byteE (c : UInt8) : List PV := [.int .u8 (c.toNat : Int)]
def unE : List PV → UInt8
  | [.int .u8 n] => UInt8.ofNat n.toNat
  | _ => 0
theorem unE_byteE (c : UInt8) : unE (byteE c) = c := by simp [unE, byteE]
theorem unE_bytes (l : List UInt8) : (l.map byteE).map unE = l := by
  rw [List.map_map]
  have : unE ∘ byteE = id := funext unE_byteE
  rw [this, List.map_id]

def partE (P : Program) (u : TypeId) (cs : List PV) (off : Nat) : Option PV :=
  match tyOf P u with
  | none => none
  | some ty => if ty.agg then (if off + ty.size ≤ cs.length then some (.agg ((cs.drop off).take ty.size)) else none) else cs[off]?
def loadE (P : Program) (t : TypeId) (H : Nat → Option HObj) : PV → Option Res
  | .ptr nm off => match H nm with
    | some (.box cs) => match partE P t cs off with
      | some p => some ⟨True, p, [nm], []⟩
      | none => none
    | _ => none
  | .iptr cs => match partE P t cs 0 with
    | some p => qv p
    | none => none
  | _ => none
def setL : List PV → Nat → List PV → List PV
  | cs, _, [] => cs
  | cs, off, x :: xs => setL (cs.set off x) (off + 1) xs
def storeE (P : Program) (t : TypeId) (H : Nat → Option HObj) (p v : PV) : Option Res :=
  match p with
  | .ptr nm off => match H nm with
    | some (.box cs) => match tyOf P t with
      | some ty => if v.fit = true ∧ v.cells.length = ty.size ∧ off + ty.size ≤ cs.length ∧ v.cells.all PV.one = true then some ⟨True, .undef, [nm], [(nm, some (.box (setL cs off v.cells)))]⟩ else none
      | none => none
    | _ => none
  | _ => none
def pickE (c a b : PV) : Option Res :=
  match c with
  | .bool c => match a, b with
    | .bool x, .bool y => qv (.bool (bif c then x else y))
    | a, b => bif c then qv a else qv b
  | _ => none
def intE (op : BinOp) (k : IntKind) (a b : Int) : Option Res :=
  match op with
  | .add => qv (.int k (k.wrap (a + b)))
  | .sub => qv (.int k (k.wrap (a - b)))
  | .mul => qv (.int k (k.wrap (a * b)))
  | .quo => qc (b ≠ 0) (.int k (k.wrap (a.tdiv b)))
  | .rem => qc (b ≠ 0) (.int k (a.tmod b))
  | .and => qv (.int k (k.wrap (BitVec.ofInt k.bits a &&& BitVec.ofInt k.bits b).toNat))
  | .or => qv (.int k (k.wrap (BitVec.ofInt k.bits a ||| BitVec.ofInt k.bits b).toNat))
  | .xor => qv (.int k (k.wrap (BitVec.ofInt k.bits a ^^^ BitVec.ofInt k.bits b).toNat))
  | .andNot => qv (.int k (k.wrap (BitVec.ofInt k.bits a &&& ~~~ BitVec.ofInt k.bits b).toNat))
  | .eql => qv (.bool (a == b))
  | .neq => qv (.bool (a != b))
  | .lss => qv (.bool (decide (a < b)))
  | .leq => qv (.bool (decide (a ≤ b)))
  | .gtr => qv (.bool (decide (a > b)))
  | .geq => qv (.bool (decide (a ≥ b)))
  | _ => none
def strE (op : BinOp) (a b : List UInt8) : Option Res :=
  match op with
  | .add => qc (a.length + b.length ≤ 9223372036854775807) (.str (a ++ b))
  | .eql => qv (.bool (a == b))
  | .neq => qv (.bool (!(a == b)))
  | .lss => qv (.bool (Op.bytesLess a b))
  | .leq => qv (.bool (Op.bytesLess a b || a == b))
  | .gtr => qv (.bool (!(Op.bytesLess a b || a == b)))
  | .geq => qv (.bool (!(Op.bytesLess a b)))
  | _ => none
/-- Cells that are held against each other. -/
def eqC : PV → PV → Option Bool
  | .int _ a, .int _ b => some (a == b)
  | .bool a, .bool b => some (a == b)
  | .str a, .str b => some (a == b)
  | _, _ => none
def eqCs : List PV → List PV → Option Bool
  | [], [] => some true
  | x :: xs, y :: ys => match eqC x y with
    | some b => match eqCs xs ys with
      | some c => some (b && c)
      | none => none
    | none => none
  | _, _ => none
/-- The kinds of the cells of fields, one behind the other. -/
def cellKs (P : Program) (rec : TypeId → Option (List Shp)) : List Field → Nat → Option (List Shp)
  | [], _ => some []
  | f :: fs, off => if f.name ≠ "_" ∧ f.offset = off then match rec f.type with
      | some m => if P.cellsOf f.type = m.length ∧ m.length ≠ 0 then match cellKs P rec fs (off + m.length) with
          | some r => some (m ++ r)
          | none => none
        else none
      | none => none
    else none
/-- Of a type whose cells are held against each other one by one: of which kinds they are. -/
def cellK (P : Program) : Nat → TypeId → Option (List Shp)
  | 0, _ => none
  | d + 1, t => match P.underlying t with
    | some (.int k) => some [.int k]
    | some .bool => some [.bool]
    | some .string => some [.str]
    | some (.struct fs) => if P.stoodInHeld t then none else cellKs P (cellK P d) fs.toList 0
    | some (.array n e) => match cellK P d e with
      | some m => if P.cellsOf e = m.length ∧ m.length ≠ 0 then some ((List.replicate n m).flatten) else none
      | none => none
    | _ => none
/-- Of a struct or an array that is held against another one: of which kinds its cells are. -/
def eqKinds (P : Program) (t : TypeId) : Option (List Shp) :=
  match P.underlying t with
  | none => none
  | some d => if isAggD d = true ∧ P.eqGuardType P.depth t = false then cellK P 8 t else none
def kindOK : List Shp → List PV → Bool
  | [], [] => true
  | .int k :: ks, .int j _ :: ps => j == k && kindOK ks ps
  | .bool :: ks, .bool _ :: ps => kindOK ks ps
  | .str :: ks, .str _ :: ps => kindOK ks ps
  | _, _ => false
def aggEqE (P : Program) (op : BinOp) (t : TypeId) (xs ys : List PV) : Option Res :=
  match eqKinds P t with
  | some ks => if kindOK ks xs = true ∧ kindOK ks ys = true then match eqCs xs ys with
      | some b => match op with
        | .eql => qv (.bool b)
        | .neq => qv (.bool (!b))
        | _ => none
      | none => none
    else none
  | none => none
def binE (P : Program) (op : BinOp) (t : TypeId) (x y : PV) : Option Res :=
  match x, y with
  | .int k a, .int k' b => if k = k' then intE op k a b else none
  | .str a, .str b => strE op a b
  | .bool a, .bool b => match tyOf P t with
    | some ⟨_, _, _, _, .bool⟩ => match op with
      | .eql => qv (.bool (a == b))
      | .neq => qv (.bool (!(a == b)))
      | _ => none
    | _ => none
  | .agg xs, .agg ys => aggEqE P op t xs ys
  | .sl _ xs, .sl 0 [] => match tyOf P t with
    | some ⟨_, _, _, _, .slice _⟩ => match op with
      | .eql => qc (xs ≠ []) (.bool false)
      | .neq => qc (xs ≠ []) (.bool true)
      | _ => none
    | _ => none
  | _, _ => none
/-- A number as an interface's value. -/
def mkiE (P : Program) (t : TypeId) (x : PV) : Option Res :=
  match tyOf P t, x with
  | some ⟨_, _, _, _, .int _⟩, .int k n => qv (.lit (.iface t (.int k n)))
  | _, _ => none
def unaE (op : UnOp) (x : PV) : Option Res :=
  match op, x with
  | .not, .bool b => qv (.bool (!b))
  | .neg, .int k n => qv (.int k (k.wrap (0 - n)))
  | _, _ => none
def convE (P : Program) (s d : TypeId) (x : PV) : Option Res :=
  match tyOf P s, tyOf P d with
  | some ts, some td => match td.shp, x with
    | .int k, .int _ n => qv (.int k (k.wrap n))
    | .str, .str l => qv (.str l)
    | .str, .int _ n => qv (.str (Utf8.encode n).data.toList)
    | .str, .sl _ xs => match ts.shp with
      | .slice e => match tyOf P e with
        | some ⟨_, _, _, _, .int .u8⟩ => qc (∀ x ∈ xs, ∃ c, x = byteE c) (.str (xs.map unE))
        | _ => none
      | _ => none
    | .slice e, .str l => match ts.shp with
      | .str => match tyOf P e with
        | some ⟨_, _, _, _, .int .u8⟩ => qc (l.length ≤ 9223372036854775807) (.sl 1 (l.map byteE))
        | _ => none
      | _ => none
    | _, _ => none
  | _, _ => none
def addRd (nm : Nat) : Option Res → Option Res
  | some ⟨c, p, rd, wr⟩ => some ⟨c, p, nm :: rd, wr⟩
  | none => none
/-- A row of bytes turned to its own type: it is marked, and the right to append goes. -/
def convT (P : Program) (s d : TypeId) (nm : Nat) (xs : List (List PV)) (n : Nat) : Option Ty → Option Res
  | some ⟨_, _, _, _, .slice e'⟩ => match tyOf P e' with
    | some ⟨_, _, _, _, .int .u8⟩ => if s = d then some ⟨n = xs.length ∧ 0 < n, .sl 1 xs, [nm], [(nm, none)]⟩ else none
    | _ => none
  | _ => addRd nm (convE P s d (.sl nm xs))
def convS (P : Program) (s d : TypeId) (nm : Nat) (xs : List (List PV)) : Option HObj → Option Res
  | some (.tok _ _ n) => convT P s d nm xs n (tyOf P d)
  | _ => addRd nm (convE P s d (.sl nm xs))
def unP : PV → UInt8
  | .int .u8 n => UInt8.ofNat n.toNat
  | _ => 0
/-- The text of bytes that lie in a box. -/
def convB (P : Program) (s d : TypeId) (nm off n : Nat) : Option HObj → Option Res
  | some (.box cs) => match tyOf P d with
    | some ⟨_, _, _, _, .str⟩ => match tyOf P s with
      | some ⟨_, _, _, _, .slice e⟩ => match tyOf P e with
        | some ⟨_, _, _, _, .int .u8⟩ => some ⟨off + n ≤ cs.length ∧ ∀ p ∈ (cs.drop off).take n, ∃ c : UInt8, p = .int .u8 (c.toNat : Int), .str (((cs.drop off).take n).map unP), [nm], []⟩
        | _ => none
      | _ => none
    | _ => none
  | _ => none
def convO (P : Program) (s d : TypeId) (H : Nat → Option HObj) : PV → Option Res
  | .bs nm off _ n _ => convB P s d nm off n (H nm)
  | .sl nm xs => if nm < 2 then convE P s d (.sl nm xs) else convS P s d nm xs (H nm)
  | x => convE P s d x
/-- Bytes of a text that are written in place: a box of its own. -/
def convN (P : Program) (s d : TypeId) (nb : Nat) (l : List UInt8) : Option Res :=
  match tyOf P s, tyOf P d with
  | some ⟨_, _, _, _, .str⟩, some ⟨_, _, _, _, .slice e⟩ => match tyOf P e with
    | some ⟨_, _, _, _, .int .u8⟩ => some ⟨l.length ≤ 9223372036854775807, .bs nb 0 1 l.length l.length, [], [(nb, some (.box (l.map fun c => .int .u8 (c.toNat : Int))))]⟩
    | _ => none
  | _, _ => none
def convX (P : Program) (s d : TypeId) (own : Bool) (nb : Nat) (H : Nat → Option HObj) (x : PV) : Option Res :=
  match own, x with
  | true, .str l => convN P s d nb l
  | _, x => convO P s d H x
def fieldE (P : Program) (t : TypeId) (f : Nat) (x : PV) : Option Res :=
  match x, tyOf P t with
  | .agg cs, some ⟨_, _, _, _, .strct fs⟩ => match fs[f]? with
    | some (off, u, _) => match partE P u cs off with
      | some p => qv p
      | none => none
    | none => none
  | _, _ => none
def faddrE (P : Program) (t : TypeId) (f : Nat) (x : PV) : Option Res :=
  match tyOf P t with
  | some ⟨_, _, _, _, .strct fs⟩ => match fs[f]? with
    | some (o, u, sz) => if sz = 0 then none else match x with
      | .ptr nm off => qv (.ptr nm (off + o))
      | .iptr cs => qv (.iptr (cs.drop o))
      | _ => none
    | none => none
  | _ => none
def iaddrE (P : Program) (t : TypeId) (x i : PV) : Option Res :=
  match i with
  | .int _ i => match x, tyOf P t with
    | .sl _ xs, some ⟨_, _, _, _, .slice e⟩ => match tyOf P e with
      | some te => qc ((0 ≤ i ∧ i < xs.length) ∧ (xs.getD i.toNat []).length = te.size) (.iptr (xs.getD i.toNat []))
      | none => none
    | .bs nm off k n _, some ⟨_, _, _, _, .slice e⟩ => match tyOf P e with
      | some te => qc ((0 ≤ i ∧ i < n) ∧ k = te.size) (.ptr nm (off + i.toNat * te.size))
      | none => none
    | .ptr nm off, some ⟨_, _, _, _, .array n e⟩ => match tyOf P e with
      | some te => qc (0 ≤ i ∧ i < n) (.ptr nm (off + i.toNat * te.size))
      | none => none
    | .iptr cs, some ⟨_, _, _, _, .array n e⟩ => match tyOf P e with
      | some te => qc (0 ≤ i ∧ i < n) (.iptr (cs.drop (i.toNat * te.size)))
      | none => none
    | _, _ => none
  | _ => none
def indexE (P : Program) (t : TypeId) (x i : PV) : Option Res :=
  match i with
  | .int _ i => match x, tyOf P t with
    | .str l, some ⟨_, _, _, _, .str⟩ => qc (0 ≤ i ∧ i < l.length) (.int .u8 ((l.getD i.toNat 0).toNat : Int))
    | _, _ => none
  | _ => none
/-- The bounds of a slice expression. -/
def loE (b : Bool) (ps : List PV) : Option (Option Int × List PV) :=
  if b then match ps with
    | .int _ i :: ps => some (some i, ps)
    | _ => none
  else some (none, ps)
/-- A part of a slice that lies in a box. -/
def sliceB (P : Program) (t : TypeId) (lo hi mx : Bool) (nm off k n m : Nat) (ps : List PV) : Option Res :=
  match loE lo ps with
  | none => none
  | some (l, ps) => match loE hi ps with
    | none => none
    | some (h, ps) => match loE mx ps with
      | none => none
      | some (x, _) => match tyOf P t with
        | some ⟨_, _, _, _, .slice e⟩ => match tyOf P e with
          | some te => if mx = true ∧ hi = false then none else
            qc (((0 ≤ l.getD 0 ∧ l.getD 0 ≤ h.getD n) ∧ h.getD n ≤ x.getD m) ∧ x.getD m ≤ m ∧ k = te.size) (.bs nm (off + (l.getD 0).toNat * k) k ((h.getD n).toNat - (l.getD 0).toNat) ((x.getD m).toNat - (l.getD 0).toNat))
          | none => none
        | _ => none
/-- A slice of an array that lies in a box. -/
def sliceA (P : Program) (t : TypeId) (lo hi mx : Bool) (nm off : Nat) (ps : List PV) : Option Res :=
  if mx then none else match loE lo ps with
  | none => none
  | some (l, ps) => match loE hi ps with
    | none => none
    | some (h, _) => match tyOf P t with
      | some ⟨_, _, _, _, .ptr a⟩ => match tyOf P a with
        | some ⟨_, _, _, _, .array n e⟩ => match tyOf P e with
          | some te => qc (((0 ≤ l.getD 0 ∧ l.getD 0 ≤ h.getD n) ∧ h.getD n ≤ n) ∧ (n : Int) ≤ 9223372036854775807) (.bs nm (off + (l.getD 0).toNat * te.size) te.size ((h.getD n).toNat - (l.getD 0).toNat) (n - (l.getD 0).toNat))
          | none => none
        | _ => none
      | some ⟨_, _, _, _, .array n e⟩ => match tyOf P e with
        | some te => qc (((0 ≤ l.getD 0 ∧ l.getD 0 ≤ h.getD n) ∧ h.getD n ≤ n) ∧ (n : Int) ≤ 9223372036854775807) (.bs nm (off + (l.getD 0).toNat * te.size) te.size ((h.getD n).toNat - (l.getD 0).toNat) (n - (l.getD 0).toNat))
        | none => none
      | _ => none
def sliceO (P : Program) (t : TypeId) (lo hi mx : Bool) (x : PV) (ps : List PV) : Option Res :=
  if mx then none else match loE lo ps with
  | none => none
  | some (l, ps) => match loE hi ps with
    | none => none
    | some (h, ps) => match x, tyOf P t with
      | .str s, some ⟨_, _, _, _, .str⟩ =>
        qc ((0 ≤ l.getD 0 ∧ l.getD 0 ≤ h.getD s.length) ∧ h.getD s.length ≤ s.length) (.str ((s.take (h.getD s.length).toNat).drop (l.getD 0).toNat))
      | .sl _ xs, some ⟨_, _, _, _, .slice e⟩ => match tyOf P e with
        | some te => qc ((0 ≤ l.getD 0 ∧ l.getD 0 ≤ h.getD xs.length) ∧ h.getD xs.length ≤ xs.length ∧ (lo = true → ∀ x ∈ xs, x.length = te.size)) (.sl 1 ((xs.take (h.getD xs.length).toNat).drop (l.getD 0).toNat))
        | none => none
      | _, _ => none
def sliceE (P : Program) (t : TypeId) (lo hi mx : Bool) : List PV → Option Res
  | [] => none
  | .bs nm off k n m :: ps => sliceB P t lo hi mx nm off k n m ps
  | .ptr nm off :: ps => sliceA P t lo hi mx nm off ps
  | x :: ps => sliceO P t lo hi mx x ps
def nilE : PV → Option Res
  | .ptr nm off => qv (.ptr nm off)
  | .iptr cs => qv (.iptr cs)
  | .clo (.func f) a b => qv (.clo (.func f) a b)
  | _ => none
/-- Parts put into their places. -/
def fillP (place : Nat → Option (Nat × Nat)) (cells : List PV) : List Nat → List PV → Option (List PV)
  | [], [] => some cells
  | i :: is, p :: ps => match place i with
    | none => none
    | some (off, size) => if p.fit = true ∧ p.cells.length = size ∧ off + size ≤ cells.length then fillP place (setL cells off p.cells) is ps else none
  | _, _ => none
def buildE (P : Program) (t : TypeId) (is : List Nat) (ps : List PV) : Option Res :=
  match tyOf P t with
  | some ⟨_, _, _, .agg z, .strct fs⟩ => match fillP (fun i => match fs[i]? with | some (o, _, s) => some (o, s) | none => none) z is ps with
    | some cs => qv (.agg cs)
    | none => none
  | some ⟨_, _, _, .agg z, .array _ e⟩ => match tyOf P e with
    | some te => match fillP (fun i => some (i * te.size, te.size)) z is ps with
      | some cs => qv (.agg cs)
      | none => none
    | none => none
  | _ => none
/-- Elements without box and token. -/
def elemsE (size : Nat) : List PV → Option (List (List PV))
  | [] => some []
  | p :: ps => if p.fit = true ∧ p.cells.length = size ∧ p.cells.all PV.one = true then match stripL p.cells with
      | some c => match elemsE size ps with
        | some cs => some (c :: cs)
        | none => none
      | none => none
    else none
def bslE (P : Program) (t : TypeId) (len : Nat) (is : List Nat) (ps : List PV) (own : Bool) (nb : Nat) : Option Res :=
  match tyOf P t with
  | some ⟨_, _, _, _, .slice e⟩ => match tyOf P e with
    | some te => if is = List.range len ∧ ps.length = len ∧ len * te.size ≤ 16777216 ∧ te.size ≠ 0 ∧ te.zero.cells.length = te.size then match elemsE te.size ps with
        | some xs => if own then some ⟨True, .sl nb xs, [], [(nb, some (.tok e te.size len))]⟩ else qv (.sl 1 xs)
        | none => none
      else none
    | none => none
  | _ => none
def lenE (P : Program) (ts : List TypeId) (vals : List PV) : Option Res :=
  match ts, vals with
  | [t], [.sl _ xs] => match tyOf P t with
    | some ⟨_, _, _, _, .slice _⟩ => qv (.int .i64 xs.length)
    | _ => none
  | [t], [.str l] => match tyOf P t with
    | some ⟨_, _, _, _, .str⟩ => qv (.int .i64 l.length)
    | _ => none
  | [t], [.bs _ _ _ n _] => match tyOf P t with
    | some ⟨_, _, _, _, .slice _⟩ => qv (.int .i64 n)
    | _ => none
  | _, _ => none
/-- What append comes to, of a slice with the right to append. -/
def appT (e : TypeId) (te : Ty) (nb t : Nat) (xs ys : List (List PV)) : Option HObj → Option Res
  | some (.tok e' k n) => some ⟨((e' = e ∧ k = te.size ∧ n = xs.length) ∧ (∀ x ∈ xs, x.length = te.size) ∧ ∀ y ∈ ys, y.length = te.size) ∧ (xs.length + ys.length) * te.bytes ≤ 140737488355328 ∧ xs.length + ys.length ≤ 9223372036854775807, .sl nb (xs ++ ys), [t],
            [(t, none), (nb, some (.tok e te.size (xs.length + ys.length)))]⟩
  | _ => none
/-- What append comes to, in a box with room. -/
def appB (te : Ty) (nm off k n m nm2 off2 k2 n2 : Nat) : Option HObj → Option Res
  | some (.box cs) => some ⟨((nm2 = nm ∧ k = te.size ∧ k2 = te.size) ∧ n + n2 ≤ m ∧ off + (n + n2) * k ≤ cs.length ∧ off2 + n2 * k ≤ cs.length) ∧ ∀ p ∈ (cs.drop off2).take (n2 * k), p.one = true, .bs nm off k (n + n2) m, [nm],
      [(nm, some (.box (setL cs (off + n * k) ((cs.drop off2).take (n2 * k)))))]⟩
  | _ => none
/-- What clear comes to. -/
def clearE (P : Program) (t : TypeId) (nm off k n : Nat) : Option HObj → Option Res
  | some (.box cs) => match tyOf P t with
    | some ⟨_, _, _, _, .slice e⟩ => match tyOf P e with
      | some te => if te.zero.cells.length = te.size ∧ te.zero.cells.all PV.one = true then some ⟨off + n * k ≤ cs.length ∧ k = te.size, .tup [], [nm], [(nm, some (.box (setL cs off (List.replicate n te.zero.cells).flatten)))]⟩ else none
      | none => none
    | _ => none
  | _ => none
/-- Whether two keys are the same. -/
def keyE (P : Program) (kt : TypeId) : PV → PV → Option Bool
  | .str a, .str b => match tyOf P kt with
    | some ⟨_, _, _, _, .str⟩ => some (a == b)
    | _ => none
  | .int k a, .int k' b => match tyOf P kt with
    | some ⟨_, _, _, _, .int j⟩ => if j = k ∧ k = k' then some (a == b) else none
    | _ => none
  | .agg xs, .agg ys => match eqKinds P kt with
    | some ks => if kindOK ks xs = true ∧ kindOK ks ys = true then eqCs xs ys else none
    | none => none
  | _, _ => none
/-- A key's cells are plain: what is asked of a key ahead of a look. -/
def keyOK (P : Program) (kt : TypeId) : PV → Bool
  | .str _ => match tyOf P kt with
    | some ⟨_, _, _, _, .str⟩ => true
    | _ => false
  | .int _ _ => match tyOf P kt with
    | some ⟨_, _, _, _, .int _⟩ => true
    | _ => false
  | .agg xs => match tyOf P kt with
    | some ⟨_, _, _, _, .strct fs⟩ => fs.all fun f => match tyOf P f.2.1 with
      | some ⟨_, _, _, _, .int _⟩ => decide (f.1 < xs.length)
      | _ => false
    | _ => false
  | _ => false
def lookL (P : Program) (kt : TypeId) (k : PV) : List (PV × PV) → Option PV
  | [] => none
  | e :: es => match keyE P kt k e.1 with
    | some true => some e.2
    | _ => lookL P kt k es
def lookR (ok : Bool) (z : PV) : Option PV → PV
  | some v => if ok then .tup [v, .bool true] else v
  | none => if ok then .tup [z, .bool false] else z
def lookE (P : Program) (t : TypeId) (ok : Bool) (nm : Nat) (k : PV) : Option HObj → Option Res
  | some (.map es) => match tyOf P t with
    | some ⟨_, _, _, _, .map kt et⟩ => match tyOf P et with
      | some te => if keyOK P kt k = true then some ⟨∀ e ∈ es, (keyE P kt k e.1).isSome = true, lookR ok te.zero (lookL P kt k es), [nm], []⟩ else none
      | none => none
    | _ => none
  | _ => none
def insE (P : Program) (t : TypeId) (nm : Nat) (k v : PV) : Option HObj → Option Res
  | some (.map es) => match tyOf P t with
    | some ⟨_, _, _, _, .map kt _⟩ => if keyOK P kt k = true then some ⟨∀ e ∈ es, keyE P kt k e.1 = some false, .undef, [nm], [(nm, some (.map (es ++ [(k, v)])))]⟩ else none
    | _ => none
  | _ => none
/-- What append comes to. -/
def appE (P : Program) (s x : TypeId) (nb : Nat) (H : Nat → Option HObj) : List PV → Option Res
  | [.bs nm off k n m, .bs nm2 off2 k2 n2 _] => if s ≠ x then none else match tyOf P s with
    | some ⟨_, _, _, _, .slice e⟩ => match tyOf P e with
      | some te => appB te nm off k n m nm2 off2 k2 n2 (H nm)
      | none => none
    | _ => none
  | [.sl t xs, .sl _ ys] => if s ≠ x then none else match tyOf P s with
    | some ⟨_, _, _, _, .slice e⟩ => match tyOf P e with
      | some te => if te.size = 0 ∨ te.zero.cells.length ≠ te.size then none else if t = 0 then some ⟨(∀ x ∈ xs, x.length = te.size) ∧ (∀ y ∈ ys, y.length = te.size) ∧ (xs.length + ys.length) * te.bytes ≤ 140737488355328 ∧ xs.length + ys.length ≤ 9223372036854775807, .sl nb (xs ++ ys), [t],
            [(nb, some (.tok e te.size (xs.length + ys.length)))]⟩ else appT e te nb t xs ys (H t)
      | none => none
    | _ => none
  | _ => none
/-- The next one of a text's. -/
def nextE (nm : Nat) : Option HObj → Option Res
  | some (.siter s pos) => if pos < s.length then some ⟨True, .tup [.bool true, .int .i64 pos, .int .i32 ((Utf8.decode ⟨s.toArray⟩ pos).1 : Int)], [nm], [(nm, some (.siter s (pos + (Utf8.decode ⟨s.toArray⟩ pos).2)))]⟩ else some ⟨True, .tup [.bool false], [nm], []⟩
  | _ => none
def rangeE (P : Program) (t : TypeId) (nb : Nat) (l : List UInt8) : Option Res :=
  match tyOf P t with
  | some ⟨_, _, _, _, .str⟩ => some ⟨True, .ptr nb 0, [], [(nb, some (.siter l 0))]⟩
  | _ => none
def opnds : Op → List Operand
  | .move x => [x]
  | .assign x => [x]
  | .box _ x => [x]
  | .load _ x => [x]
  | .nilCheck x => [x]
  | .unOp _ _ x => [x]
  | .makeInterface _ x => [x]
  | .convert _ _ x => [x]
  | .fieldAddr _ x _ => [x]
  | .field _ x _ => [x]
  | .extract x _ => [x]
  | .pick c a b => [c, a, b]
  | .build _ ps => ps.toList.map (·.2)
  | .buildSlice _ _ ps => ps.toList.map (·.2)
  | .store _ a v => [a, v]
  | .binOp _ _ a v _ => [a, v]
  | .indexAddr _ a v => [a, v]
  | .index _ a v => [a, v]
  | .makeFunc _ f c => f.toList ++ c.toList
  | .slice _ x l h m => x :: (l.toList ++ (h.toList ++ m.toList))
  | .makeMap _ r => r.toList
  | .lookup _ a v _ => [a, v]
  | .insert _ m k v => [m, k, v]
  | .mapUpdate _ m k v => [m, k, v]
  | .range _ x => [x]
  | .next x _ => [x]
  | .call c => match c.callee with
    | .value f => f :: c.args.toList
    | _ => c.args.toList
  | _ => []
def opEval (P : Program) (M : List Nat) (o : Oper) (nb : Nat) (H : Nat → Option HObj) (vals : List PV) : Option Res :=
  match o.op with
  | .move _ => match vals with
    | [p] => qv p
    | _ => none
  | .assign _ => match vals with
    | [p] => qv p
    | _ => none
  | .pick _ _ _ => match vals with
    | [c, a, b] => pickE c a b
    | _ => none
  | .alloc t => match tyOf P t with
    | some ty => some ⟨True, .ptr nb 0, [], [(nb, some (.box ty.zero.cells))]⟩
    | none => none
  | .box _ _ => match vals with
    | [p] => if p.fit = true then some ⟨True, .ptr nb 0, [], [(nb, some (.box p.cells))]⟩ else none
    | _ => none
  | .build t parts => buildE P t (parts.toList.map (·.1)) vals
  | .buildSlice t len parts => bslE P t len (parts.toList.map (·.1)) vals (match o.dst with | some d => M.contains d | none => false) nb
  | .load t _ => match vals with
    | [p] => loadE P t H p
    | _ => none
  | .store t _ _ => match vals with
    | [p, v] => storeE P t H p v
    | _ => none
  | .nilCheck _ => match vals with
    | [p] => nilE p
    | _ => none
  | .binOp op t _ _ _ => match vals with
    | [x, y] => binE P op t x y
    | _ => none
  | .unOp op _ _ => match vals with
    | [x] => unaE op x
    | _ => none
  | .makeInterface t _ => match vals with
    | [x] => mkiE P t x
    | _ => none
  | .convert s d _ => match vals with
    | [x] => convX P s d (match o.dst with | some d => M.contains d | none => false) nb H x
    | _ => none
  | .makeFunc fn a b => qv (.clo fn (vals.take a.size) (vals.drop a.size))
  | .slice t _ lo hi mx => sliceE P t lo.isSome hi.isSome mx.isSome vals
  | .fieldAddr t _ f => match vals with
    | [p] => faddrE P t f p
    | _ => none
  | .field t _ f => match vals with
    | [p] => fieldE P t f p
    | _ => none
  | .indexAddr t _ _ => match vals with
    | [x, i] => iaddrE P t x i
    | _ => none
  | .index t _ _ => match vals with
    | [x, i] => indexE P t x i
    | _ => none
  | .extract _ i => match vals with
    | [.tup vs] => match vs[i]? with
      | some p => qv p
      | none => none
    | _ => none
  | .makeMap _ r => match r with
    | none => some ⟨True, .mp nb, [], [(nb, some (.map []))]⟩
    | some _ => none
  | .lookup t _ _ ok => match vals with
    | [.mp nm, k] => lookE P t ok nm k (H nm)
    | _ => none
  | .insert t _ _ _ => match vals with
    | [.mp nm, k, v] => insE P t nm k v (H nm)
    | _ => none
  | .mapUpdate t _ _ _ => match vals with
    | [.mp nm, k, v] => insE P t nm k v (H nm)
    | _ => none
  | .range t _ => match vals with
    | [.str l] => rangeE P t nb l
    | _ => none
  | .next _ b => match vals with
    | [.ptr nm 0] => if b = true then nextE nm (H nm) else none
    | _ => none
  | .call c => match c.callee with
    | .builtin .clear => match c.argTypes.toList with
      | [t] => match vals with
        | [.bs nm off k n _] => clearE P t nm off k n (H nm)
        | _ => none
      | _ => none
    | .builtin .len => lenE P c.argTypes.toList vals
    | .builtin .append => match c.argTypes.toList with
      | [s, x] => appE P s x nb H vals
      | _ => none
    | _ => none
  | _ => none
end Go.Proofs.YtgagnohelibaoaaDoor
