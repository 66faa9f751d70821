import Derived.Test.YtgagnohelibaoaaDoorHb
/-! The rows by which a walk without memory is stepped through. -/
set_option linter.unusedSimpArgs false
set_option linter.unusedVariables false
namespace Go.Proofs.YtgagnohelibaoaaDoor
open Go.RowKit

/-- No step that is seen through. -/
theorem nr {α : Sort _} {a b : α} (h : a = b) : a = b := h
/-- What a step that waits does not look into. -/
def Dep {α : Sort _} (_ : α) : Type := Unit
def dep {α : Sort _} {a : α} : Dep a := ()
def IfD (b : Bool) (K : Bool → Prop) (_ : Dep K) : Prop := IfB b K
theorem IfD_true (K : Bool → Prop) (d : Dep K) : IfD true K d = K true := nr rfl
theorem IfD_false (K : Bool → Prop) (d : Dep K) : IfD false K d = K false := nr rfl
theorem ifD {b : Bool} {K : Bool → Prop} {d : Dep K} (h1 : b = true → K true) (h2 : b = false → K false) : IfD b K d := ifB h1 h2
def BoD (p : PV) (K : Bool → Prop) (_ : Dep K) : Prop := BoK p K
theorem BoD_bool (b : Bool) (K : Bool → Prop) (d : Dep K) : BoD (.bool b) K d = IfD b K d := nr rfl
def BgD (p : PV) (K : Bool → Prop) (A : Prop) (_ : Dep K) (_ : Dep A) : Prop := BgK p K A
theorem BgD_bool (b : Bool) (K : Bool → Prop) (A : Prop) (d : Dep K) (e : Dep A) : BgD (.bool b) K A d e = IfD b K d := nr rfl
theorem BgD_none (K : Bool → Prop) (A : Prop) (d : Dep K) (e : Dep A) : BgD (.lit undef) K A d e = A := nr rfl
abbrev KRes := PV → List Nat → List (Nat × Option HObj) → Prop
def ResD (r : Option Res) (K : KRes) (_ : Dep K) : Prop := ResK r K
theorem ResD_some (c : Prop) (p : PV) (rd : List Nat) (wr : List (Nat × Option HObj)) (K : KRes) (d : Dep K) : ResD (some ⟨c, p, rd, wr⟩) K d = (c ∧ K p rd wr) := nr rfl
def CalD (P : Program) (f : FuncId) (args : List PV) (rd : List Nat) (nb : Nat) (K : KRes) (_ : Dep K) : Prop := CalK P f args rd nb K
theorem calD {P : Program} {f : FuncId} {args : List PV} {nb : Nat} {K : KRes} {d : Dep K} {r : PV} (h : CallsTo P f args r []) (hK : K r [] []) : CalD P f args [] nb K d := calK h hK
theorem calDt {P : Program} {f : FuncId} {args : List PV} {nb : Nat} {K : KRes} {d : Dep K} {r : PV} {toks : List (Nat × TypeId × Nat × Nat)} (h : CallsTo P f args r toks) (hi : r.imps = true) (hK : K (imp nb r toks) [] (wrs nb toks)) : CalD P f args [] nb K d := calKt h hi hK
theorem calDf {P : Program} {f : FuncId} {args : List PV} {rd : List Nat} {nb : Nat} {K : KRes} {d : Dep K} {r : PV} (h : CallsTo P f args r []) (hf : r.flat = true) (hK : K r rd []) : CalD P f args rd nb K d := calKf h hf hK
def CalAD (P : Program) (x : Option (List PV × List Nat)) (nb : Nat) (K : KRes) (_ : Dep K) : Prop := CalA P x nb K
def InD (P : Program) (f : FuncId) (args : List PV) (H : Nat → Option HObj) (nb : Nat) (K : KRes) (_ : Dep K) (_ : Dep H) : Prop := InK P f args H nb K
theorem inD {P : Program} {f : FuncId} {args : List PV} {H : Nat → Option HObj} {nb : Nat} {K : KRes} {d : Dep K} {e : Dep H} {hs : List (Nat × HObj)} {r : Nat → PV} {wr : Nat → List (Nat × Option HObj)} (h : InTo P f args hs r wr) (hhs : ∀ x ∈ hs, H x.1 = some x.2) (hK : K (r nb) (hs.map (·.1)) (wr nb)) : InD P f args H nb K d e := ⟨hs, r, wr, h, hhs, hK⟩
theorem calDi {P : Program} {f : FuncId} {args : List PV} {nb : Nat} {K : KRes} {d : Dep K} {r : Nat → PV} {wr : Nat → List (Nat × Option HObj)} (h : InTo P f args [] r wr) (hK : K (r nb) [] (wr nb)) : CalD P f args [] nb K d := calKi h hK
theorem calDb {P : Program} {f : FuncId} {args : List PV} {nb : Nat} {K : KRes} {d : Dep K} {xs : List (List PV)} {e k n : Nat} (h : CallsTo P f args (.sl 2 xs) [(2, e, k, n)]) (hn : n = xs.length ∧ 0 < n ∧ ∀ x ∈ xs, x.length = k ∧ ∀ p ∈ x, plainP p = true) (hK : K (.bs nb 0 k n n) [] [(nb, some (.box xs.flatten))]) : CalD P f args [] nb K d := calKb h hn hK
def CalBD (P : Program) (x : Option (List PV × List Nat)) (vals : List PV) (H : Nat → Option HObj) (nb : Nat) (K : KRes) (_ : Dep K) (_ : Dep H) : Prop := CalB P x vals H nb K
theorem CalBD_some (P : Program) (f : FuncId) (fa fb args : List PV) (rd : List Nat) (vals : List PV) (H : Nat → Option HObj) (nb : Nat) (K : KRes) (d : Dep K) (e : Dep H) : CalBD P (some (.clo (.func f) fa fb :: args, rd)) vals H nb K d e = CalD P f (fa ++ args ++ fb) rd nb K d := nr rfl
theorem CalBD_none (P : Program) (f : FuncId) (fa fb args : List PV) (H : Nat → Option HObj) (nb : Nat) (K : KRes) (d : Dep K) (e : Dep H) : CalBD P none (.clo (.func f) fa fb :: args) H nb K d e = InD P f (fa ++ args ++ fb) H nb K d e := nr rfl
theorem CalAD_eq (P : Program) (f : FuncId) (fa fb args : List PV) (rd : List Nat) (nb : Nat) (K : KRes) (d : Dep K) : CalAD P (some (.clo (.func f) fa fb :: args, rd)) nb K d = CalD P f (fa ++ args ++ fb) rd nb K d := nr rfl
def OpD (P : Program) (M : List Nat) (o : Oper) (nb : Nat) (H : Nat → Option HObj) (vals : List PV) (K : KRes) (_ : Dep K) (_ : Dep H) (_ : Dep o) : Prop := OpK P M o nb H vals K
def FpD (draw : Bool) (ops : Array Oper) (i : Nat) (rd wn : List Nat) (fps : List (Nat × List Nat × List Nat)) (K : List (Nat × List Nat × List Nat) → Prop) (_ : Dep K) (_ : Dep ops) : Prop := FpK draw ops i rd wn fps K
def AWD (P : Program) (nt : Nat) (c : Code) (Q : Post) (T : Nat → PV) (H : Nat → Option HObj) (N : Nat) (_ : Dep (c, Q, T, H)) : Prop := AWp P nt c Q T H N
theorem loopD {P : Program} {M : List Nat} {nt : Nat} {c : Code} {Q : Post} {T : Nat → PV} {H : Nat → Option HObj} {N : Nat} {d : Dep (Code.loop c, Q, T, H)} (hm : P.follows .mixedOrders = true) (hok : codeOK nt c = true) (ws : List Nat) (hws : wrIn ws c = true) (I : Nat → (Nat → PV) → (Nat → Option HObj) → Nat → Prop)
    (h0 : ∃ n, I n T H N) (round : ∀ n f H' N', I n f H' N' → wpc P M nt c (thenQ (fun T' H' N' => ∃ m, m < n ∧ I m T' H' N') Q) (ovl ws f T) H' N') : AWD P nt (.loop c) Q T H N d := loop_rule hm hok ws hws I h0 round
def RunK (run : Bool) (A B : Prop) : Prop := match run with
  | true => A
  | false => B
def RunD (run : Bool) (A B : Prop) (_ : Dep (A, B)) : Prop := RunK run A B
theorem RunD_true (A B : Prop) (d : Dep (A, B)) : RunD true A B d = A := nr rfl
theorem RunD_false (A B : Prop) (d : Dep (A, B)) : RunD false A B d = B := nr rfl
section
variable (P : Program) (M : List Nat) (nt : Nat) (Q : Post) (T : Nat → PV) (H : Nat → Option HObj) (N : Nat)
theorem w_skip : wpc P M nt .skip Q T H N = Q .normal T H N := nr rfl
theorem w_region (id : Nat) (ops : List Oper) (draw : Bool) : wpc P M nt (.region id ops.toArray draw) Q T H N = AOps P M draw ops.toArray (ops.map (·.dst)) N ops 0 T H [] fun T H => Q .normal T H (N + 8 * ops.length) := by
  simp only [wpc, dstsOf, List.size_toArray]
theorem w_seq (a b : Code) : wpc P M nt (.seq a b) Q T H N = wpc P M nt a (thenQ (wpc P M nt b Q) Q) T H N := nr rfl
theorem w_cond (c : Operand) (a b : Code) : wpc P M nt (.cond c a b) Q T H N = BoD (ev T c) (fun t => RunD t (wpc P M nt a Q T H N) (wpc P M nt b Q T H N) dep) dep := nr rfl
theorem w_block (id : Nat) (b : Code) : wpc P M nt (.block id b) Q T H N = wpc P M nt b (blkQ id Q) T H N := nr rfl
theorem w_exit (id : Nat) : wpc P M nt (.exit id) Q T H N = Q (.exit id) T H N := nr rfl
theorem w_ret : wpc P M nt .ret Q T H N = Q .ret T H N := nr rfl
theorem w_label (l : Nat) : wpc P M nt (.label l) Q T H N = Q .normal T H N := nr rfl
theorem w_goto (l : Nat) : wpc P M nt (.goto l) Q T H N = Q (.goto l) T H N := nr rfl
theorem w_loop (b : Code) : wpc P M nt (.loop b) Q T H N = AWD P nt (.loop b) Q T H N dep := nr rfl
theorem w_scope (b : Code) : wpc P M nt (.scope b) Q T H N = AWD P nt (.scope b) Q T H N dep := nr rfl
theorem t_normal (K : (Nat → PV) → (Nat → Option HObj) → Nat → Prop) : thenQ K Q .normal T H N = K T H N := nr rfl
theorem t_exit (K : (Nat → PV) → (Nat → Option HObj) → Nat → Prop) (id : Nat) : thenQ K Q (.exit id) T H N = Q (.exit id) T H N := nr rfl
theorem t_ret (K : (Nat → PV) → (Nat → Option HObj) → Nat → Prop) : thenQ K Q .ret T H N = Q .ret T H N := nr rfl
theorem t_goto (K : (Nat → PV) → (Nat → Option HObj) → Nat → Prop) (l : Nat) : thenQ K Q (.goto l) T H N = Q (.goto l) T H N := nr rfl
theorem b_normal (id : Nat) : blkQ id Q .normal T H N = Q .normal T H N := nr rfl
theorem b_same (id : Nat) : blkQ id Q (.exit id) T H N = Q .normal T H N := nr (if_pos rfl)
theorem b_other (id id' : Nat) (h : id' ≠ id) : blkQ id Q (.exit id') T H N = Q (.exit id') T H N := if_neg h
theorem b_ret (id : Nat) : blkQ id Q .ret T H N = Q .ret T H N := nr rfl
theorem b_goto (id l : Nat) : blkQ id Q (.goto l) T H N = Q (.goto l) T H N := nr rfl

variable (draw : Bool) (ops : Array Oper) (ds : List (Option Tmp)) (i : Nat) (fps : List (Nat × List Nat × List Nat)) (K : (Nat → PV) → (Nat → Option HObj) → Prop)
theorem a_nil : AOps P M draw ops ds N [] i T H fps K = K T H := nr rfl
theorem a_cons (d : Option Tmp) (op : Op) (ty : TypeId) (pos : String) (af : Array Edge) (g : Option (Nat × Bool)) (os : List Oper) : AOps P M draw ops ds N (⟨d, op, ty, pos, af, g⟩ :: os) i T H fps K =
    GuK g ds T fun run T' => RunD run (OpD P M ⟨d, op, ty, pos, af, g⟩ (N + 8 * i) H ((opnds op).map (ev T')) (fun p rd wr => FpD draw ops i rd (namesW wr) fps (fun fps' => AOps P M draw ops ds N os (i + 1) (putT T' d p) (applyW H wr) fps' K) dep dep) dep dep dep)
      (AOps P M draw ops ds N os (i + 1) (putT T' d (.lit undef)) H fps K) dep := nr rfl
theorem g_none (Kg : Bool → (Nat → PV) → Prop) : GuK none ds T Kg = Kg true T := nr rfl
/-- The slot of an operation. -/
def slotD (x : Option (Option Tmp)) (T : Nat → PV) (K : Tmp → Prop) (_ : Dep K) : Prop := match x with
  | some (some d) => K d
  | _ => False
theorem slotD_some (d : Tmp) (Ks : Tmp → Prop) (e : Dep Ks) : slotD (some (some d)) T Ks e = Ks d := nr rfl
theorem g_some (j : Nat) (want : Bool) (Kg : Bool → (Nat → PV) → Prop) : GuK (some (j, want)) ds T Kg = slotD ds[j]? T (fun d => BgD (T d) (fun b => Kg (bif want then b else !b) (upd T d (.bool b))) (Kg false T) dep dep) dep := by
  refine nr ?_
  unfold GuK slotD
  rfl
theorem f_no (rd wn : List Nat) (Kf : List (Nat × List Nat × List Nat) → Prop) (e : Dep Kf) (e2 : Dep ops) : FpD false ops i rd wn fps Kf e e2 = Kf fps := nr rfl
theorem f_quiet (Kf : List (Nat × List Nat × List Nat) → Prop) (e : Dep Kf) (e2 : Dep ops) : FpD true ops i [] [] fps Kf e e2 = Kf fps := nr rfl
theorem f_rd (r : Nat) (rd wn : List Nat) (Kf : List (Nat × List Nat × List Nat) → Prop) (e : Dep Kf) (e2 : Dep ops) : FpD true ops i (r :: rd) wn fps Kf e e2 = (FpC ops i (r :: rd) wn fps ∧ Kf ((i, r :: rd, wn) :: fps)) := nr rfl
theorem f_wr (r : Nat) (wn : List Nat) (Kf : List (Nat × List Nat × List Nat) → Prop) (e : Dep Kf) (e2 : Dep ops) : FpD true ops i [] (r :: wn) fps Kf e e2 = (FpC ops i [] (r :: wn) fps ∧ Kf ((i, [], r :: wn) :: fps)) := nr rfl
theorem fc_nil (rd wn : List Nat) : FpC ops i rd wn [] = True := by simp [FpC]
theorem fc_cons (rd wn : List Nat) (x : Nat × List Nat × List Nat) : FpC ops i rd wn (x :: fps) = ((cmpB ops x.1 i = true ∨ ((∀ n ∈ wn, n ∉ x.2.1 ∧ n ∉ x.2.2) ∧ ∀ n ∈ x.2.2, n ∉ rd)) ∧ FpC ops i rd wn fps) := by simp [FpC]
theorem put_some (d : Tmp) (p : PV) : putT T (some d) p = upd T d p := nr rfl
theorem put_none (p : PV) : putT T none p = T := nr rfl
theorem ev_tmp (t : Tmp) : ev T (.tmp t) = T t := nr rfl
theorem ev_const (v : Value) : ev T (.const v) = ofVal v := nr rfl
theorem ev_func (f : FuncId) : ev T (.func f) = .clo (.func f) [] [] := nr rfl
theorem upd_at {α : Type} (f : Nat → α) (d x : Nat) (p : α) : upd f d p x = if x = d then p else f x := nr rfl
theorem init_at (args : List PV) (x : Nat) : initT args x = args.getD x .undef := nr rfl
section
variable (d : Option Tmp) (ty : TypeId) (pos : String) (af : Array Edge) (g : Option (Nat × Bool)) (nb : Nat) (Ko : PV → List Nat → List (Nat × Option HObj) → Prop) (e1 : Dep Ko) (e2 : Dep H) (p x y z : PV) (ps : List PV)
theorem k_move (o : Operand) (e3 : Dep (α := Oper) ⟨d, .move o, ty, pos, af, g⟩) : OpD P M ⟨d, .move o, ty, pos, af, g⟩ nb H [p] Ko e1 e2 e3 = Ko p [] [] := by simp [OpD, OpK, isCall, opEval, qv, ResK]
theorem k_assign (o : Operand) (e3 : Dep (α := Oper) ⟨d, .assign o, ty, pos, af, g⟩) : OpD P M ⟨d, .assign o, ty, pos, af, g⟩ nb H [p] Ko e1 e2 e3 = Ko p [] [] := by simp [OpD, OpK, isCall, opEval, qv, ResK]
theorem k_pick (a b c : Operand) (e3 : Dep (α := Oper) ⟨d, .pick a b c, ty, pos, af, g⟩) : OpD P M ⟨d, .pick a b c, ty, pos, af, g⟩ nb H [x, y, z] Ko e1 e2 e3 = ResD (pickE x y z) Ko e1 := nr rfl
theorem k_alloc (t : TypeId) (e3 : Dep (α := Oper) ⟨d, .alloc t, ty, pos, af, g⟩) : OpD P M ⟨d, .alloc t, ty, pos, af, g⟩ nb H ps Ko e1 e2 e3 = ResD (match tyOf P t with | some ty => some ⟨True, .ptr nb 0, [], [(nb, some (.box ty.zero.cells))]⟩ | none => none) Ko e1 := nr rfl
theorem k_box (t : TypeId) (o : Operand) (e3 : Dep (α := Oper) ⟨d, .box t o, ty, pos, af, g⟩) : OpD P M ⟨d, .box t o, ty, pos, af, g⟩ nb H [p] Ko e1 e2 e3 = ResD (if p.fit = true then some ⟨True, .ptr nb 0, [], [(nb, some (.box p.cells))]⟩ else none) Ko e1 := nr rfl
theorem k_build (t : TypeId) (parts : List (Nat × Operand)) (e3 : Dep (α := Oper) ⟨d, .build t parts.toArray, ty, pos, af, g⟩) : OpD P M ⟨d, .build t parts.toArray, ty, pos, af, g⟩ nb H ps Ko e1 e2 e3 = ResD (buildE P t (parts.map (·.1)) ps) Ko e1 := nr rfl
theorem k_bsl (t : TypeId) (n : Nat) (parts : List (Nat × Operand)) (e : Tmp) (e3 : Dep (α := Oper) ⟨some e, .buildSlice t n parts.toArray, ty, pos, af, g⟩) : OpD P M ⟨some e, .buildSlice t n parts.toArray, ty, pos, af, g⟩ nb H ps Ko e1 e2 e3 = ResD (bslE P t n (parts.map (·.1)) ps (M.contains e) nb) Ko e1 := nr rfl
theorem k_load (t : TypeId) (o : Operand) (e3 : Dep (α := Oper) ⟨d, .load t o, ty, pos, af, g⟩) : OpD P M ⟨d, .load t o, ty, pos, af, g⟩ nb H [p] Ko e1 e2 e3 = ResD (loadE P t H p) Ko e1 := nr rfl
theorem k_store (t : TypeId) (o o' : Operand) (e3 : Dep (α := Oper) ⟨d, .store t o o', ty, pos, af, g⟩) : OpD P M ⟨d, .store t o o', ty, pos, af, g⟩ nb H [p, x] Ko e1 e2 e3 = ResD (storeE P t H p x) Ko e1 := nr rfl
theorem k_nil (o : Operand) (e3 : Dep (α := Oper) ⟨d, .nilCheck o, ty, pos, af, g⟩) : OpD P M ⟨d, .nilCheck o, ty, pos, af, g⟩ nb H [p] Ko e1 e2 e3 = ResD (nilE p) Ko e1 := nr rfl
theorem k_bin (op : BinOp) (t t' : TypeId) (o o' : Operand) (e3 : Dep (α := Oper) ⟨d, .binOp op t o o' t', ty, pos, af, g⟩) : OpD P M ⟨d, .binOp op t o o' t', ty, pos, af, g⟩ nb H [x, y] Ko e1 e2 e3 = ResD (binE P op t x y) Ko e1 := nr rfl
theorem k_mki (t : TypeId) (o : Operand) (e3 : Dep (α := Oper) ⟨d, .makeInterface t o, ty, pos, af, g⟩) : OpD P M ⟨d, .makeInterface t o, ty, pos, af, g⟩ nb H [x] Ko e1 e2 e3 = ResD (mkiE P t x) Ko e1 := nr rfl
theorem k_un (op : UnOp) (t : TypeId) (o : Operand) (e3 : Dep (α := Oper) ⟨d, .unOp op t o, ty, pos, af, g⟩) : OpD P M ⟨d, .unOp op t o, ty, pos, af, g⟩ nb H [x] Ko e1 e2 e3 = ResD (unaE op x) Ko e1 := nr rfl
theorem k_conv (s t : TypeId) (o : Operand) (e : Tmp) (e3 : Dep (α := Oper) ⟨some e, .convert s t o, ty, pos, af, g⟩) : OpD P M ⟨some e, .convert s t o, ty, pos, af, g⟩ nb H [x] Ko e1 e2 e3 = ResD (convX P s t (M.contains e) nb H x) Ko e1 := nr rfl
theorem k_mkf (fn : Fn) (a b : List Operand) (e3 : Dep (α := Oper) ⟨d, .makeFunc fn a.toArray b.toArray, ty, pos, af, g⟩) : OpD P M ⟨d, .makeFunc fn a.toArray b.toArray, ty, pos, af, g⟩ nb H ps Ko e1 e2 e3 = Ko (.clo fn (ps.take a.length) (ps.drop a.length)) [] [] := by simp [OpD, OpK, isCall, opEval, qv, ResK]
theorem k_slice (t : TypeId) (o : Operand) (lo hi mx : Option Operand) (e3 : Dep (α := Oper) ⟨d, .slice t o lo hi mx, ty, pos, af, g⟩) : OpD P M ⟨d, .slice t o lo hi mx, ty, pos, af, g⟩ nb H ps Ko e1 e2 e3 = ResD (sliceE P t lo.isSome hi.isSome mx.isSome ps) Ko e1 := nr rfl
theorem k_fadr (t : TypeId) (o : Operand) (f : Nat) (e3 : Dep (α := Oper) ⟨d, .fieldAddr t o f, ty, pos, af, g⟩) : OpD P M ⟨d, .fieldAddr t o f, ty, pos, af, g⟩ nb H [p] Ko e1 e2 e3 = ResD (faddrE P t f p) Ko e1 := nr rfl
theorem k_field (t : TypeId) (o : Operand) (f : Nat) (e3 : Dep (α := Oper) ⟨d, .field t o f, ty, pos, af, g⟩) : OpD P M ⟨d, .field t o f, ty, pos, af, g⟩ nb H [p] Ko e1 e2 e3 = ResD (fieldE P t f p) Ko e1 := nr rfl
theorem k_iadr (t : TypeId) (o o' : Operand) (e3 : Dep (α := Oper) ⟨d, .indexAddr t o o', ty, pos, af, g⟩) : OpD P M ⟨d, .indexAddr t o o', ty, pos, af, g⟩ nb H [x, y] Ko e1 e2 e3 = ResD (iaddrE P t x y) Ko e1 := nr rfl
theorem k_index (t : TypeId) (o o' : Operand) (e3 : Dep (α := Oper) ⟨d, .index t o o', ty, pos, af, g⟩) : OpD P M ⟨d, .index t o o', ty, pos, af, g⟩ nb H [x, y] Ko e1 e2 e3 = ResD (indexE P t x y) Ko e1 := nr rfl
theorem k_extract (o : Operand) (n : Nat) (vs : List PV) (e3 : Dep (α := Oper) ⟨d, .extract o n, ty, pos, af, g⟩) : OpD P M ⟨d, .extract o n, ty, pos, af, g⟩ nb H [.tup vs] Ko e1 e2 e3 = ResD (match vs[n]? with | some p => qv p | none => none) Ko e1 := nr rfl
theorem k_len (a : Array Operand) (ts : List TypeId) (e3 : Dep (α := Oper) ⟨d, .call ⟨.builtin .len, a, ts.toArray⟩, ty, pos, af, g⟩) : OpD P M ⟨d, .call ⟨.builtin .len, a, ts.toArray⟩, ty, pos, af, g⟩ nb H ps Ko e1 e2 e3 = ResD (lenE P ts ps) Ko e1 := nr rfl
theorem k_app (a : Array Operand) (s t : TypeId) (e3 : Dep (α := Oper) ⟨d, .call ⟨.builtin .append, a, #[s, t]⟩, ty, pos, af, g⟩) : OpD P M ⟨d, .call ⟨.builtin .append, a, #[s, t]⟩, ty, pos, af, g⟩ nb H ps Ko e1 e2 e3 = ResD (appE P s t nb H ps) Ko e1 := nr rfl
theorem k_clear (a : Array Operand) (s : TypeId) (e3 : Dep (α := Oper) ⟨d, .call ⟨.builtin .clear, a, #[s]⟩, ty, pos, af, g⟩) (nm off k n m : Nat) : OpD P M ⟨d, .call ⟨.builtin .clear, a, #[s]⟩, ty, pos, af, g⟩ nb H [.bs nm off k n m] Ko e1 e2 e3 = ResD (clearE P s nm off k n (H nm)) Ko e1 := nr rfl
theorem k_make (t : TypeId) (e3 : Dep (α := Oper) ⟨d, .makeMap t none, ty, pos, af, g⟩) : OpD P M ⟨d, .makeMap t none, ty, pos, af, g⟩ nb H ps Ko e1 e2 e3 = Ko (.mp nb) [] [(nb, some (.map []))] := by simp [OpD, OpK, isCall, opEval, ResK]
theorem k_look (t : TypeId) (o o' : Operand) (b : Bool) (e3 : Dep (α := Oper) ⟨d, .lookup t o o' b, ty, pos, af, g⟩) (nm : Nat) : OpD P M ⟨d, .lookup t o o' b, ty, pos, af, g⟩ nb H [.mp nm, x] Ko e1 e2 e3 = ResD (lookE P t b nm x (H nm)) Ko e1 := nr rfl
theorem k_ins (t : TypeId) (o o' o2 : Operand) (e3 : Dep (α := Oper) ⟨d, .insert t o o' o2, ty, pos, af, g⟩) (nm : Nat) : OpD P M ⟨d, .insert t o o' o2, ty, pos, af, g⟩ nb H [.mp nm, x, y] Ko e1 e2 e3 = ResD (insE P t nm x y (H nm)) Ko e1 := nr rfl
theorem k_upd (t : TypeId) (o o' o2 : Operand) (e3 : Dep (α := Oper) ⟨d, .mapUpdate t o o' o2, ty, pos, af, g⟩) (nm : Nat) : OpD P M ⟨d, .mapUpdate t o o' o2, ty, pos, af, g⟩ nb H [.mp nm, x, y] Ko e1 e2 e3 = ResD (insE P t nm x y (H nm)) Ko e1 := nr rfl
theorem k_range (t : TypeId) (o : Operand) (e3 : Dep (α := Oper) ⟨d, .range t o, ty, pos, af, g⟩) (l : List UInt8) : OpD P M ⟨d, .range t o, ty, pos, af, g⟩ nb H [.str l] Ko e1 e2 e3 = ResD (rangeE P t nb l) Ko e1 := nr rfl
theorem k_next (o : Operand) (e3 : Dep (α := Oper) ⟨d, .next o true, ty, pos, af, g⟩) (nm : Nat) : OpD P M ⟨d, .next o true, ty, pos, af, g⟩ nb H [.ptr nm 0] Ko e1 e2 e3 = ResD (nextE nm (H nm)) Ko e1 := nr rfl
theorem nextE_s (nm : Nat) (s : List UInt8) (pos : Nat) : nextE nm (some (.siter s pos)) = if pos < s.length then some ⟨True, .tup [.bool true, .int .i64 pos, .int .i32 ((Utf8.decode ⟨s.toArray⟩ pos).1 : Int)], [nm], [(nm, some (.siter s (pos + (Utf8.decode ⟨s.toArray⟩ pos).2)))]⟩ else some ⟨True, .tup [.bool false], [nm], []⟩ := nr rfl
theorem k_call (f : Operand) (a ts : Array _) (e3 : Dep (α := Oper) ⟨d, .call ⟨.value f, a, ts⟩, ty, pos, af, g⟩) : OpD P M ⟨d, .call ⟨.value f, a, ts⟩, ty, pos, af, g⟩ nb H ps Ko e1 e2 e3 = CalBD P (argsE H ps) ps H nb Ko e1 e2 := nr rfl
end
theorem qv_eq (p : PV) : qv p = some ⟨True, p, [], []⟩ := nr rfl
theorem qc_eq (c : Prop) (p : PV) : qc c p = some ⟨c, p, [], []⟩ := nr rfl
theorem opnds_value (f : Operand) (a : List Operand) (ts : Array TypeId) : opnds (.call ⟨.value f, a.toArray, ts⟩) = f :: a := nr rfl
theorem opnds_builtin (b : Builtin) (a : List Operand) (ts : Array TypeId) : opnds (.call ⟨.builtin b, a.toArray, ts⟩) = a := nr rfl
theorem list_toList {α : Type} (l : List α) : l.toArray.toList = l := nr rfl
theorem imp_nil (nb : Nat) (r : PV) : imp nb r [] = r := nr rfl
theorem imp_cons (nb : Nat) (r : PV) (x : Nat × TypeId × Nat × Nat) (l : List (Nat × TypeId × Nat × Nat)) : imp nb r (x :: l) = ren nb r := nr rfl
theorem ren_tup (nb : Nat) (l : List PV) : ren nb (.tup l) = .tup (l.map (ren1 nb)) := nr rfl
theorem ren_agg (nb : Nat) (l : List PV) : ren nb (.agg l) = .agg (l.map (renC nb)) := nr rfl
theorem ren_sl (nb t : Nat) (xs : List (List PV)) : ren nb (.sl t xs) = if t < 2 then .sl t xs else .sl (nb + t) xs := nr rfl
theorem ren1_agg (nb : Nat) (l : List PV) : ren1 nb (.agg l) = .agg (l.map (renC nb)) := nr rfl
theorem ren1_sl (nb t : Nat) (xs : List (List PV)) : ren1 nb (.sl t xs) = if t < 2 then .sl t xs else .sl (nb + t) xs := nr rfl
theorem ren1_int (nb : Nat) (k : IntKind) (n : Int) : ren1 nb (.int k n) = .int k n := nr rfl
theorem ren1_str (nb : Nat) (l : List UInt8) : ren1 nb (.str l) = .str l := nr rfl
theorem ren1_bool (nb : Nat) (b : Bool) : ren1 nb (.bool b) = .bool b := nr rfl
theorem renC_sl (nb t : Nat) (xs : List (List PV)) : renC nb (.sl t xs) = if t < 2 then .sl t xs else .sl (nb + t) xs := nr rfl
theorem renC_int (nb : Nat) (k : IntKind) (n : Int) : renC nb (.int k n) = .int k n := nr rfl
theorem renC_str (nb : Nat) (l : List UInt8) : renC nb (.str l) = .str l := nr rfl
theorem renC_bool (nb : Nat) (b : Bool) : renC nb (.bool b) = .bool b := nr rfl
theorem wrs_cons (nb a e k n : Nat) (l : List (Nat × TypeId × Nat × Nat)) : wrs nb ((a, e, k, n) :: l) = (nb + a, some (.tok e k n)) :: wrs nb l := nr rfl
theorem wrs_nil (nb : Nat) : wrs nb [] = [] := nr rfl
theorem app_nil : applyW H [] = H := nr rfl
theorem app_cons (n : Nat) (o : Option HObj) (ws : List (Nat × Option HObj)) : applyW H ((n, o) :: ws) = applyW (upd H n o) ws := nr rfl
theorem nm_nil : namesW [] = [] := nr rfl
theorem nm_cons (n : Nat) (o : Option HObj) (ws : List (Nat × Option HObj)) : namesW ((n, o) :: ws) = n :: namesW ws := nr rfl
def EndK (H : Nat → Option HObj) (x : Option (List PV)) (r : PV) : Prop := ∃ ps, x = some ps ∧ endE H (tupV ps) = some r
theorem EndK_some (ps : List PV) (r : PV) : EndK H (some ps) r = (endE H (tupV ps) = some r) := by simp [EndK]
theorem e_normal (rs : List ResultVar) (r : PV) : endQ P rs r .normal T H N = EndK H (resV P T H rs) r := nr rfl
theorem e_ret (rs : List ResultVar) (r : PV) : endQ P rs r .ret T H N = EndK H (resV P T H rs) r := nr rfl
theorem i_normal (rs : List ResultVar) (r : PV) (wr : List (Nat × Option HObj)) (H0 : Nat → Option HObj) (nb N0 : Nat) (hn : List Nat) : endI P rs r wr H0 nb N0 hn .normal T H N = EndI (resV P T H rs) r wr H0 H nb N0 hn := nr rfl
theorem i_ret (rs : List ResultVar) (r : PV) (wr : List (Nat × Option HObj)) (H0 : Nat → Option HObj) (nb N0 : Nat) (hn : List Nat) : endI P rs r wr H0 nb N0 hn .ret T H N = EndI (resV P T H rs) r wr H0 H nb N0 hn := nr rfl
def EndU (x : Option (List PV)) (r : PV) (toks : List (Nat × TypeId × Nat × Nat)) (H : Nat → Option HObj) : Prop := ∃ ps φ, x = some ps ∧ finE (toks.map (·.1)) φ r (tupV ps) ∧ (∀ x ∈ toks, (2 ≤ x.1 ∧ x.1 < 8) ∧ H (φ x.1) = some (.tok x.2.1 x.2.2.1 x.2.2.2)) ∧ (∀ x ∈ toks, ∀ y ∈ toks, x ≠ y → φ x.1 ≠ φ y.1)
theorem EndU_some (ps : List PV) (r : PV) (toks : List (Nat × TypeId × Nat × Nat)) : EndU (some ps) r toks H = ∃ φ, finE (toks.map (·.1)) φ r (tupV ps) ∧ (∀ x ∈ toks, (2 ≤ x.1 ∧ x.1 < 8) ∧ H (φ x.1) = some (.tok x.2.1 x.2.2.1 x.2.2.2)) ∧ (∀ x ∈ toks, ∀ y ∈ toks, x ≠ y → φ x.1 ≠ φ y.1) := by simp [EndU]
theorem u_normal (rs : List ResultVar) (r : PV) (toks : List (Nat × TypeId × Nat × Nat)) : endT P rs r toks .normal T H N = EndU (resV P T H rs) r toks H := by simp [endT, EndU]
theorem u_ret (rs : List ResultVar) (r : PV) (toks : List (Nat × TypeId × Nat × Nat)) : endT P rs r toks .ret T H N = EndU (resV P T H rs) r toks H := by simp [endT, EndU]
end
/-! Rows in the place of matches. -/
section
variable (P : Program) (s d : TypeId) (H : Nat → Option HObj) (nm n k : Nat) (xs : List (List PV)) (e : TypeId)
theorem convX_no (nb : Nat) (x : PV) : convX P s d false nb H x = convO P s d H x := by cases x <;> rfl
theorem convX_str (nb : Nat) (l : List UInt8) : convX P s d true nb H (.str l) = convN P s d nb l := nr rfl
theorem convO_int (kk : IntKind) (m : Int) : convO P s d H (.int kk m) = convE P s d (.int kk m) := nr rfl
theorem convO_str (l : List UInt8) : convO P s d H (.str l) = convE P s d (.str l) := nr rfl
theorem convO_sl : convO P s d H (.sl nm xs) = if nm < 2 then convE P s d (.sl nm xs) else convS P s d nm xs (H nm) := nr rfl
theorem convS_none : convS P s d nm xs none = addRd nm (convE P s d (.sl nm xs)) := nr rfl
theorem convS_tok : convS P s d nm xs (some (.tok e k n)) = convT P s d nm xs n (tyOf P d) := nr rfl
theorem addRd_some (c : Prop) (p : PV) (rd : List Nat) (wr : List (Nat × Option HObj)) : addRd nm (some ⟨c, p, rd, wr⟩) = some ⟨c, p, nm :: rd, wr⟩ := nr rfl
theorem appT_tok (te : Ty) (nb t : Nat) (ys : List (List PV)) (e' : TypeId) : appT e te nb t xs ys (some (.tok e' k n)) = some ⟨((e' = e ∧ k = te.size ∧ n = xs.length) ∧ (∀ x ∈ xs, x.length = te.size) ∧ ∀ y ∈ ys, y.length = te.size) ∧ (xs.length + ys.length) * te.bytes ≤ 140737488355328 ∧ xs.length + ys.length ≤ 9223372036854775807, .sl nb (xs ++ ys), [t],
            [(t, none), (nb, some (.tok e te.size (xs.length + ys.length)))]⟩ := nr rfl
end
section
variable (P : Program) (t : TypeId) (H : Nat → Option HObj) (nm off : Nat) (cs ds ps qs : List PV) (p q v : PV) (rd ls : List Nat)
def loadC (rd : List Nat) : Option PV → Option Res
  | some p => some ⟨True, p, rd, []⟩
  | none => none
def loadB (P : Program) (t : TypeId) (nm off : Nat) : Option HObj → Option Res
  | some (.box cs) => loadC [nm] (partE P t cs off)
  | _ => none
theorem loadC_some : loadC rd (some p) = some ⟨True, p, rd, []⟩ := nr rfl
theorem loadB_box : loadB P t nm off (some (.box cs)) = loadC [nm] (partE P t cs off) := nr rfl
theorem loadE_ptr : loadE P t H (.ptr nm off) = loadB P t nm off (H nm) := by
  unfold loadE loadB
  dsimp only
  cases ho : H nm with
  | none => rfl
  | some o => cases o with
    | box cs => dsimp only; unfold loadC; cases hp : partE P t cs off <;> rfl
    | tok => rfl
    | map => rfl
    | siter => rfl
    | raw => rfl
theorem loadE_iptr : loadE P t H (.iptr cs) = loadC [] (partE P t cs 0) := by
  unfold loadE loadC qv
  dsimp only
  cases hp : partE P t cs 0 <;> rfl
def storeT (nm off : Nat) (v : PV) (cs : List PV) : Option Ty → Option Res
  | some ty => if v.fit = true ∧ v.cells.length = ty.size ∧ off + ty.size ≤ cs.length ∧ v.cells.all PV.one = true then some ⟨True, .undef, [nm], [(nm, some (.box (setL cs off v.cells)))]⟩ else none
  | none => none
def storeB (P : Program) (t : TypeId) (nm off : Nat) (v : PV) : Option HObj → Option Res
  | some (.box cs) => storeT nm off v cs (tyOf P t)
  | _ => none
theorem storeT_some (ty : Ty) : storeT nm off v cs (some ty) = if v.fit = true ∧ v.cells.length = ty.size ∧ off + ty.size ≤ cs.length ∧ v.cells.all PV.one = true then some ⟨True, .undef, [nm], [(nm, some (.box (setL cs off v.cells)))]⟩ else none := nr rfl
theorem storeB_box : storeB P t nm off v (some (.box cs)) = storeT nm off v cs (tyOf P t) := nr rfl
theorem storeE_ptr : storeE P t H (.ptr nm off) v = storeB P t nm off v (H nm) := by
  unfold storeE storeB
  dsimp only
  cases ho : H nm with
  | none => rfl
  | some o => cases o with
    | box cs => dsimp only; unfold storeT; cases hp : tyOf P t <;> rfl
    | tok => rfl
    | map => rfl
    | siter => rfl
    | raw => rfl
def strJ : Option PV → Option (List PV) → Option (List PV)
  | some q, some qs => some (q :: qs)
  | _, _ => none
theorem strJ_some : strJ (some q) (some qs) = some (q :: qs) := nr rfl
theorem stripL_nil : stripL [] = some [] := nr rfl
theorem stripL_cons : stripL (p :: ps) = strJ (stripC p) (stripL ps) := by
  conv => lhs; unfold stripL
  cases h1 : stripC p with
  | none => rfl
  | some q => cases h2 : stripL ps <;> rfl
def resD' (nm : Nat) : Option (List PV) → Bool → Option (PV × List Nat)
  | some l, true => some (.iptr l, [nm])
  | _, _ => none
def resB (nm off : Nat) : Option HObj → Option (PV × List Nat)
  | some (.box cs) => resD' nm (stripL (cs.drop off)) ((cs.drop off).all PV.one)
  | _ => none
theorem resD'_some : resD' nm (some ps) true = some (.iptr ps, [nm]) := nr rfl
theorem resB_box : resB nm off (some (.box cs)) = resD' nm (stripL (cs.drop off)) ((cs.drop off).all PV.one) := nr rfl
theorem resC_ptr : resC H (.ptr nm off) = resB nm off (H nm) := by
  unfold resC resB
  dsimp only
  cases ho : H nm with
  | none => rfl
  | some o => cases o with
    | box cs =>
      dsimp only
      unfold resD'
      cases h1 : stripL (cs.drop off) with
      | none => rfl
      | some l => cases h2 : (cs.drop off).all PV.one <;> simp
    | tok => rfl
    | map => rfl
    | siter => rfl
    | raw => rfl
theorem resC_bool (b : Bool) : resC H (.bool b) = some (.bool b, []) := nr rfl
theorem resC_int (k : IntKind) (n : Int) : resC H (.int k n) = some (.int k n, []) := nr rfl
theorem resC_str (l : List UInt8) : resC H (.str l) = some (.str l, []) := nr rfl
theorem resC_lit (x : Value) : resC H (.lit x) = some (.lit x, []) := nr rfl
theorem resC_sl (u : Nat) (xs : List (List PV)) : resC H (.sl u xs) = some (.sl 1 xs, []) := nr rfl
theorem resC_iptr : resC H (.iptr cs) = some (.iptr cs, []) := nr rfl
def resJ : Option (PV × List Nat) → Option (List PV × List Nat) → Option (List PV × List Nat)
  | some (q, l), some (qs, ls) => some (q :: qs, l ++ ls)
  | _, _ => none
theorem resJ_some : resJ (some (q, rd)) (some (qs, ls)) = some (q :: qs, rd ++ ls) := nr rfl
theorem resL_nil : resL H [] = some ([], []) := nr rfl
theorem resL_cons : resL H (p :: ps) = resJ (resC H p) (resL H ps) := by
  conv => lhs; unfold resL
  cases h1 : resC H p with
  | none => rfl
  | some x => cases h2 : resL H ps <;> rfl
def argJ (f : Fn) : Option (List PV × List Nat) → Option (List PV × List Nat) → Option (PV × List Nat)
  | some (a, l), some (b, l') => some (.clo f a b, l ++ l')
  | _, _ => none
def argS : Option PV → Option (PV × List Nat)
  | some q => some (q, [])
  | none => none
theorem argJ_some (f : Fn) : argJ f (some (ps, rd)) (some (qs, ls)) = some (.clo f ps qs, rd ++ ls) := nr rfl
theorem argS_some : argS (some q) = some (q, []) := nr rfl
theorem argE_clo (f : Fn) : argE H (.clo f ps qs) = argJ f (resL H ps) (resL H qs) := by
  unfold argE argJ
  dsimp only
  cases h1 : resL H ps with
  | none => rfl
  | some x => cases h2 : resL H qs <;> rfl
theorem argE_ptr : argE H (.ptr nm off) = none := nr rfl
theorem argE_bs (k n m : Nat) : argE H (.bs nm off k n m) = none := nr rfl
theorem argE_mp : argE H (.mp nm) = none := nr rfl
theorem strJ_no (x : Option (List PV)) : strJ none x = none := nr rfl
theorem strJ_no2 (x : Option PV) : strJ x none = none := nr (by cases x <;> rfl)
theorem resD'_no (b : Bool) : resD' nm none b = none := nr rfl
theorem argJ_no (f : Fn) (x : Option (List PV × List Nat)) : argJ f none x = none := nr rfl
theorem argJ_no2 (f : Fn) (x : Option (List PV × List Nat)) : argJ f x none = none := nr (by cases x <;> rfl)
theorem resJ_no (x : Option (List PV × List Nat)) : resJ none x = none := nr rfl
theorem resJ_no2 (x : Option (PV × List Nat)) : resJ x none = none := nr (by cases x <;> rfl)
theorem convO_bs (s d k n m : Nat) : convO P s d H (.bs nm off k n m) = convB P s d nm off n (H nm) := nr rfl
/-! What is returned. -/
def endJ : Option PV → Option (List PV) → Option (List PV)
  | some q, some qs => some (q :: qs)
  | _, _ => none
theorem endJ_some : endJ (some q) (some qs) = some (q :: qs) := nr rfl
theorem endL_nil : endL H [] = some [] := nr rfl
theorem endL_cons : endL H (p :: ps) = endJ (end1 H p) (endL H ps) := by
  conv => lhs; unfold endL
  cases h1 : end1 H p with
  | none => rfl
  | some q => cases h2 : endL H ps <;> rfl
def endT' : Option (List PV) → Option PV
  | some l => some (.tup l)
  | none => none
theorem endT'_some : endT' (some ps) = some (.tup ps) := nr rfl
theorem endE_tup : endE H (.tup ps) = endT' (endL H ps) := by
  show (match endL H ps with
    | some l => some (PV.tup l)
    | none => none) = _
  unfold endT'
  cases endL H ps <;> rfl
theorem endE_bool (b : Bool) : endE H (.bool b) = some (.bool b) := nr rfl
theorem endE_int (k : IntKind) (n : Int) : endE H (.int k n) = some (.int k n) := nr rfl
theorem endE_str (l : List UInt8) : endE H (.str l) = some (.str l) := nr rfl
theorem endE_lit (x : Value) : endE H (.lit x) = some (.lit x) := nr rfl
theorem endE_sl (u : Nat) (xs : List (List PV)) : endE H (.sl u xs) = some (.sl 1 xs) := nr rfl
theorem endE_iptr : endE H (.iptr cs) = some (.iptr cs) := nr rfl
theorem endE_agg : endE H (.agg cs) = strip1 (.agg cs) := nr rfl
theorem endE_clo (f : Fn) : endE H (.clo f ps qs) = strip1 (.clo f ps qs) := nr rfl
theorem endE_bs (k n m : Nat) : endE H (.bs nm off k n m) = endB off k n (H nm) := nr rfl
theorem end1_bool (b : Bool) : end1 H (.bool b) = some (.bool b) := nr rfl
theorem end1_int (k : IntKind) (n : Int) : end1 H (.int k n) = some (.int k n) := nr rfl
theorem end1_str (l : List UInt8) : end1 H (.str l) = some (.str l) := nr rfl
theorem end1_lit (x : Value) : end1 H (.lit x) = some (.lit x) := nr rfl
theorem end1_sl (u : Nat) (xs : List (List PV)) : end1 H (.sl u xs) = some (.sl 1 xs) := nr rfl
theorem end1_iptr : end1 H (.iptr cs) = some (.iptr cs) := nr rfl
theorem end1_agg : end1 H (.agg cs) = strip1 (.agg cs) := nr rfl
theorem end1_clo (f : Fn) : end1 H (.clo f ps qs) = strip1 (.clo f ps qs) := nr rfl
theorem end1_bs (k n m : Nat) : end1 H (.bs nm off k n m) = endB off k n (H nm) := nr rfl
theorem argE_bool (b : Bool) : argE H (.bool b) = some (.bool b, []) := nr rfl
theorem argE_int (k : IntKind) (n : Int) : argE H (.int k n) = some (.int k n, []) := nr rfl
theorem argE_str (l : List UInt8) : argE H (.str l) = some (.str l, []) := nr rfl
theorem argE_lit (x : Value) : argE H (.lit x) = some (.lit x, []) := nr rfl
theorem argE_sl (u : Nat) (xs : List (List PV)) : argE H (.sl u xs) = some (.sl 1 xs, []) := nr rfl
theorem argE_iptr : argE H (.iptr cs) = some (.iptr cs, []) := nr rfl
theorem argE_agg : argE H (.agg cs) = argS ((stripL cs).map .agg) := nr rfl
theorem argsE_nil : argsE H [] = some ([], []) := nr rfl
theorem argsE_cons : argsE H (p :: ps) = resJ (argE H p) (argsE H ps) := by
  conv => lhs; unfold argsE
  cases h1 : argE H p with
  | none => rfl
  | some x => cases h2 : argsE H ps <;> rfl
end
end Go.Proofs.YtgagnohelibaoaaDoor
