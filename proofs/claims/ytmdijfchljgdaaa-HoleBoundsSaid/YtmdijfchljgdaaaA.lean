import Derived.Test.YtmdijfchljgdaaaI
import Derived.Test.YtmdijfchljgdaaaHb
/-! Holes in a box. -/
set_option linter.unusedSimpArgs false
set_option linter.unusedVariables false
set_option maxHeartbeats 4000000
set_option maxRecDepth 100000
namespace Go.Proofs.Ytmdijfchljgdaaa
open Go.RowKit

def boxH (l : List GHole) : List PV := (l.map GHole.cs).flatten
theorem boxH_len (l : List GHole) : (boxH l).length = l.length * 13 := by
  unfold boxH
  induction l with
  | nil => rfl
  | cons x l ih => simp only [List.map_cons, List.flatten_cons, List.length_append, ih, GHole.cs, List.length_cons, List.length_nil]; omega
def idxAt (p : GHole → Bool) (l : List GHole) : Nat → Nat → Int
  | _, 0 => -1
  | k, n + 1 => if p (l.getD k default) = true then (k : Int) else idxAt p l (k + 1) n
def idxH (p : GHole → Bool) (l : List GHole) : Int := idxAt p l 0 l.length
theorem boxH_at : ∀ {l : List GHole} {k : Nat}, k < l.length → List.take 13 (List.drop (k * 13) (boxH l)) = (l.getD k default).cs
  | [], k, h => by simp at h
  | x :: l, 0, _ => by
    simp only [boxH, List.map_cons, List.flatten_cons, Nat.zero_mul, List.drop_zero]
    exact List.take_left' rfl
  | x :: l, k + 1, h => by
    have := boxH_at (l := l) (k := k) (by simpa using h)
    simp only [boxH, List.map_cons, List.flatten_cons] at this ⊢
    rw [show (k + 1) * 13 = 13 + k * 13 by omega, ← List.drop_drop]
    rw [show List.drop 13 (x.cs ++ (l.map GHole.cs).flatten) = (l.map GHole.cs).flatten from List.drop_left' rfl, this]
    rfl
theorem idx_hit {p : GHole → Bool} {l : List GHole} {k : Nat} (hc : idxH p l = idxAt p l k (l.length - k)) (hk : (k : Int) < l.length) (e : p (l.getD k default) = true) : idxH p l = k := by
  rw [hc, show l.length - k = (l.length - k - 1) + 1 by omega]
  exact if_pos e
theorem idx_miss {p : GHole → Bool} {l : List GHole} {k : Nat} (hc : idxH p l = idxAt p l k (l.length - k)) (hk : (k : Int) < l.length) (e : p (l.getD k default) = false) : idxH p l = idxAt p l (k + 1) (l.length - (k + 1)) := by
  rw [hc, show l.length - k = (l.length - (k + 1)) + 1 by omega]
  exact if_neg (by rw [e]; simp)
theorem idx_end {p : GHole → Bool} {l : List GHole} {k : Nat} (hc : idxH p l = idxAt p l k (l.length - k)) (hk : (l.length : Int) ≤ k) : idxH p l = -1 := by
  rw [hc, show l.length - k = 0 by omega]
  rfl
def overP (now : Int) (x : GHole) : Bool := decide (x.dead ≤ now)
theorem over_to (now : Int) (x : GHole) : CallsTo Try.prog 30 [.int .i64 now, .agg x.cs] (.bool (overP now x)) [] := by
  refine callsTo_of mixed Try.func30 rfl Try.ntmps30 Try.results30 (by kernel_rfl) (by kernel_rfl) (by simp) [] ?_
  simp only [↓Wd0, Wr0, Wr1, opnds, ofVal, ofValC, PV.cells, PV.one, PV.fit, partE, setL, pickE, intE, strE, eqC, eqCs, kindOK, aggEqE, binE, unaE, convE, fieldE, faddrE, iaddrE, indexE, loE, sliceE, nilE, fillP, buildE, elemsE, bslE, lenE, appE, stripC, strip1, strip1L, strip, tupV, resV, convT, convN, sliceB, sliceA, sliceO, convB, clearE, appB, lookE, insE, keyOK, reduceCtorEq, ↓reduceIte, Nat.reduceAdd, Nat.reduceMul, Nat.reduceSub, Nat.reduceEqDiff, Nat.reduceLeDiff, Nat.reduceBEq, Int.reduceToNat, Nat.reduceLT, Int.reduceBEq, Int.reduceBNe, Int.reduceLT, Int.reduceLE, Int.reduceGT, Int.reduceGE, UInt8.reduceToNat, Int.reduceNeg, Int.reduceAdd, Int.reduceSub, Wt]
  try simp only [GHole.cs, ↓Wd0, Wr0, Wr1, opnds, ofVal, ofValC, PV.cells, PV.one, PV.fit, partE, setL, pickE, intE, strE, eqC, eqCs, kindOK, aggEqE, binE, unaE, convE, fieldE, faddrE, iaddrE, indexE, loE, sliceE, nilE, fillP, buildE, elemsE, bslE, lenE, appE, stripC, strip1, strip1L, strip, tupV, resV, convT, convN, sliceB, sliceA, sliceO, convB, clearE, appB, lookE, insE, keyOK, reduceCtorEq, ↓reduceIte, Nat.reduceAdd, Nat.reduceMul, Nat.reduceSub, Nat.reduceEqDiff, Nat.reduceLeDiff, Nat.reduceBEq, Int.reduceToNat, Nat.reduceLT, Int.reduceBEq, Int.reduceBNe, Int.reduceLT, Int.reduceLE, Int.reduceGT, Int.reduceGE, UInt8.reduceToNat, Int.reduceNeg, Int.reduceAdd, Int.reduceSub, Wt]
  rfl
def hasP (sess : Int) (x : GHole) : Bool := x.sess == sess
theorem has_to (sess : Int) (x : GHole) : CallsTo Try.prog 35 [.int .i64 sess, .agg x.cs] (.bool (hasP sess x)) [] := by
  refine callsTo_of mixed Try.func35 rfl Try.ntmps35 Try.results35 (by kernel_rfl) (by kernel_rfl) (by simp) [] ?_
  simp only [↓Wd0, Wr0, Wr1, opnds, ofVal, ofValC, PV.cells, PV.one, PV.fit, partE, setL, pickE, intE, strE, eqC, eqCs, kindOK, aggEqE, binE, unaE, convE, fieldE, faddrE, iaddrE, indexE, loE, sliceE, nilE, fillP, buildE, elemsE, bslE, lenE, appE, stripC, strip1, strip1L, strip, tupV, resV, convT, convN, sliceB, sliceA, sliceO, convB, clearE, appB, lookE, insE, keyOK, reduceCtorEq, ↓reduceIte, Nat.reduceAdd, Nat.reduceMul, Nat.reduceSub, Nat.reduceEqDiff, Nat.reduceLeDiff, Nat.reduceBEq, Int.reduceToNat, Nat.reduceLT, Int.reduceBEq, Int.reduceBNe, Int.reduceLT, Int.reduceLE, Int.reduceGT, Int.reduceGE, UInt8.reduceToNat, Int.reduceNeg, Int.reduceAdd, Int.reduceSub, Wt]
  try simp only [GHole.cs, ↓Wd0, Wr0, Wr1, opnds, ofVal, ofValC, PV.cells, PV.one, PV.fit, partE, setL, pickE, intE, strE, eqC, eqCs, kindOK, aggEqE, binE, unaE, convE, fieldE, faddrE, iaddrE, indexE, loE, sliceE, nilE, fillP, buildE, elemsE, bslE, lenE, appE, stripC, strip1, strip1L, strip, tupV, resV, convT, convN, sliceB, sliceA, sliceO, convB, clearE, appB, lookE, insE, keyOK, reduceCtorEq, ↓reduceIte, Nat.reduceAdd, Nat.reduceMul, Nat.reduceSub, Nat.reduceEqDiff, Nat.reduceLeDiff, Nat.reduceBEq, Int.reduceToNat, Nat.reduceLT, Int.reduceBEq, Int.reduceBNe, Int.reduceLT, Int.reduceLE, Int.reduceGT, Int.reduceGE, UInt8.reduceToNat, Int.reduceNeg, Int.reduceAdd, Int.reduceSub, Wt]
  rfl
theorem endI_int {nb N0 : Nat} {H0 H : Nat → Option HObj} {hn : List Nat} {k : IntKind} {v w : Int} (hv : v = w) (hold : ∀ m, m < N0 → H m = H0 m) : EndI (some [.int k v]) (.int k w) [] H0 H nb N0 hn := by
  subst hv
  exact ⟨_, fun _ => 0, rfl, rfl, trivial, fun m hm _ _ => hold m hm, fun x hx => by simp at hx, fun x hx => by simp at hx⟩
theorem indexB (g : Nat) (v : Int) (p : GHole → Bool) (hp : ∀ x, CallsTo Try.prog g [.int .i64 v, .agg x.cs] (.bool (p x)) []) (nm : Nat) (l : List GHole) (hl : l.length ≤ 1000000) : InTo Try.prog 31 [.bs nm 0 13 l.length l.length, .clo (.func g) [.int .i64 v] []] [(nm, .box (boxH l))] (fun _ => .int .i64 (idxH p l)) (fun _ => []) := by
  refine inTo_of mixed Try.func31 rfl Try.ntmps31 Try.results31 (by kernel_rfl) (by kernel_rfl) (by simp) (by simp) [] (fun H0 N0 nb hH0 hN0 => ?_)
  have hbox : H0 nm = some (.box (boxH l)) := (hH0 (nm, .box (boxH l)) (by simp)).1
  have hnmN : nm < N0 := (hH0 (nm, .box (boxH l)) (by simp)).2.1
  try simp only [hbox, ↓Wd0, Wr0, Wr1, opnds, ofVal, ofValC, PV.cells, PV.one, PV.fit, partE, setL, pickE, intE, strE, eqC, eqCs, kindOK, aggEqE, binE, unaE, convE, fieldE, faddrE, iaddrE, indexE, loE, sliceE, nilE, fillP, buildE, elemsE, bslE, lenE, appE, stripC, strip1, strip1L, strip, tupV, resV, convT, convN, sliceB, sliceA, sliceO, convB, clearE, appB, lookE, insE, keyOK, reduceCtorEq, ↓reduceIte, Nat.reduceAdd, Nat.reduceMul, Nat.reduceSub, Nat.reduceEqDiff, Nat.reduceLeDiff, Nat.reduceBEq, Int.reduceToNat, Nat.reduceLT, Int.reduceBEq, Int.reduceBNe, Int.reduceLT, Int.reduceLE, Int.reduceGT, Int.reduceGE, UInt8.reduceToNat, Int.reduceNeg, Int.reduceAdd, Int.reduceSub, Wt]
  refine loopD (M := []) mixed (by kernel_rfl) [4, 5, 8, 9, 10, 11, 12, 13, 14, 15, 16, 17, 18] (by kernel_rfl) (fun n f H N => ∃ k : Nat, k ≤ l.length ∧ f 8 = .int .i64 k ∧ n = l.length - k ∧ (∀ m, m < N0 → H m = H0 m) ∧ idxH p l = idxAt p l k (l.length - k)) ⟨_, 0, by omega, rfl, rfl, fun _ _ => rfl, rfl⟩ ?_
  rintro n f H N ⟨k, hk, hf, rfl, hold, hc⟩
  have hb2 : H nm = some (.box (boxH l)) := (hold nm hnmN).trans hbox
  try simp (disch := omega) only [hf, hb2, ne_far, ne_far', ne_at, ne_at', far_far, far_at, at_far, lt_far, ↓Wd0, Wr0, Wr1, opnds, ofVal, ofValC, PV.cells, PV.one, PV.fit, partE, setL, pickE, intE, strE, eqC, eqCs, kindOK, aggEqE, binE, unaE, convE, fieldE, faddrE, iaddrE, indexE, loE, sliceE, nilE, fillP, buildE, elemsE, bslE, lenE, appE, stripC, strip1, strip1L, strip, tupV, resV, convT, convN, sliceB, sliceA, sliceO, convB, clearE, appB, lookE, insE, keyOK, reduceCtorEq, ↓reduceIte, Nat.reduceAdd, Nat.reduceMul, Nat.reduceSub, Nat.reduceEqDiff, Nat.reduceLeDiff, Nat.reduceBEq, Int.reduceToNat, Nat.reduceLT, Int.reduceBEq, Int.reduceBNe, Int.reduceLT, Int.reduceLE, Int.reduceGT, Int.reduceGE, UInt8.reduceToNat, Int.reduceNeg, Int.reduceAdd, Int.reduceSub, Wt]
  refine ifD (fun hb => ?_) (fun hb => ?_)
  · have hb' : (k : Int) < l.length := of_decide_eq_true hb
    have e0 : 0 + k * 13 = k * 13 := by omega
    have e0' : 0 + (k * 13 + 13) = k * 13 + 13 := by omega
    have e1 : (k * 13 + 13 ≤ (boxH l).length) = True := eq_true (by rw [boxH_len]; omega)
    have e2 := boxH_at (l := l) (k := k) (by omega)
    have ew := wrap_succ (k := k) (by omega)
    try simp (disch := omega) only [hf, hb2, e1, e0, e0', e2, if_true, GHole.cs, ne_far, ne_far', ne_at, ne_at', far_far, far_at, at_far, lt_far, ↓Wd0, Wr0, Wr1, opnds, ofVal, ofValC, PV.cells, PV.one, PV.fit, partE, setL, pickE, intE, strE, eqC, eqCs, kindOK, aggEqE, binE, unaE, convE, fieldE, faddrE, iaddrE, indexE, loE, sliceE, nilE, fillP, buildE, elemsE, bslE, lenE, appE, stripC, strip1, strip1L, strip, tupV, resV, convT, convN, sliceB, sliceA, sliceO, convB, clearE, appB, lookE, insE, keyOK, reduceCtorEq, ↓reduceIte, Nat.reduceAdd, Nat.reduceMul, Nat.reduceSub, Nat.reduceEqDiff, Nat.reduceLeDiff, Nat.reduceBEq, Int.reduceToNat, Nat.reduceLT, Int.reduceBEq, Int.reduceBNe, Int.reduceLT, Int.reduceLE, Int.reduceGT, Int.reduceGE, UInt8.reduceToNat, Int.reduceNeg, Int.reduceAdd, Int.reduceSub, Wt]
    refine ⟨by omega, ?_⟩
    refine calD (hp (l.getD k default)) ?_
    try simp (disch := omega) only [hf, hb2, ne_far, ne_far', ne_at, ne_at', far_far, far_at, at_far, lt_far, ↓Wd0, Wr0, Wr1, opnds, ofVal, ofValC, PV.cells, PV.one, PV.fit, partE, setL, pickE, intE, strE, eqC, eqCs, kindOK, aggEqE, binE, unaE, convE, fieldE, faddrE, iaddrE, indexE, loE, sliceE, nilE, fillP, buildE, elemsE, bslE, lenE, appE, stripC, strip1, strip1L, strip, tupV, resV, convT, convN, sliceB, sliceA, sliceO, convB, clearE, appB, lookE, insE, keyOK, reduceCtorEq, ↓reduceIte, Nat.reduceAdd, Nat.reduceMul, Nat.reduceSub, Nat.reduceEqDiff, Nat.reduceLeDiff, Nat.reduceBEq, Int.reduceToNat, Nat.reduceLT, Int.reduceBEq, Int.reduceBNe, Int.reduceLT, Int.reduceLE, Int.reduceGT, Int.reduceGE, UInt8.reduceToNat, Int.reduceNeg, Int.reduceAdd, Int.reduceSub, Wt]
    refine ifD (fun hb => ?_) (fun hb => ?_)
    · try simp (disch := omega) only [hf, hb2, ne_far, ne_far', ne_at, ne_at', far_far, far_at, at_far, lt_far, ↓Wd0, Wr0, Wr1, opnds, ofVal, ofValC, PV.cells, PV.one, PV.fit, partE, setL, pickE, intE, strE, eqC, eqCs, kindOK, aggEqE, binE, unaE, convE, fieldE, faddrE, iaddrE, indexE, loE, sliceE, nilE, fillP, buildE, elemsE, bslE, lenE, appE, stripC, strip1, strip1L, strip, tupV, resV, convT, convN, sliceB, sliceA, sliceO, convB, clearE, appB, lookE, insE, keyOK, reduceCtorEq, ↓reduceIte, Nat.reduceAdd, Nat.reduceMul, Nat.reduceSub, Nat.reduceEqDiff, Nat.reduceLeDiff, Nat.reduceBEq, Int.reduceToNat, Nat.reduceLT, Int.reduceBEq, Int.reduceBNe, Int.reduceLT, Int.reduceLE, Int.reduceGT, Int.reduceGE, UInt8.reduceToNat, Int.reduceNeg, Int.reduceAdd, Int.reduceSub, Wt]
      exact endI_int (idx_hit hc hb' hb).symm hold
    · try simp (disch := omega) only [hf, hb2, ne_far, ne_far', ne_at, ne_at', far_far, far_at, at_far, lt_far, ↓Wd0, Wr0, Wr1, opnds, ofVal, ofValC, PV.cells, PV.one, PV.fit, partE, setL, pickE, intE, strE, eqC, eqCs, kindOK, aggEqE, binE, unaE, convE, fieldE, faddrE, iaddrE, indexE, loE, sliceE, nilE, fillP, buildE, elemsE, bslE, lenE, appE, stripC, strip1, strip1L, strip, tupV, resV, convT, convN, sliceB, sliceA, sliceO, convB, clearE, appB, lookE, insE, keyOK, reduceCtorEq, ↓reduceIte, Nat.reduceAdd, Nat.reduceMul, Nat.reduceSub, Nat.reduceEqDiff, Nat.reduceLeDiff, Nat.reduceBEq, Int.reduceToNat, Nat.reduceLT, Int.reduceBEq, Int.reduceBNe, Int.reduceLT, Int.reduceLE, Int.reduceGT, Int.reduceGE, UInt8.reduceToNat, Int.reduceNeg, Int.reduceAdd, Int.reduceSub, Wt]
      exact ⟨_, by omega, k + 1, by omega, ew, rfl, hold, idx_miss hc hb' hb⟩
  · try simp (disch := omega) only [hf, hb2, ne_far, ne_far', ne_at, ne_at', far_far, far_at, at_far, lt_far, ↓Wd0, Wr0, Wr1, opnds, ofVal, ofValC, PV.cells, PV.one, PV.fit, partE, setL, pickE, intE, strE, eqC, eqCs, kindOK, aggEqE, binE, unaE, convE, fieldE, faddrE, iaddrE, indexE, loE, sliceE, nilE, fillP, buildE, elemsE, bslE, lenE, appE, stripC, strip1, strip1L, strip, tupV, resV, convT, convN, sliceB, sliceA, sliceO, convB, clearE, appB, lookE, insE, keyOK, reduceCtorEq, ↓reduceIte, Nat.reduceAdd, Nat.reduceMul, Nat.reduceSub, Nat.reduceEqDiff, Nat.reduceLeDiff, Nat.reduceBEq, Int.reduceToNat, Nat.reduceLT, Int.reduceBEq, Int.reduceBNe, Int.reduceLT, Int.reduceLE, Int.reduceGT, Int.reduceGE, UInt8.reduceToNat, Int.reduceNeg, Int.reduceAdd, Int.reduceSub, Wt]
    exact endI_int (idx_end hc (by have := of_decide_eq_false hb; omega)).symm hold
end Go.Proofs.Ytmdijfchljgdaaa
