import Derived.Test.YtmdijfchljgdaaaJc
/-! Match. -/
set_option linter.unusedSimpArgs false
set_option linter.unusedVariables false
set_option maxHeartbeats 4000000
set_option maxRecDepth 100000
namespace Go.Proofs.Ytmdijfchljgdaaa
open Go.RowKit

def peerIs (x : GHole) (q : GHost) : Bool := (x.peer0 == q.a0) && ((x.peer1 == q.a1) && ((x.peer2 == q.a2) && (x.peer3 == q.a3)))
def matchP (port : Int) (q : GHost) (now : Int) (x : GHole) : Bool := (x.port == port) && peerIs x q && !overP now x
theorem u8_cmp (a b : UInt8) : ((a.toNat : Int) == (b.toNat : Int)) = (a == b) := by
  rw [Bool.eq_iff_iff, beq_iff_eq, beq_iff_eq]
  exact ⟨fun h => UInt8.toNat_inj.1 (by omega), fun h => by rw [h]⟩
theorem endI_bool {nb N0 : Nat} {H0 H : Nat → Option HObj} {hn : List Nat} {v w : Bool} (hv : v = w) (hold : ∀ m, m < N0 → H m = H0 m) : EndI (some [.bool v]) (.bool w) [] H0 H nb N0 hn := by
  subst hv
  exact ⟨_, fun _ => 0, rfl, rfl, trivial, fun m hm _ _ => hold m hm, fun x hx => by simp at hx, fun x hx => by simp at hx⟩
theorem match1_in (x : GHole) (port : Int) (q : GHost) (now : Int) (a b c : Nat) (hab : a ≠ b ∧ a ≠ c ∧ b ≠ c) : InTo Try.prog 32 [.agg x.cs, .ptr a 0, .ptr b 0, .ptr c 0] [(a, .box [.int .i64 port]), (b, .box q.cs), (c, .box [.clo (.func 30) [.int .i64 now] []])] (fun _ => .bool (matchP port q now x)) (fun _ => []) := by
  refine inTo_of mixed Try.func32 rfl Try.ntmps32 Try.results32 (by kernel_rfl) (by kernel_rfl) (by simp) (by simp) [] (fun H0 N0 nb hH0 hN0 => ?_)
  have h1 : H0 a = some (.box [.int .i64 port]) := (hH0 (a, .box [.int .i64 port]) (by simp)).1
  have h2 : H0 b = some (.box q.cs) := (hH0 (b, .box q.cs) (by simp)).1
  have h3 : H0 c = some (.box [.clo (.func 30) [.int .i64 now] []]) := (hH0 (c, .box [.clo (.func 30) [.int .i64 now] []]) (by simp)).1
  have k1 : a < N0 := (hH0 (a, .box [.int .i64 port]) (by simp)).2.1
  have k2 : b < N0 := (hH0 (b, .box q.cs) (by simp)).2.1
  have k3 : c < N0 := (hH0 (c, .box [.clo (.func 30) [.int .i64 now] []]) (by simp)).2.1
  try simp (disch := omega) only [h1, h2, h3, GHole.cs, GHost.cs, u8_cmp, ne_far, ne_far', ne_at, ne_at', far_far, far_at, at_far, lt_far, ↓Wd0, Wr0, Wr1, opnds, ofVal, ofValC, PV.cells, PV.one, PV.fit, partE, setL, pickE, intE, strE, eqC, eqCs, kindOK, aggEqE, binE, unaE, convE, fieldE, faddrE, iaddrE, indexE, loE, sliceE, nilE, fillP, buildE, elemsE, bslE, lenE, appE, stripC, strip1, strip1L, strip, tupV, resV, convT, convN, sliceB, sliceA, sliceO, convB, clearE, appB, lookE, insE, keyOK, reduceCtorEq, ↓reduceIte, Nat.reduceAdd, Nat.reduceMul, Nat.reduceSub, Nat.reduceEqDiff, Nat.reduceLeDiff, Nat.reduceBEq, Int.reduceToNat, Nat.reduceLT, Int.reduceBEq, Int.reduceBNe, Int.reduceLT, Int.reduceLE, Int.reduceGT, Int.reduceGE, UInt8.reduceToNat, Int.reduceNeg, Int.reduceAdd, Int.reduceSub, Wt]
  have hold : ∀ o m, m < N0 → upd H0 (N0 + 0) o m = H0 m := fun o m hm => upd_ne _ _ (by omega)
  refine ifD (fun hb => ?_) (fun hb => ?_)
  · try simp (disch := omega) only [h1, h2, h3, GHole.cs, GHost.cs, u8_cmp, ne_far, ne_far', ne_at, ne_at', far_far, far_at, at_far, lt_far, ↓Wd0, Wr0, Wr1, opnds, ofVal, ofValC, PV.cells, PV.one, PV.fit, partE, setL, pickE, intE, strE, eqC, eqCs, kindOK, aggEqE, binE, unaE, convE, fieldE, faddrE, iaddrE, indexE, loE, sliceE, nilE, fillP, buildE, elemsE, bslE, lenE, appE, stripC, strip1, strip1L, strip, tupV, resV, convT, convN, sliceB, sliceA, sliceO, convB, clearE, appB, lookE, insE, keyOK, reduceCtorEq, ↓reduceIte, Nat.reduceAdd, Nat.reduceMul, Nat.reduceSub, Nat.reduceEqDiff, Nat.reduceLeDiff, Nat.reduceBEq, Int.reduceToNat, Nat.reduceLT, Int.reduceBEq, Int.reduceBNe, Int.reduceLT, Int.reduceLE, Int.reduceGT, Int.reduceGE, UInt8.reduceToNat, Int.reduceNeg, Int.reduceAdd, Int.reduceSub, Wt]
    refine ifD (fun hb2 => ?_) (fun hb2 => ?_)
    · try simp (disch := omega) only [h1, h2, h3, GHole.cs, GHost.cs, u8_cmp, ne_far, ne_far', ne_at, ne_at', far_far, far_at, at_far, lt_far, ↓Wd0, Wr0, Wr1, opnds, ofVal, ofValC, PV.cells, PV.one, PV.fit, partE, setL, pickE, intE, strE, eqC, eqCs, kindOK, aggEqE, binE, unaE, convE, fieldE, faddrE, iaddrE, indexE, loE, sliceE, nilE, fillP, buildE, elemsE, bslE, lenE, appE, stripC, strip1, strip1L, strip, tupV, resV, convT, convN, sliceB, sliceA, sliceO, convB, clearE, appB, lookE, insE, keyOK, reduceCtorEq, ↓reduceIte, Nat.reduceAdd, Nat.reduceMul, Nat.reduceSub, Nat.reduceEqDiff, Nat.reduceLeDiff, Nat.reduceBEq, Int.reduceToNat, Nat.reduceLT, Int.reduceBEq, Int.reduceBNe, Int.reduceLT, Int.reduceLE, Int.reduceGT, Int.reduceGE, UInt8.reduceToNat, Int.reduceNeg, Int.reduceAdd, Int.reduceSub, Wt]
      refine calD (over_to now x) ?_
      try simp (disch := omega) only [h1, h2, h3, GHole.cs, GHost.cs, u8_cmp, ne_far, ne_far', ne_at, ne_at', far_far, far_at, at_far, lt_far, ↓Wd0, Wr0, Wr1, opnds, ofVal, ofValC, PV.cells, PV.one, PV.fit, partE, setL, pickE, intE, strE, eqC, eqCs, kindOK, aggEqE, binE, unaE, convE, fieldE, faddrE, iaddrE, indexE, loE, sliceE, nilE, fillP, buildE, elemsE, bslE, lenE, appE, stripC, strip1, strip1L, strip, tupV, resV, convT, convN, sliceB, sliceA, sliceO, convB, clearE, appB, lookE, insE, keyOK, reduceCtorEq, ↓reduceIte, Nat.reduceAdd, Nat.reduceMul, Nat.reduceSub, Nat.reduceEqDiff, Nat.reduceLeDiff, Nat.reduceBEq, Int.reduceToNat, Nat.reduceLT, Int.reduceBEq, Int.reduceBNe, Int.reduceLT, Int.reduceLE, Int.reduceGT, Int.reduceGE, UInt8.reduceToNat, Int.reduceNeg, Int.reduceAdd, Int.reduceSub, Wt]
      exact endI_bool (by unfold matchP; rw [hb, show peerIs x q = true from hb2]; rfl) (hold _)
    · try simp (disch := omega) only [h1, h2, h3, GHole.cs, GHost.cs, u8_cmp, ne_far, ne_far', ne_at, ne_at', far_far, far_at, at_far, lt_far, ↓Wd0, Wr0, Wr1, opnds, ofVal, ofValC, PV.cells, PV.one, PV.fit, partE, setL, pickE, intE, strE, eqC, eqCs, kindOK, aggEqE, binE, unaE, convE, fieldE, faddrE, iaddrE, indexE, loE, sliceE, nilE, fillP, buildE, elemsE, bslE, lenE, appE, stripC, strip1, strip1L, strip, tupV, resV, convT, convN, sliceB, sliceA, sliceO, convB, clearE, appB, lookE, insE, keyOK, reduceCtorEq, ↓reduceIte, Nat.reduceAdd, Nat.reduceMul, Nat.reduceSub, Nat.reduceEqDiff, Nat.reduceLeDiff, Nat.reduceBEq, Int.reduceToNat, Nat.reduceLT, Int.reduceBEq, Int.reduceBNe, Int.reduceLT, Int.reduceLE, Int.reduceGT, Int.reduceGE, UInt8.reduceToNat, Int.reduceNeg, Int.reduceAdd, Int.reduceSub, Wt]
      exact endI_bool (by unfold matchP; rw [hb, show peerIs x q = false from hb2]; rfl) (hold _)
  · try simp (disch := omega) only [h1, h2, h3, GHole.cs, GHost.cs, u8_cmp, ne_far, ne_far', ne_at, ne_at', far_far, far_at, at_far, lt_far, ↓Wd0, Wr0, Wr1, opnds, ofVal, ofValC, PV.cells, PV.one, PV.fit, partE, setL, pickE, intE, strE, eqC, eqCs, kindOK, aggEqE, binE, unaE, convE, fieldE, faddrE, iaddrE, indexE, loE, sliceE, nilE, fillP, buildE, elemsE, bslE, lenE, appE, stripC, strip1, strip1L, strip, tupV, resV, convT, convN, sliceB, sliceA, sliceO, convB, clearE, appB, lookE, insE, keyOK, reduceCtorEq, ↓reduceIte, Nat.reduceAdd, Nat.reduceMul, Nat.reduceSub, Nat.reduceEqDiff, Nat.reduceLeDiff, Nat.reduceBEq, Int.reduceToNat, Nat.reduceLT, Int.reduceBEq, Int.reduceBNe, Int.reduceLT, Int.reduceLE, Int.reduceGT, Int.reduceGE, UInt8.reduceToNat, Int.reduceNeg, Int.reduceAdd, Int.reduceSub, Wt]
    exact endI_bool (by unfold matchP; rw [hb]; rfl) (hold _)
theorem indexM (port : Int) (q : GHost) (now : Int) (a b c : Nat) (hab : a ≠ b ∧ a ≠ c ∧ b ≠ c) (nm : Nat) (hn : nm ≠ a ∧ nm ≠ b ∧ nm ≠ c) (l : List GHole) (hl : l.length ≤ 1000000) : InTo Try.prog 31 [.bs nm 0 13 l.length l.length, .clo (.func 32) [] [.ptr a 0, .ptr b 0, .ptr c 0]] [(nm, .box (boxH l)), (a, .box [.int .i64 port]), (b, .box q.cs), (c, .box [.clo (.func 30) [.int .i64 now] []])] (fun _ => .int .i64 (idxH (matchP port q now) l)) (fun _ => []) := by
  refine inTo_of mixed Try.func31 rfl Try.ntmps31 Try.results31 (by kernel_rfl) (by kernel_rfl) (by simp) (by simp) [] (fun H0 N0 nb hH0 hN0 => ?_)
  have hbox : H0 nm = some (.box (boxH l)) := (hH0 (nm, .box (boxH l)) (by simp)).1
  have hnmN : nm < N0 := (hH0 (nm, .box (boxH l)) (by simp)).2.1
  have g1 : H0 a = some (.box [.int .i64 port]) := (hH0 (a, .box [.int .i64 port]) (by simp)).1
  have g2 : H0 b = some (.box q.cs) := (hH0 (b, .box q.cs) (by simp)).1
  have g3 : H0 c = some (.box [.clo (.func 30) [.int .i64 now] []]) := (hH0 (c, .box [.clo (.func 30) [.int .i64 now] []]) (by simp)).1
  have k1 : a < N0 := (hH0 (a, .box [.int .i64 port]) (by simp)).2.1
  have k2 : b < N0 := (hH0 (b, .box q.cs) (by simp)).2.1
  have k3 : c < N0 := (hH0 (c, .box [.clo (.func 30) [.int .i64 now] []]) (by simp)).2.1
  try simp only [hbox, ↓Wd0, Wr0, Wr1, opnds, ofVal, ofValC, PV.cells, PV.one, PV.fit, partE, setL, pickE, intE, strE, eqC, eqCs, kindOK, aggEqE, binE, unaE, convE, fieldE, faddrE, iaddrE, indexE, loE, sliceE, nilE, fillP, buildE, elemsE, bslE, lenE, appE, stripC, strip1, strip1L, strip, tupV, resV, convT, convN, sliceB, sliceA, sliceO, convB, clearE, appB, lookE, insE, keyOK, reduceCtorEq, ↓reduceIte, Nat.reduceAdd, Nat.reduceMul, Nat.reduceSub, Nat.reduceEqDiff, Nat.reduceLeDiff, Nat.reduceBEq, Int.reduceToNat, Nat.reduceLT, Int.reduceBEq, Int.reduceBNe, Int.reduceLT, Int.reduceLE, Int.reduceGT, Int.reduceGE, UInt8.reduceToNat, Int.reduceNeg, Int.reduceAdd, Int.reduceSub, Wt]
  refine loopD (M := []) mixed (by kernel_rfl) [4, 5, 8, 9, 10, 11, 12, 13, 14, 15, 16, 17, 18] (by kernel_rfl) (fun n f H N => ∃ k : Nat, k ≤ l.length ∧ f 8 = .int .i64 k ∧ n = l.length - k ∧ (∀ m, m < N0 → H m = H0 m) ∧ idxH (matchP port q now) l = idxAt (matchP port q now) l k (l.length - k)) ⟨_, 0, by omega, rfl, rfl, fun _ _ => rfl, rfl⟩ ?_
  rintro n f H N ⟨k, hk, hf, rfl, hold, hc⟩
  have hb2 : H nm = some (.box (boxH l)) := (hold nm hnmN).trans hbox
  have h1 := (hold a k1).trans g1
  have h2 := (hold b k2).trans g2
  have h3 := (hold c k3).trans g3
  try simp (disch := omega) only [hf, hb2, ne_far, ne_far', ne_at, ne_at', far_far, far_at, at_far, lt_far, ↓Wd0, Wr0, Wr1, opnds, ofVal, ofValC, PV.cells, PV.one, PV.fit, partE, setL, pickE, intE, strE, eqC, eqCs, kindOK, aggEqE, binE, unaE, convE, fieldE, faddrE, iaddrE, indexE, loE, sliceE, nilE, fillP, buildE, elemsE, bslE, lenE, appE, stripC, strip1, strip1L, strip, tupV, resV, convT, convN, sliceB, sliceA, sliceO, convB, clearE, appB, lookE, insE, keyOK, reduceCtorEq, ↓reduceIte, Nat.reduceAdd, Nat.reduceMul, Nat.reduceSub, Nat.reduceEqDiff, Nat.reduceLeDiff, Nat.reduceBEq, Int.reduceToNat, Nat.reduceLT, Int.reduceBEq, Int.reduceBNe, Int.reduceLT, Int.reduceLE, Int.reduceGT, Int.reduceGE, UInt8.reduceToNat, Int.reduceNeg, Int.reduceAdd, Int.reduceSub, Wt]
  refine ifD (fun hb => ?_) (fun hb => ?_)
  · have hb' : (k : Int) < l.length := of_decide_eq_true hb
    have e0 : 0 + k * 13 = k * 13 := by omega
    have e0' : 0 + (k * 13 + 13) = k * 13 + 13 := by omega
    have e1 : (k * 13 + 13 ≤ (boxH l).length) = True := eq_true (by rw [boxH_len]; omega)
    have e2 := boxH_at (l := l) (k := k) (by omega)
    have ew := wrap_succ (k := k) (by omega)
    try simp (disch := omega) only [hf, hb2, e1, e0, e0', e2, if_true, GHole.cs, h1, h2, h3, GHost.cs, ne_far, ne_far', ne_at, ne_at', far_far, far_at, at_far, lt_far, ↓Wd0, Wr0, Wr1, opnds, ofVal, ofValC, PV.cells, PV.one, PV.fit, partE, setL, pickE, intE, strE, eqC, eqCs, kindOK, aggEqE, binE, unaE, convE, fieldE, faddrE, iaddrE, indexE, loE, sliceE, nilE, fillP, buildE, elemsE, bslE, lenE, appE, stripC, strip1, strip1L, strip, tupV, resV, convT, convN, sliceB, sliceA, sliceO, convB, clearE, appB, lookE, insE, keyOK, reduceCtorEq, ↓reduceIte, Nat.reduceAdd, Nat.reduceMul, Nat.reduceSub, Nat.reduceEqDiff, Nat.reduceLeDiff, Nat.reduceBEq, Int.reduceToNat, Nat.reduceLT, Int.reduceBEq, Int.reduceBNe, Int.reduceLT, Int.reduceLE, Int.reduceGT, Int.reduceGE, UInt8.reduceToNat, Int.reduceNeg, Int.reduceAdd, Int.reduceSub, Wt]
    refine ⟨by omega, ?_⟩
    refine inD (match1_in (l.getD k default) port q now a b c hab) (fun x hx => ?_) ?_
    · simp only [List.mem_cons, List.not_mem_nil, or_false] at hx
      rcases hx with rfl | rfl | rfl
      · exact h1
      · exact h2
      · exact h3
    try simp (disch := omega) only [hf, hb2, h1, h2, h3, ne_far, ne_far', ne_at, ne_at', far_far, far_at, at_far, lt_far, ↓Wd0, Wr0, Wr1, opnds, ofVal, ofValC, PV.cells, PV.one, PV.fit, partE, setL, pickE, intE, strE, eqC, eqCs, kindOK, aggEqE, binE, unaE, convE, fieldE, faddrE, iaddrE, indexE, loE, sliceE, nilE, fillP, buildE, elemsE, bslE, lenE, appE, stripC, strip1, strip1L, strip, tupV, resV, convT, convN, sliceB, sliceA, sliceO, convB, clearE, appB, lookE, insE, keyOK, reduceCtorEq, ↓reduceIte, Nat.reduceAdd, Nat.reduceMul, Nat.reduceSub, Nat.reduceEqDiff, Nat.reduceLeDiff, Nat.reduceBEq, Int.reduceToNat, Nat.reduceLT, Int.reduceBEq, Int.reduceBNe, Int.reduceLT, Int.reduceLE, Int.reduceGT, Int.reduceGE, UInt8.reduceToNat, Int.reduceNeg, Int.reduceAdd, Int.reduceSub, Wt]
    refine ifD (fun hb => ?_) (fun hb => ?_)
    · try simp (disch := omega) only [hf, hb2, ne_far, ne_far', ne_at, ne_at', far_far, far_at, at_far, lt_far, ↓Wd0, Wr0, Wr1, opnds, ofVal, ofValC, PV.cells, PV.one, PV.fit, partE, setL, pickE, intE, strE, eqC, eqCs, kindOK, aggEqE, binE, unaE, convE, fieldE, faddrE, iaddrE, indexE, loE, sliceE, nilE, fillP, buildE, elemsE, bslE, lenE, appE, stripC, strip1, strip1L, strip, tupV, resV, convT, convN, sliceB, sliceA, sliceO, convB, clearE, appB, lookE, insE, keyOK, reduceCtorEq, ↓reduceIte, Nat.reduceAdd, Nat.reduceMul, Nat.reduceSub, Nat.reduceEqDiff, Nat.reduceLeDiff, Nat.reduceBEq, Int.reduceToNat, Nat.reduceLT, Int.reduceBEq, Int.reduceBNe, Int.reduceLT, Int.reduceLE, Int.reduceGT, Int.reduceGE, UInt8.reduceToNat, Int.reduceNeg, Int.reduceAdd, Int.reduceSub, Wt]
      exact endI_int (idx_hit hc hb' hb).symm hold
    · try simp (disch := omega) only [hf, hb2, ne_far, ne_far', ne_at, ne_at', far_far, far_at, at_far, lt_far, ↓Wd0, Wr0, Wr1, opnds, ofVal, ofValC, PV.cells, PV.one, PV.fit, partE, setL, pickE, intE, strE, eqC, eqCs, kindOK, aggEqE, binE, unaE, convE, fieldE, faddrE, iaddrE, indexE, loE, sliceE, nilE, fillP, buildE, elemsE, bslE, lenE, appE, stripC, strip1, strip1L, strip, tupV, resV, convT, convN, sliceB, sliceA, sliceO, convB, clearE, appB, lookE, insE, keyOK, reduceCtorEq, ↓reduceIte, Nat.reduceAdd, Nat.reduceMul, Nat.reduceSub, Nat.reduceEqDiff, Nat.reduceLeDiff, Nat.reduceBEq, Int.reduceToNat, Nat.reduceLT, Int.reduceBEq, Int.reduceBNe, Int.reduceLT, Int.reduceLE, Int.reduceGT, Int.reduceGE, UInt8.reduceToNat, Int.reduceNeg, Int.reduceAdd, Int.reduceSub, Wt]
      exact ⟨_, by omega, k + 1, by omega, ew, rfl, hold, idx_miss hc hb' hb⟩
  · try simp (disch := omega) only [hf, hb2, ne_far, ne_far', ne_at, ne_at', far_far, far_at, at_far, lt_far, ↓Wd0, Wr0, Wr1, opnds, ofVal, ofValC, PV.cells, PV.one, PV.fit, partE, setL, pickE, intE, strE, eqC, eqCs, kindOK, aggEqE, binE, unaE, convE, fieldE, faddrE, iaddrE, indexE, loE, sliceE, nilE, fillP, buildE, elemsE, bslE, lenE, appE, stripC, strip1, strip1L, strip, tupV, resV, convT, convN, sliceB, sliceA, sliceO, convB, clearE, appB, lookE, insE, keyOK, reduceCtorEq, ↓reduceIte, Nat.reduceAdd, Nat.reduceMul, Nat.reduceSub, Nat.reduceEqDiff, Nat.reduceLeDiff, Nat.reduceBEq, Int.reduceToNat, Nat.reduceLT, Int.reduceBEq, Int.reduceBNe, Int.reduceLT, Int.reduceLE, Int.reduceGT, Int.reduceGE, UInt8.reduceToNat, Int.reduceNeg, Int.reduceAdd, Int.reduceSub, Wt]
    exact endI_int (idx_end hc (by have := of_decide_eq_false hb; omega)).symm hold
end Go.Proofs.Ytmdijfchljgdaaa
