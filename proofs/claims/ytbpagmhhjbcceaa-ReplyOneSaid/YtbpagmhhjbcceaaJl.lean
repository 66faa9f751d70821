import Derived.Test.YtbpagmhhjbcceaaJk
/-! One line, and more. -/
set_option linter.unusedSimpArgs false
set_option linter.unusedVariables false
set_option maxHeartbeats 4000000
set_option maxRecDepth 100000
namespace Go.Proofs.Ytbpagmhhjbcceaa
open Go.RowKit

theorem one_to (r : GReply) (kr : r.ok) : CallsTo Try.prog 5 [.agg r.cs] (.bool true) [] := by
  obtain ⟨_, hr1, hr2⟩ := kr
  refine callsTo_of mixed Try.func5 rfl Try.ntmps5 Try.results5 (by kernel_rfl) (by kernel_rfl) (by simp) [] ?_
  simp only [↓Wd0, Wr0, Wr1, opnds, ofVal, ofValC, PV.cells, PV.one, PV.fit, partE, setL, pickE, intE, strE, eqC, eqCs, kindOK, aggEqE, binE, unaE, convE, fieldE, faddrE, iaddrE, indexE, loE, sliceE, nilE, fillP, buildE, elemsE, bslE, lenE, appE, stripC, strip1, strip1L, strip, tupV, resV, convT, convN, sliceB, sliceA, sliceO, convB, clearE, appB, lookE, insE, keyOK, reduceCtorEq, ↓reduceIte, Nat.reduceAdd, Nat.reduceMul, Nat.reduceSub, Nat.reduceEqDiff, Nat.reduceLeDiff, Nat.reduceBEq, Int.reduceToNat, Nat.reduceLT, Int.reduceBEq, Int.reduceBNe, Int.reduceLT, Int.reduceLE, Int.reduceGT, Int.reduceGE, UInt8.reduceToNat, Int.reduceNeg, Int.reduceAdd, Int.reduceSub, Wt]
  refine calD awake_to ?_
  try simp only [GReply.cs, ↓Wd0, Wr0, Wr1, opnds, ofVal, ofValC, PV.cells, PV.one, PV.fit, partE, setL, pickE, intE, strE, eqC, eqCs, kindOK, aggEqE, binE, unaE, convE, fieldE, faddrE, iaddrE, indexE, loE, sliceE, nilE, fillP, buildE, elemsE, bslE, lenE, appE, stripC, strip1, strip1L, strip, tupV, resV, convT, convN, sliceB, sliceA, sliceO, convB, clearE, appB, lookE, insE, keyOK, reduceCtorEq, ↓reduceIte, Nat.reduceAdd, Nat.reduceMul, Nat.reduceSub, Nat.reduceEqDiff, Nat.reduceLeDiff, Nat.reduceBEq, Int.reduceToNat, Nat.reduceLT, Int.reduceBEq, Int.reduceBNe, Int.reduceLT, Int.reduceLE, Int.reduceGT, Int.reduceGE, UInt8.reduceToNat, Int.reduceNeg, Int.reduceAdd, Int.reduceSub, Wt]
  refine calD (few_to r.lines hr1) ?_
  try simp only [GReply.cs, ↓Wd0, Wr0, Wr1, opnds, ofVal, ofValC, PV.cells, PV.one, PV.fit, partE, setL, pickE, intE, strE, eqC, eqCs, kindOK, aggEqE, binE, unaE, convE, fieldE, faddrE, iaddrE, indexE, loE, sliceE, nilE, fillP, buildE, elemsE, bslE, lenE, appE, stripC, strip1, strip1L, strip, tupV, resV, convT, convN, sliceB, sliceA, sliceO, convB, clearE, appB, lookE, insE, keyOK, reduceCtorEq, ↓reduceIte, Nat.reduceAdd, Nat.reduceMul, Nat.reduceSub, Nat.reduceEqDiff, Nat.reduceLeDiff, Nat.reduceBEq, Int.reduceToNat, Nat.reduceLT, Int.reduceBEq, Int.reduceBNe, Int.reduceLT, Int.reduceLE, Int.reduceGT, Int.reduceGE, UInt8.reduceToNat, Int.reduceNeg, Int.reduceAdd, Int.reduceSub, Wt]
  refine calD (print_to r hr2 hr1) ?_
  cases hfr : fewB r.lines with
  | false => try simp only [printP, ↓Wd0, Wr0, Wr1, opnds, ofVal, ofValC, PV.cells, PV.one, PV.fit, partE, setL, pickE, intE, strE, eqC, eqCs, kindOK, aggEqE, binE, unaE, convE, fieldE, faddrE, iaddrE, indexE, loE, sliceE, nilE, fillP, buildE, elemsE, bslE, lenE, appE, stripC, strip1, strip1L, strip, tupV, resV, convT, convN, sliceB, sliceA, sliceO, convB, clearE, appB, lookE, insE, keyOK, reduceCtorEq, ↓reduceIte, Nat.reduceAdd, Nat.reduceMul, Nat.reduceSub, Nat.reduceEqDiff, Nat.reduceLeDiff, Nat.reduceBEq, Int.reduceToNat, Nat.reduceLT, Int.reduceBEq, Int.reduceBNe, Int.reduceLT, Int.reduceLE, Int.reduceGT, Int.reduceGE, UInt8.reduceToNat, Int.reduceNeg, Int.reduceAdd, Int.reduceSub, Wt]
  | true =>
  cases hm : mayB r with
  | false =>
    rw [printP, printB_f hm]
    try simp only [GReply.cs, List.length_map, List.map_nil, List.length_nil, ↓Wd0, Wr0, Wr1, opnds, ofVal, ofValC, PV.cells, PV.one, PV.fit, partE, setL, pickE, intE, strE, eqC, eqCs, kindOK, aggEqE, binE, unaE, convE, fieldE, faddrE, iaddrE, indexE, loE, sliceE, nilE, fillP, buildE, elemsE, bslE, lenE, appE, stripC, strip1, strip1L, strip, tupV, resV, convT, convN, sliceB, sliceA, sliceO, convB, clearE, appB, lookE, insE, keyOK, reduceCtorEq, ↓reduceIte, Nat.reduceAdd, Nat.reduceMul, Nat.reduceSub, Nat.reduceEqDiff, Nat.reduceLeDiff, Nat.reduceBEq, Int.reduceToNat, Nat.reduceLT, Int.reduceBEq, Int.reduceBNe, Int.reduceLT, Int.reduceLE, Int.reduceGT, Int.reduceGE, UInt8.reduceToNat, Int.reduceNeg, Int.reduceAdd, Int.reduceSub, Wt]
    refine calD (may_to r hr2 hr1) ?_
    rw [hm]
    try simp only [↓Wd0, Wr0, Wr1, opnds, ofVal, ofValC, PV.cells, PV.one, PV.fit, partE, setL, pickE, intE, strE, eqC, eqCs, kindOK, aggEqE, binE, unaE, convE, fieldE, faddrE, iaddrE, indexE, loE, sliceE, nilE, fillP, buildE, elemsE, bslE, lenE, appE, stripC, strip1, strip1L, strip, tupV, resV, convT, convN, sliceB, sliceA, sliceO, convB, clearE, appB, lookE, insE, keyOK, reduceCtorEq, ↓reduceIte, Nat.reduceAdd, Nat.reduceMul, Nat.reduceSub, Nat.reduceEqDiff, Nat.reduceLeDiff, Nat.reduceBEq, Int.reduceToNat, Nat.reduceLT, Int.reduceBEq, Int.reduceBNe, Int.reduceLT, Int.reduceLE, Int.reduceGT, Int.reduceGE, UInt8.reduceToNat, Int.reduceNeg, Int.reduceAdd, Int.reduceSub, Wt]
  | true =>
  have hp := may_of hm
  have f1 := few_of hfr
  have h20 := hp.2.1
  have hcode := hp.1
  have hpl := printL_len r
  rw [printP, printB_t hm]
  try simp only [GReply.cs, List.length_map, hpl, ↓Wd0, Wr0, Wr1, opnds, ofVal, ofValC, PV.cells, PV.one, PV.fit, partE, setL, pickE, intE, strE, eqC, eqCs, kindOK, aggEqE, binE, unaE, convE, fieldE, faddrE, iaddrE, indexE, loE, sliceE, nilE, fillP, buildE, elemsE, bslE, lenE, appE, stripC, strip1, strip1L, strip, tupV, resV, convT, convN, sliceB, sliceA, sliceO, convB, clearE, appB, lookE, insE, keyOK, reduceCtorEq, ↓reduceIte, Nat.reduceAdd, Nat.reduceMul, Nat.reduceSub, Nat.reduceEqDiff, Nat.reduceLeDiff, Nat.reduceBEq, Int.reduceToNat, Nat.reduceLT, Int.reduceBEq, Int.reduceBNe, Int.reduceLT, Int.reduceLE, Int.reduceGT, Int.reduceGE, UInt8.reduceToNat, Int.reduceNeg, Int.reduceAdd, Int.reduceSub, Wt]
  refine loopD (M := []) mixed (by kernel_rfl) [2, 8, 47, 48, 49, 50, 51, 52, 53, 54, 55, 56, 57, 58, 59, 60, 61, 62, 63, 64, 65, 66, 67, 68, 69, 70, 71] (by kernel_rfl) (fun n f H N => ∃ k : Nat, k ≤ r.lines.length ∧ f 8 = .int .i64 k ∧ n = r.lines.length - k ∧ 8 < N ∧ H 8 = some (.box r.cs)) ⟨_, 0, by omega, rfl, rfl, by omega, rfl⟩ ?_
  rintro n f H N ⟨k, hk, hf, rfl, hN, hH8⟩
  have ewp := wrap_pred (k := r.lines.length) (by omega) (by omega)
  try simp (disch := omega) only [hf, hH8, GReply.cs, List.length_map, hpl, ne_far, ne_far', ne_at, ne_at', far_far, far_at, at_far, lt_far, ↓Wd0, Wr0, Wr1, opnds, ofVal, ofValC, PV.cells, PV.one, PV.fit, partE, setL, pickE, intE, strE, eqC, eqCs, kindOK, aggEqE, binE, unaE, convE, fieldE, faddrE, iaddrE, indexE, loE, sliceE, nilE, fillP, buildE, elemsE, bslE, lenE, appE, stripC, strip1, strip1L, strip, tupV, resV, convT, convN, sliceB, sliceA, sliceO, convB, clearE, appB, lookE, insE, keyOK, reduceCtorEq, ↓reduceIte, Nat.reduceAdd, Nat.reduceMul, Nat.reduceSub, Nat.reduceEqDiff, Nat.reduceLeDiff, Nat.reduceBEq, Int.reduceToNat, Nat.reduceLT, Int.reduceBEq, Int.reduceBNe, Int.reduceLT, Int.reduceLE, Int.reduceGT, Int.reduceGE, UInt8.reduceToNat, Int.reduceNeg, Int.reduceAdd, Int.reduceSub, Wt]
  refine ifD (fun hb => ?_) (fun hb => ?_)
  · have hb' : (k : Int) < r.lines.length := of_decide_eq_true hb
    have ew := wrap_succ (k := k) (by omega)
    have e := getD_map' (l := printL r) (k := k) textE [] [] (by rw [hpl]; exact hb')
    have e' := getD_map' (l := r.lines) (k := k) textE [] [] hb'
    have ho := printL_at (r := r) (i := k) (by omega)
    try simp (disch := omega) only [hf, hH8, e, e', textE, GReply.cs, List.length_map, hpl, ewp, ne_far, ne_far', ne_at, ne_at', far_far, far_at, at_far, lt_far, ↓Wd0, Wr0, Wr1, opnds, ofVal, ofValC, PV.cells, PV.one, PV.fit, partE, setL, pickE, intE, strE, eqC, eqCs, kindOK, aggEqE, binE, unaE, convE, fieldE, faddrE, iaddrE, indexE, loE, sliceE, nilE, fillP, buildE, elemsE, bslE, lenE, appE, stripC, strip1, strip1L, strip, tupV, resV, convT, convN, sliceB, sliceA, sliceO, convB, clearE, appB, lookE, insE, keyOK, reduceCtorEq, ↓reduceIte, Nat.reduceAdd, Nat.reduceMul, Nat.reduceSub, Nat.reduceEqDiff, Nat.reduceLeDiff, Nat.reduceBEq, Int.reduceToNat, Nat.reduceLT, Int.reduceBEq, Int.reduceBNe, Int.reduceLT, Int.reduceLE, Int.reduceGT, Int.reduceGE, UInt8.reduceToNat, Int.reduceNeg, Int.reduceAdd, Int.reduceSub, Wt]
    repeat' (first | (refine ifD (fun hb => ?_) (fun hb => ?_) <;> (try simp only [decide_eq_true_eq, decide_eq_false_iff_not, Int.not_lt, Int.not_le, Bool.not_eq_true', Bool.not_eq_false', beq_iff_eq, beq_eq_false_iff_ne, bne_iff_ne, ne_eq, not_true_eq_false, not_false_eq_true, reduceCtorEq, eq_self] at hb) <;> (try simp (disch := omega) only [hf, hH8, e, e', textE, GReply.cs, List.length_map, hpl, ewp, ne_far, ne_far', ne_at, ne_at', far_far, far_at, at_far, lt_far, ↓Wd0, Wr0, Wr1, opnds, ofVal, ofValC, PV.cells, PV.one, PV.fit, partE, setL, pickE, intE, strE, eqC, eqCs, kindOK, aggEqE, binE, unaE, convE, fieldE, faddrE, iaddrE, indexE, loE, sliceE, nilE, fillP, buildE, elemsE, bslE, lenE, appE, stripC, strip1, strip1L, strip, tupV, resV, convT, convN, sliceB, sliceA, sliceO, convB, clearE, appB, lookE, insE, keyOK, reduceCtorEq, ↓reduceIte, Nat.reduceAdd, Nat.reduceMul, Nat.reduceSub, Nat.reduceEqDiff, Nat.reduceLeDiff, Nat.reduceBEq, Int.reduceToNat, Nat.reduceLT, Int.reduceBEq, Int.reduceBNe, Int.reduceLT, Int.reduceLE, Int.reduceGT, Int.reduceGE, UInt8.reduceToNat, Int.reduceNeg, Int.reduceAdd, Int.reduceSub, Wt])) | (with_reducible apply And.intro)) <;> (try (first | omega | (exfalso; omega) | exact cmp_r (by first | (simp; done) | (simp; omega)) | exact cmp_l (by kernel_rfl)))
    all_goals first | exact ⟨_, by omega, k + 1, by omega, ew, rfl⟩ | (exfalso; have hk2 : (printL r).getD k [] = r.lines.getD k [] := ho.trans (by unfold outAt; rw [if_neg (by omega), if_neg (by omega)]); rw [hk2] at hb; simp at hb)
  · have hkn : k = r.lines.length := by have := of_decide_eq_false hb; omega
    obtain ⟨a, b, c, hd, ha, hb, hc, ev, _⟩ := dig3 (code := r.code) (by omega)
    have e := getD_map' (l := printL r) (k := r.lines.length - 1) textE [] [] (by rw [hpl]; omega)
    have e' := getD_map' (l := r.lines) (k := r.lines.length - 1) textE [] [] (by omega)
    have ho := printL_at (r := r) (i := r.lines.length - 1) (by omega)
    have ho2 : outAt (dig r.code) (r.lines.length - 1) r.lines.length (r.lines.getD (r.lines.length - 1) []) = a :: b :: c :: 32 :: r.lines.getD (r.lines.length - 1) [] := by
      unfold outAt
      rw [if_pos (by omega), hd]
      rfl
    rw [ho2] at ho
    have w1 : IntKind.u8.wrap ((a.toNat : Int) - 48) = (a.toNat : Int) - 48 := IntWalk.u8_in _ (by omega)
    have w2 : IntKind.u8.wrap ((b.toNat : Int) - 48) = (b.toNat : Int) - 48 := IntWalk.u8_in _ (by omega)
    have w3 : IntKind.u8.wrap ((c.toNat : Int) - 48) = (c.toNat : Int) - 48 := IntWalk.u8_in _ (by omega)
    have w4 : IntKind.i64.wrap ((a.toNat : Int) - 48) = (a.toNat : Int) - 48 := IntWalk.i64_in _ (by omega)
    have w5 : IntKind.i64.wrap ((b.toNat : Int) - 48) = (b.toNat : Int) - 48 := IntWalk.i64_in _ (by omega)
    have w6 : IntKind.i64.wrap ((c.toNat : Int) - 48) = (c.toNat : Int) - 48 := IntWalk.i64_in _ (by omega)
    have w7 : IntKind.i64.wrap (100 * ((a.toNat : Int) - 48)) = 100 * ((a.toNat : Int) - 48) := IntWalk.i64_in _ (by omega)
    have w8 : IntKind.i64.wrap (10 * ((b.toNat : Int) - 48)) = 10 * ((b.toNat : Int) - 48) := IntWalk.i64_in _ (by omega)
    have w9 : IntKind.i64.wrap (100 * ((a.toNat : Int) - 48) + 10 * ((b.toNat : Int) - 48)) = 100 * ((a.toNat : Int) - 48) + 10 * ((b.toNat : Int) - 48) := IntWalk.i64_in _ (by omega)
    have w10 : IntKind.i64.wrap (100 * ((a.toNat : Int) - 48) + 10 * ((b.toNat : Int) - 48) + ((c.toNat : Int) - 48)) = r.code := by rw [IntWalk.i64_in _ (by omega)]; exact ev.symm
    have hln := may_line hp (r.lines.length - 1)
    try simp (disch := omega) only [hH8, e, e', ho, textE, GReply.cs, List.length_map, hpl, ewp, w1, w2, w3, w4, w5, w6, w7, w8, w9, w10, beq_self_eq_true, List.take_length, ne_far, ne_far', ne_at, ne_at', far_far, far_at, at_far, lt_far, ↓Wd0, Wr0, Wr1, opnds, ofVal, ofValC, PV.cells, PV.one, PV.fit, partE, setL, pickE, intE, strE, eqC, eqCs, kindOK, aggEqE, binE, unaE, convE, fieldE, faddrE, iaddrE, indexE, loE, sliceE, nilE, fillP, buildE, elemsE, bslE, lenE, appE, stripC, strip1, strip1L, strip, tupV, resV, convT, convN, sliceB, sliceA, sliceO, convB, clearE, appB, lookE, insE, keyOK, reduceCtorEq, ↓reduceIte, Nat.reduceAdd, Nat.reduceMul, Nat.reduceSub, Nat.reduceEqDiff, Nat.reduceLeDiff, Nat.reduceBEq, Int.reduceToNat, Nat.reduceLT, Int.reduceBEq, Int.reduceBNe, Int.reduceLT, Int.reduceLE, Int.reduceGT, Int.reduceGE, UInt8.reduceToNat, Int.reduceNeg, Int.reduceAdd, Int.reduceSub, Wt]
    refine ⟨by omega, by omega, by omega, by omega, by omega, by omega, by omega, ?_⟩
    refine ifD (fun hb1 => ?_) (fun hb1 => ?_)
    · try simp (disch := omega) only [hH8, GReply.cs, ne_far, ne_far', ne_at, ne_at', far_far, far_at, at_far, lt_far, ↓Wd0, Wr0, Wr1, opnds, ofVal, ofValC, PV.cells, PV.one, PV.fit, partE, setL, pickE, intE, strE, eqC, eqCs, kindOK, aggEqE, binE, unaE, convE, fieldE, faddrE, iaddrE, indexE, loE, sliceE, nilE, fillP, buildE, elemsE, bslE, lenE, appE, stripC, strip1, strip1L, strip, tupV, resV, convT, convN, sliceB, sliceA, sliceO, convB, clearE, appB, lookE, insE, keyOK, reduceCtorEq, ↓reduceIte, Nat.reduceAdd, Nat.reduceMul, Nat.reduceSub, Nat.reduceEqDiff, Nat.reduceLeDiff, Nat.reduceBEq, Int.reduceToNat, Nat.reduceLT, Int.reduceBEq, Int.reduceBNe, Int.reduceLT, Int.reduceLE, Int.reduceGT, Int.reduceGE, UInt8.reduceToNat, Int.reduceNeg, Int.reduceAdd, Int.reduceSub, Wt]
    · have h1 : r.lines.length ≠ 1 := by have := beq_eq_false_iff_ne.1 hb1; omega
      have e0 := getD_map' (l := printL r) (k := 0) textE [] [] (by rw [hpl]; omega)
      have e0' := getD_map' (l := r.lines) (k := 0) textE [] [] (by omega)
      have hq := printL_at (r := r) (i := 0) (by omega)
      have hq2 : outAt (dig r.code) 0 r.lines.length (r.lines.getD 0 []) = a :: b :: c :: 45 :: r.lines.getD 0 [] := by
        unfold outAt
        rw [if_neg (by omega), if_pos rfl, hd]
        rfl
      rw [hq2] at hq
      try simp (disch := omega) only [hH8, e0, e0', hq, textE, GReply.cs, List.length_map, hpl, ewp, beq_self_eq_true, List.take_length, ne_far, ne_far', ne_at, ne_at', far_far, far_at, at_far, lt_far, ↓Wd0, Wr0, Wr1, opnds, ofVal, ofValC, PV.cells, PV.one, PV.fit, partE, setL, pickE, intE, strE, eqC, eqCs, kindOK, aggEqE, binE, unaE, convE, fieldE, faddrE, iaddrE, indexE, loE, sliceE, nilE, fillP, buildE, elemsE, bslE, lenE, appE, stripC, strip1, strip1L, strip, tupV, resV, convT, convN, sliceB, sliceA, sliceO, convB, clearE, appB, lookE, insE, keyOK, reduceCtorEq, ↓reduceIte, Nat.reduceAdd, Nat.reduceMul, Nat.reduceSub, Nat.reduceEqDiff, Nat.reduceLeDiff, Nat.reduceBEq, Int.reduceToNat, Nat.reduceLT, Int.reduceBEq, Int.reduceBNe, Int.reduceLT, Int.reduceLE, Int.reduceGT, Int.reduceGE, UInt8.reduceToNat, Int.reduceNeg, Int.reduceAdd, Int.reduceSub, Wt]
      exact ⟨by omega, by omega, by omega, ⟨by omega, by omega⟩, by omega⟩
end Go.Proofs.Ytbpagmhhjbcceaa
