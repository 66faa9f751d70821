import Derived.Test.YtepdcefmkpchgaaJc
/-! Get, Num, and commands that may be. -/
set_option linter.unusedSimpArgs false
set_option linter.unusedVariables false
set_option maxHeartbeats 4000000
set_option maxRecDepth 100000
namespace Go.Proofs.Ytepdcefmkpchgaa
open Go.RowKit

/-- A byte that may be sent. -/
def cleanC (c : UInt8) : Bool := decide (32 ≤ (c.toNat : Int)) && decide ((c.toNat : Int) ≤ 126)
def cleanB (s : List UInt8) : Bool := s.all cleanC
theorem clean_to (s : List UInt8) (hs : s.length ≤ 9223372036854775807) : CallsTo Try.prog 26 [.str s] (.bool (cleanB s)) [] := by
  refine callsTo_of mixed Try.func26 rfl Try.ntmps26 Try.results26 (by kernel_rfl) (by kernel_rfl) (by simp) [] ?_
  simp only [↓Wd0, Wr0, Wr1, opnds, ofVal, ofValC, PV.cells, PV.one, PV.fit, partE, setL, pickE, intE, strE, eqC, eqCs, kindOK, aggEqE, binE, unaE, convE, fieldE, faddrE, iaddrE, indexE, loE, sliceE, nilE, fillP, buildE, elemsE, bslE, lenE, appE, stripC, strip1, strip1L, strip, tupV, resV, convT, convN, sliceB, sliceA, sliceO, convB, clearE, appB, lookE, insE, keyOK, rangeE, reduceCtorEq, ↓reduceIte, Nat.reduceAdd, Nat.reduceMul, Nat.reduceSub, Nat.reduceEqDiff, Nat.reduceLeDiff, Nat.reduceBEq, Int.reduceToNat, Nat.reduceLT, Int.reduceBEq, Int.reduceBNe, Int.reduceLT, Int.reduceLE, Int.reduceGT, Int.reduceGE, UInt8.reduceToNat, Int.reduceNeg, Int.reduceAdd, Int.reduceSub, Wt]
  refine loopD (M := []) mixed (by kernel_rfl) [2, 3, 6, 7, 8, 9, 10, 11, 12, 13, 14, 15, 16, 17, 18, 19] (by kernel_rfl) (fun n f H N => ∃ k : Nat, k ≤ s.length ∧ f 6 = .int .i64 k ∧ n = s.length - k ∧ s.all cleanC = (s.drop k).all cleanC) ⟨_, 0, by omega, rfl, rfl, by simp⟩ ?_
  rintro n f H N ⟨k, hk, hf, rfl, hc⟩
  try simp only [hf, ↓Wd0, Wr0, Wr1, opnds, ofVal, ofValC, PV.cells, PV.one, PV.fit, partE, setL, pickE, intE, strE, eqC, eqCs, kindOK, aggEqE, binE, unaE, convE, fieldE, faddrE, iaddrE, indexE, loE, sliceE, nilE, fillP, buildE, elemsE, bslE, lenE, appE, stripC, strip1, strip1L, strip, tupV, resV, convT, convN, sliceB, sliceA, sliceO, convB, clearE, appB, lookE, insE, keyOK, rangeE, reduceCtorEq, ↓reduceIte, Nat.reduceAdd, Nat.reduceMul, Nat.reduceSub, Nat.reduceEqDiff, Nat.reduceLeDiff, Nat.reduceBEq, Int.reduceToNat, Nat.reduceLT, Int.reduceBEq, Int.reduceBNe, Int.reduceLT, Int.reduceLE, Int.reduceGT, Int.reduceGE, UInt8.reduceToNat, Int.reduceNeg, Int.reduceAdd, Int.reduceSub, Wt]
  repeat' (first | (refine ifD (fun hb => ?_) (fun hb => ?_) <;> (try simp only [decide_eq_true_eq, decide_eq_false_iff_not, Int.not_lt, Int.not_le, Bool.not_eq_true', Bool.not_eq_false', beq_iff_eq, beq_eq_false_iff_ne, bne_iff_ne, ne_eq, not_true_eq_false, not_false_eq_true, reduceCtorEq, eq_self] at hb) <;> (try simp only [hf, ↓Wd0, Wr0, Wr1, opnds, ofVal, ofValC, PV.cells, PV.one, PV.fit, partE, setL, pickE, intE, strE, eqC, eqCs, kindOK, aggEqE, binE, unaE, convE, fieldE, faddrE, iaddrE, indexE, loE, sliceE, nilE, fillP, buildE, elemsE, bslE, lenE, appE, stripC, strip1, strip1L, strip, tupV, resV, convT, convN, sliceB, sliceA, sliceO, convB, clearE, appB, lookE, insE, keyOK, rangeE, reduceCtorEq, ↓reduceIte, Nat.reduceAdd, Nat.reduceMul, Nat.reduceSub, Nat.reduceEqDiff, Nat.reduceLeDiff, Nat.reduceBEq, Int.reduceToNat, Nat.reduceLT, Int.reduceBEq, Int.reduceBNe, Int.reduceLT, Int.reduceLE, Int.reduceGT, Int.reduceGE, UInt8.reduceToNat, Int.reduceNeg, Int.reduceAdd, Int.reduceSub, Wt])) | (with_reducible apply And.intro)) <;> (try (first | omega | (exfalso; omega) | exact cmp_r (by first | (simp; done) | (simp; omega)) | exact cmp_l (by kernel_rfl)))
  · exact (all_no 0 hc (by omega) (bool_and_f (by omega))).symm
  · exact (all_no 0 hc (by omega) (bool_and_f (by omega))).symm
  · exact ⟨_, by omega, k + 1, by omega, wrap_succ (by omega), rfl, all_go 0 hc (by omega) (bool_and_t (by omega) (by omega))⟩
  · exact (all_end hc (by omega)).symm
theorem refclean_to (s : List UInt8) (hs : s.length ≤ 9223372036854775807) : CallsTo Try.prog 33 [.str s] (.bool (cleanB s)) [] := by
  refine callsTo_of mixed Try.func33 rfl Try.ntmps33 Try.results33 (by kernel_rfl) (by kernel_rfl) (by simp) [] ?_
  simp only [↓Wd0, Wr0, Wr1, opnds, ofVal, ofValC, PV.cells, PV.one, PV.fit, partE, setL, pickE, intE, strE, eqC, eqCs, kindOK, aggEqE, binE, unaE, convE, fieldE, faddrE, iaddrE, indexE, loE, sliceE, nilE, fillP, buildE, elemsE, bslE, lenE, appE, stripC, strip1, strip1L, strip, tupV, resV, convT, convN, sliceB, sliceA, sliceO, convB, clearE, appB, lookE, insE, keyOK, rangeE, reduceCtorEq, ↓reduceIte, Nat.reduceAdd, Nat.reduceMul, Nat.reduceSub, Nat.reduceEqDiff, Nat.reduceLeDiff, Nat.reduceBEq, Int.reduceToNat, Nat.reduceLT, Int.reduceBEq, Int.reduceBNe, Int.reduceLT, Int.reduceLE, Int.reduceGT, Int.reduceGE, UInt8.reduceToNat, Int.reduceNeg, Int.reduceAdd, Int.reduceSub, Wt]
  refine loopD (M := []) mixed (by kernel_rfl) [2, 3, 4, 5, 6, 7, 8, 9, 10, 11, 12, 13, 14, 15, 16, 17, 18, 19] (by kernel_rfl) (fun n f H N => ∃ k : Nat, k ≤ s.length ∧ f 3 = .int .i64 k ∧ n = s.length - k ∧ s.all cleanC = (s.drop k).all cleanC) ⟨_, 0, by omega, rfl, rfl, by simp⟩ ?_
  rintro n f H N ⟨k, hk, hf, rfl, hc⟩
  try simp only [hf, ↓Wd0, Wr0, Wr1, opnds, ofVal, ofValC, PV.cells, PV.one, PV.fit, partE, setL, pickE, intE, strE, eqC, eqCs, kindOK, aggEqE, binE, unaE, convE, fieldE, faddrE, iaddrE, indexE, loE, sliceE, nilE, fillP, buildE, elemsE, bslE, lenE, appE, stripC, strip1, strip1L, strip, tupV, resV, convT, convN, sliceB, sliceA, sliceO, convB, clearE, appB, lookE, insE, keyOK, rangeE, reduceCtorEq, ↓reduceIte, Nat.reduceAdd, Nat.reduceMul, Nat.reduceSub, Nat.reduceEqDiff, Nat.reduceLeDiff, Nat.reduceBEq, Int.reduceToNat, Nat.reduceLT, Int.reduceBEq, Int.reduceBNe, Int.reduceLT, Int.reduceLE, Int.reduceGT, Int.reduceGE, UInt8.reduceToNat, Int.reduceNeg, Int.reduceAdd, Int.reduceSub, Wt]
  repeat' (first | (refine ifD (fun hb => ?_) (fun hb => ?_) <;> (try simp only [decide_eq_true_eq, decide_eq_false_iff_not, Int.not_lt, Int.not_le, Bool.not_eq_true', Bool.not_eq_false', beq_iff_eq, beq_eq_false_iff_ne, bne_iff_ne, ne_eq, not_true_eq_false, not_false_eq_true, reduceCtorEq, eq_self] at hb) <;> (try simp only [hf, ↓Wd0, Wr0, Wr1, opnds, ofVal, ofValC, PV.cells, PV.one, PV.fit, partE, setL, pickE, intE, strE, eqC, eqCs, kindOK, aggEqE, binE, unaE, convE, fieldE, faddrE, iaddrE, indexE, loE, sliceE, nilE, fillP, buildE, elemsE, bslE, lenE, appE, stripC, strip1, strip1L, strip, tupV, resV, convT, convN, sliceB, sliceA, sliceO, convB, clearE, appB, lookE, insE, keyOK, rangeE, reduceCtorEq, ↓reduceIte, Nat.reduceAdd, Nat.reduceMul, Nat.reduceSub, Nat.reduceEqDiff, Nat.reduceLeDiff, Nat.reduceBEq, Int.reduceToNat, Nat.reduceLT, Int.reduceBEq, Int.reduceBNe, Int.reduceLT, Int.reduceLE, Int.reduceGT, Int.reduceGE, UInt8.reduceToNat, Int.reduceNeg, Int.reduceAdd, Int.reduceSub, Wt])) | (with_reducible apply And.intro)) <;> (try (first | omega | (exfalso; omega) | exact cmp_r (by first | (simp; done) | (simp; omega)) | exact cmp_l (by kernel_rfl)))
  · exact (all_no 0 hc (by omega) (bool_and_f (by omega))).symm
  · exact (all_no 0 hc (by omega) (bool_and_f (by omega))).symm
  · exact ⟨_, by omega, k + 1, by omega, wrap_succ (by omega), rfl, all_go 0 hc (by omega) (bool_and_t (by omega) (by omega))⟩
  · exact (all_end hc (by omega)).symm


def digits : List UInt8 := [48, 49, 50, 51, 52, 53, 54, 55, 56, 57]
theorem dig_all : ∀ n : Fin 256, Lib.indexByte digits (UInt8.ofNat n.val) = if 48 ≤ n.val ∧ n.val ≤ 57 then (n.val : Int) - 48 else -1 := by decide +kernel
theorem dig_is (c : UInt8) : Lib.indexByte digits c = if 48 ≤ c.toNat ∧ c.toNat ≤ 57 then (c.toNat : Int) - 48 else -1 := by
  have := dig_all ⟨c.toNat, c.toNat_lt⟩
  simpa using this
def getB (s : List UInt8) (most : Int) : Int × Bool :=
  if s = [] ∨ 18 < s.length ∨ (s.getD 0 0 = 48 ∧ 1 < s.length) ∨ s.all digC = false ∨ most < (valN s : Int) then (0, false) else ((valN s : Int), true)
def getP (s : List UInt8) (most : Int) : PV := .tup [.int .i64 (getB s most).1, .bool (getB s most).2]
theorem val_take {s : List UInt8} {k : Nat} (h : (k : Int) < s.length) : valN (s.take (k + 1)) = 10 * valN (s.take k) + ((s.getD k 0).toNat - 48) := by
  rw [take_succ 0 h, valN_app]
theorem all_take {s : List UInt8} {k : Nat} (h : (k : Int) < s.length) (h1 : (s.take k).all digC = true) (h2 : digC (s.getD k 0) = true) : (s.take (k + 1)).all digC = true := by
  rw [take_succ 0 h, List.all_append, h1]
  simp only [List.all_cons, List.all_nil, Bool.and_true, Bool.true_and]
  exact h2
theorem get_no {s : List UInt8} {most : Int} (h : s = [] ∨ 18 < s.length ∨ (s.getD 0 0 = 48 ∧ 1 < s.length) ∨ s.all digC = false ∨ most < (valN s : Int)) : getP s most = .tup [.int .i64 0, .bool false] := by
  unfold getP getB
  rw [if_pos h]
theorem get_yes {s : List UInt8} {most : Int} (h : ¬ (s = [] ∨ 18 < s.length ∨ (s.getD 0 0 = 48 ∧ 1 < s.length) ∨ s.all digC = false ∨ most < (valN s : Int))) : getP s most = .tup [.int .i64 (valN s), .bool true] := by
  unfold getP getB
  rw [if_neg h]
theorem all_no2 {s : List UInt8} {k : Nat} (h : (k : Int) < s.length) (hc : digC (s.getD k 0) = false) : s.all digC = false := by
  rw [List.all_eq_false]
  refine ⟨s.getD k 0, ?_, by rw [hc]; simp⟩
  rw [List.getD_eq_getElem?_getD, List.getElem?_eq_getElem (by omega)]
  exact List.getElem_mem _
theorem val_17 {s : List UInt8} (hl : s.length ≤ 17) (h : s.all digC = true) : valN s < 100000000000000000 := by
  have h1 := valN_lt _ s rfl h
  have h2 : 10 ^ s.length ≤ 10 ^ 17 := Nat.pow_le_pow_right (by omega) hl
  omega
theorem byte_48 {c : UInt8} (h : (c.toNat : Int) = 48) : c = 48 := UInt8.toNat_inj.1 (by
  have : c.toNat = 48 := by omega
  rw [this]; rfl)
theorem byte_48' {c : UInt8} (h : ¬ (c.toNat : Int) = 48) : c ≠ 48 := fun e => h (by rw [e]; rfl)
theorem get_to (s : List UInt8) (most : Int) (hs : s.length ≤ 9223372036854775807) : CallsTo Try.prog 22 [.str s, .int .i64 most] (getP s most) [] := by
  refine callsTo_of mixed Try.func22 rfl Try.ntmps22 Try.results22 (by kernel_rfl) (by kernel_rfl) (by simp) [] ?_
  simp only [↓Wd0, Wr0, Wr1, opnds, ofVal, ofValC, PV.cells, PV.one, PV.fit, partE, setL, pickE, intE, strE, eqC, eqCs, kindOK, aggEqE, binE, unaE, convE, fieldE, faddrE, iaddrE, indexE, loE, sliceE, nilE, fillP, buildE, elemsE, bslE, lenE, appE, stripC, strip1, strip1L, strip, tupV, resV, convT, convN, sliceB, sliceA, sliceO, convB, clearE, appB, lookE, insE, keyOK, rangeE, reduceCtorEq, ↓reduceIte, Nat.reduceAdd, Nat.reduceMul, Nat.reduceSub, Nat.reduceEqDiff, Nat.reduceLeDiff, Nat.reduceBEq, Int.reduceToNat, Nat.reduceLT, Int.reduceBEq, Int.reduceBNe, Int.reduceLT, Int.reduceLE, Int.reduceGT, Int.reduceGE, UInt8.reduceToNat, Int.reduceNeg, Int.reduceAdd, Int.reduceSub, Wt]
  repeat' (first | (refine ifD (fun hb => ?_) (fun hb => ?_) <;> (try simp only [decide_eq_true_eq, decide_eq_false_iff_not, Int.not_lt, Int.not_le, Bool.not_eq_true', Bool.not_eq_false', beq_iff_eq, beq_eq_false_iff_ne, bne_iff_ne, ne_eq, not_true_eq_false, not_false_eq_true, reduceCtorEq, eq_self] at hb) <;> (try simp only [↓Wd0, Wr0, Wr1, opnds, ofVal, ofValC, PV.cells, PV.one, PV.fit, partE, setL, pickE, intE, strE, eqC, eqCs, kindOK, aggEqE, binE, unaE, convE, fieldE, faddrE, iaddrE, indexE, loE, sliceE, nilE, fillP, buildE, elemsE, bslE, lenE, appE, stripC, strip1, strip1L, strip, tupV, resV, convT, convN, sliceB, sliceA, sliceO, convB, clearE, appB, lookE, insE, keyOK, rangeE, reduceCtorEq, ↓reduceIte, Nat.reduceAdd, Nat.reduceMul, Nat.reduceSub, Nat.reduceEqDiff, Nat.reduceLeDiff, Nat.reduceBEq, Int.reduceToNat, Nat.reduceLT, Int.reduceBEq, Int.reduceBNe, Int.reduceLT, Int.reduceLE, Int.reduceGT, Int.reduceGE, UInt8.reduceToNat, Int.reduceNeg, Int.reduceAdd, Int.reduceSub, Wt])) | (with_reducible apply And.intro)) <;> (try (first | omega | (exfalso; omega) | exact cmp_r (by first | (simp; done) | (simp; omega)) | exact cmp_l (by kernel_rfl)))
  · exact (get_no (.inl hb)).symm
  · exact (get_no (.inr (.inl (by omega)))).symm
  · have := List.length_pos_iff.2 (by assumption : ¬ s = [])
    omega
  · rename_i _ _ hb2
    exact (get_no (.inr (.inr (.inl ⟨byte_48 hb2, by omega⟩)))).symm
  · rename_i hne _ _
    have h0 : ¬ (s.getD 0 0 = 48 ∧ 1 < s.length) := fun h => by omega
    have h18 : s.length ≤ 18 := by omega
    refine loopD (M := []) mixed (by kernel_rfl) [4, 5, 6, 7, 8, 28, 29, 30, 31, 32, 33, 34, 35, 36, 37, 38, 39, 40, 41] (by kernel_rfl) (fun n f H N => ∃ k : Nat, k ≤ s.length ∧ f 28 = .int .i64 k ∧ n = s.length - k ∧ f 6 = .int .i64 (valN (s.take k)) ∧ (s.take k).all digC = true) ⟨_, 0, by omega, rfl, rfl, rfl, rfl⟩ ?_
    rintro n f H N ⟨k, hk, hf, rfl, hf6, hall⟩
    try simp only [hf, hf6, ↓Wd0, Wr0, Wr1, opnds, ofVal, ofValC, PV.cells, PV.one, PV.fit, partE, setL, pickE, intE, strE, eqC, eqCs, kindOK, aggEqE, binE, unaE, convE, fieldE, faddrE, iaddrE, indexE, loE, sliceE, nilE, fillP, buildE, elemsE, bslE, lenE, appE, stripC, strip1, strip1L, strip, tupV, resV, convT, convN, sliceB, sliceA, sliceO, convB, clearE, appB, lookE, insE, keyOK, rangeE, reduceCtorEq, ↓reduceIte, Nat.reduceAdd, Nat.reduceMul, Nat.reduceSub, Nat.reduceEqDiff, Nat.reduceLeDiff, Nat.reduceBEq, Int.reduceToNat, Nat.reduceLT, Int.reduceBEq, Int.reduceBNe, Int.reduceLT, Int.reduceLE, Int.reduceGT, Int.reduceGE, UInt8.reduceToNat, Int.reduceNeg, Int.reduceAdd, Int.reduceSub, Wt]
    refine ifD (fun hb => ?_) (fun hb => ?_)
    · have hb' : (k : Int) < s.length := of_decide_eq_true hb
      have ew := wrap_succ (k := k) (by omega)
      have hv := val_17 (s := s.take k) (by simp; omega) hall
      try simp only [hf, hf6, ↓Wd0, Wr0, Wr1, opnds, ofVal, ofValC, PV.cells, PV.one, PV.fit, partE, setL, pickE, intE, strE, eqC, eqCs, kindOK, aggEqE, binE, unaE, convE, fieldE, faddrE, iaddrE, indexE, loE, sliceE, nilE, fillP, buildE, elemsE, bslE, lenE, appE, stripC, strip1, strip1L, strip, tupV, resV, convT, convN, sliceB, sliceA, sliceO, convB, clearE, appB, lookE, insE, keyOK, rangeE, reduceCtorEq, ↓reduceIte, Nat.reduceAdd, Nat.reduceMul, Nat.reduceSub, Nat.reduceEqDiff, Nat.reduceLeDiff, Nat.reduceBEq, Int.reduceToNat, Nat.reduceLT, Int.reduceBEq, Int.reduceBNe, Int.reduceLT, Int.reduceLE, Int.reduceGT, Int.reduceGE, UInt8.reduceToNat, Int.reduceNeg, Int.reduceAdd, Int.reduceSub, Wt]
      refine ⟨by omega, ?_⟩
      refine calD (indexByte_to digits _) ?_
      by_cases hd : digC (s.getD k 0) = true
      · have hd2 := digC_is hd
        have ei : Lib.indexByte digits (s.getD k 0) = ((s.getD k 0).toNat : Int) - 48 := by rw [dig_is, if_pos hd2]
        have ed : decide (((s.getD k 0).toNat : Int) - 48 < 0) = false := decide_eq_false (by omega)
        have w1 : IntKind.i64.wrap (10 * (valN (s.take k) : Int)) = 10 * (valN (s.take k) : Int) := IntWalk.i64_in _ (by omega)
        have w2 : IntKind.i64.wrap (10 * (valN (s.take k) : Int) + (((s.getD k 0).toNat : Int) - 48)) = (valN (s.take (k + 1)) : Int) := by
          rw [IntWalk.i64_in _ (by omega), val_take hb']
          omega
        try simp only [hf, hf6, ei, ed, w1, w2, ↓Wd0, Wr0, Wr1, opnds, ofVal, ofValC, PV.cells, PV.one, PV.fit, partE, setL, pickE, intE, strE, eqC, eqCs, kindOK, aggEqE, binE, unaE, convE, fieldE, faddrE, iaddrE, indexE, loE, sliceE, nilE, fillP, buildE, elemsE, bslE, lenE, appE, stripC, strip1, strip1L, strip, tupV, resV, convT, convN, sliceB, sliceA, sliceO, convB, clearE, appB, lookE, insE, keyOK, rangeE, reduceCtorEq, ↓reduceIte, Nat.reduceAdd, Nat.reduceMul, Nat.reduceSub, Nat.reduceEqDiff, Nat.reduceLeDiff, Nat.reduceBEq, Int.reduceToNat, Nat.reduceLT, Int.reduceBEq, Int.reduceBNe, Int.reduceLT, Int.reduceLE, Int.reduceGT, Int.reduceGE, UInt8.reduceToNat, Int.reduceNeg, Int.reduceAdd, Int.reduceSub, Wt]
        exact ⟨_, by omega, k + 1, by omega, ew, rfl, rfl, all_take hb' hall hd⟩
      · have hd' : digC (s.getD k 0) = false := by simpa using hd
        have hd2 : ¬ (48 ≤ (s.getD k 0).toNat ∧ (s.getD k 0).toNat ≤ 57) := fun h => hd (by unfold digC; rw [decide_eq_true (by omega), decide_eq_true (by omega)]; rfl)
        have ei : Lib.indexByte digits (s.getD k 0) = -1 := by rw [dig_is, if_neg hd2]
        try simp only [hf, hf6, ei, ↓Wd0, Wr0, Wr1, opnds, ofVal, ofValC, PV.cells, PV.one, PV.fit, partE, setL, pickE, intE, strE, eqC, eqCs, kindOK, aggEqE, binE, unaE, convE, fieldE, faddrE, iaddrE, indexE, loE, sliceE, nilE, fillP, buildE, elemsE, bslE, lenE, appE, stripC, strip1, strip1L, strip, tupV, resV, convT, convN, sliceB, sliceA, sliceO, convB, clearE, appB, lookE, insE, keyOK, rangeE, reduceCtorEq, ↓reduceIte, Nat.reduceAdd, Nat.reduceMul, Nat.reduceSub, Nat.reduceEqDiff, Nat.reduceLeDiff, Nat.reduceBEq, Int.reduceToNat, Nat.reduceLT, Int.reduceBEq, Int.reduceBNe, Int.reduceLT, Int.reduceLE, Int.reduceGT, Int.reduceGE, UInt8.reduceToNat, Int.reduceNeg, Int.reduceAdd, Int.reduceSub, Wt]
        exact (get_no (.inr (.inr (.inr (.inl (all_no2 hb' hd')))))).symm
    · have hks : s.take k = s := List.take_of_length_le (by have := of_decide_eq_false hb; omega)
      rw [hks] at hf6 hall
      try simp only [hf, hf6, ↓Wd0, Wr0, Wr1, opnds, ofVal, ofValC, PV.cells, PV.one, PV.fit, partE, setL, pickE, intE, strE, eqC, eqCs, kindOK, aggEqE, binE, unaE, convE, fieldE, faddrE, iaddrE, indexE, loE, sliceE, nilE, fillP, buildE, elemsE, bslE, lenE, appE, stripC, strip1, strip1L, strip, tupV, resV, convT, convN, sliceB, sliceA, sliceO, convB, clearE, appB, lookE, insE, keyOK, rangeE, reduceCtorEq, ↓reduceIte, Nat.reduceAdd, Nat.reduceMul, Nat.reduceSub, Nat.reduceEqDiff, Nat.reduceLeDiff, Nat.reduceBEq, Int.reduceToNat, Nat.reduceLT, Int.reduceBEq, Int.reduceBNe, Int.reduceLT, Int.reduceLE, Int.reduceGT, Int.reduceGE, UInt8.reduceToNat, Int.reduceNeg, Int.reduceAdd, Int.reduceSub, Wt]
      refine ifD (fun hb => ?_) (fun hb => ?_)
      · have hm : (valN s : Int) > most := of_decide_eq_true hb
        try simp only [hf, hf6, ↓Wd0, Wr0, Wr1, opnds, ofVal, ofValC, PV.cells, PV.one, PV.fit, partE, setL, pickE, intE, strE, eqC, eqCs, kindOK, aggEqE, binE, unaE, convE, fieldE, faddrE, iaddrE, indexE, loE, sliceE, nilE, fillP, buildE, elemsE, bslE, lenE, appE, stripC, strip1, strip1L, strip, tupV, resV, convT, convN, sliceB, sliceA, sliceO, convB, clearE, appB, lookE, insE, keyOK, rangeE, reduceCtorEq, ↓reduceIte, Nat.reduceAdd, Nat.reduceMul, Nat.reduceSub, Nat.reduceEqDiff, Nat.reduceLeDiff, Nat.reduceBEq, Int.reduceToNat, Nat.reduceLT, Int.reduceBEq, Int.reduceBNe, Int.reduceLT, Int.reduceLE, Int.reduceGT, Int.reduceGE, UInt8.reduceToNat, Int.reduceNeg, Int.reduceAdd, Int.reduceSub, Wt]
        exact (get_no (.inr (.inr (.inr (.inr hm))))).symm
      · have hm : ¬ (valN s : Int) > most := of_decide_eq_false hb
        try simp only [hf, hf6, ↓Wd0, Wr0, Wr1, opnds, ofVal, ofValC, PV.cells, PV.one, PV.fit, partE, setL, pickE, intE, strE, eqC, eqCs, kindOK, aggEqE, binE, unaE, convE, fieldE, faddrE, iaddrE, indexE, loE, sliceE, nilE, fillP, buildE, elemsE, bslE, lenE, appE, stripC, strip1, strip1L, strip, tupV, resV, convT, convN, sliceB, sliceA, sliceO, convB, clearE, appB, lookE, insE, keyOK, rangeE, reduceCtorEq, ↓reduceIte, Nat.reduceAdd, Nat.reduceMul, Nat.reduceSub, Nat.reduceEqDiff, Nat.reduceLeDiff, Nat.reduceBEq, Int.reduceToNat, Nat.reduceLT, Int.reduceBEq, Int.reduceBNe, Int.reduceLT, Int.reduceLE, Int.reduceGT, Int.reduceGE, UInt8.reduceToNat, Int.reduceNeg, Int.reduceAdd, Int.reduceSub, Wt]
        exact (get_yes (by rintro (h | h | h | h | h) <;> first | omega | exact absurd h hne | exact absurd h h0 | exact absurd (hall.symm.trans h) (by simp))).symm
  · rename_i hne _
    have h0 : ¬ (s.getD 0 0 = 48 ∧ 1 < s.length) := fun h => byte_48' hb h.1
    have h18 : s.length ≤ 18 := by omega
    refine loopD (M := []) mixed (by kernel_rfl) [4, 5, 6, 7, 8, 28, 29, 30, 31, 32, 33, 34, 35, 36, 37, 38, 39, 40, 41] (by kernel_rfl) (fun n f H N => ∃ k : Nat, k ≤ s.length ∧ f 28 = .int .i64 k ∧ n = s.length - k ∧ f 6 = .int .i64 (valN (s.take k)) ∧ (s.take k).all digC = true) ⟨_, 0, by omega, rfl, rfl, rfl, rfl⟩ ?_
    rintro n f H N ⟨k, hk, hf, rfl, hf6, hall⟩
    try simp only [hf, hf6, ↓Wd0, Wr0, Wr1, opnds, ofVal, ofValC, PV.cells, PV.one, PV.fit, partE, setL, pickE, intE, strE, eqC, eqCs, kindOK, aggEqE, binE, unaE, convE, fieldE, faddrE, iaddrE, indexE, loE, sliceE, nilE, fillP, buildE, elemsE, bslE, lenE, appE, stripC, strip1, strip1L, strip, tupV, resV, convT, convN, sliceB, sliceA, sliceO, convB, clearE, appB, lookE, insE, keyOK, rangeE, reduceCtorEq, ↓reduceIte, Nat.reduceAdd, Nat.reduceMul, Nat.reduceSub, Nat.reduceEqDiff, Nat.reduceLeDiff, Nat.reduceBEq, Int.reduceToNat, Nat.reduceLT, Int.reduceBEq, Int.reduceBNe, Int.reduceLT, Int.reduceLE, Int.reduceGT, Int.reduceGE, UInt8.reduceToNat, Int.reduceNeg, Int.reduceAdd, Int.reduceSub, Wt]
    refine ifD (fun hb => ?_) (fun hb => ?_)
    · have hb' : (k : Int) < s.length := of_decide_eq_true hb
      have ew := wrap_succ (k := k) (by omega)
      have hv := val_17 (s := s.take k) (by simp; omega) hall
      try simp only [hf, hf6, ↓Wd0, Wr0, Wr1, opnds, ofVal, ofValC, PV.cells, PV.one, PV.fit, partE, setL, pickE, intE, strE, eqC, eqCs, kindOK, aggEqE, binE, unaE, convE, fieldE, faddrE, iaddrE, indexE, loE, sliceE, nilE, fillP, buildE, elemsE, bslE, lenE, appE, stripC, strip1, strip1L, strip, tupV, resV, convT, convN, sliceB, sliceA, sliceO, convB, clearE, appB, lookE, insE, keyOK, rangeE, reduceCtorEq, ↓reduceIte, Nat.reduceAdd, Nat.reduceMul, Nat.reduceSub, Nat.reduceEqDiff, Nat.reduceLeDiff, Nat.reduceBEq, Int.reduceToNat, Nat.reduceLT, Int.reduceBEq, Int.reduceBNe, Int.reduceLT, Int.reduceLE, Int.reduceGT, Int.reduceGE, UInt8.reduceToNat, Int.reduceNeg, Int.reduceAdd, Int.reduceSub, Wt]
      refine ⟨by omega, ?_⟩
      refine calD (indexByte_to digits _) ?_
      by_cases hd : digC (s.getD k 0) = true
      · have hd2 := digC_is hd
        have ei : Lib.indexByte digits (s.getD k 0) = ((s.getD k 0).toNat : Int) - 48 := by rw [dig_is, if_pos hd2]
        have ed : decide (((s.getD k 0).toNat : Int) - 48 < 0) = false := decide_eq_false (by omega)
        have w1 : IntKind.i64.wrap (10 * (valN (s.take k) : Int)) = 10 * (valN (s.take k) : Int) := IntWalk.i64_in _ (by omega)
        have w2 : IntKind.i64.wrap (10 * (valN (s.take k) : Int) + (((s.getD k 0).toNat : Int) - 48)) = (valN (s.take (k + 1)) : Int) := by
          rw [IntWalk.i64_in _ (by omega), val_take hb']
          omega
        try simp only [hf, hf6, ei, ed, w1, w2, ↓Wd0, Wr0, Wr1, opnds, ofVal, ofValC, PV.cells, PV.one, PV.fit, partE, setL, pickE, intE, strE, eqC, eqCs, kindOK, aggEqE, binE, unaE, convE, fieldE, faddrE, iaddrE, indexE, loE, sliceE, nilE, fillP, buildE, elemsE, bslE, lenE, appE, stripC, strip1, strip1L, strip, tupV, resV, convT, convN, sliceB, sliceA, sliceO, convB, clearE, appB, lookE, insE, keyOK, rangeE, reduceCtorEq, ↓reduceIte, Nat.reduceAdd, Nat.reduceMul, Nat.reduceSub, Nat.reduceEqDiff, Nat.reduceLeDiff, Nat.reduceBEq, Int.reduceToNat, Nat.reduceLT, Int.reduceBEq, Int.reduceBNe, Int.reduceLT, Int.reduceLE, Int.reduceGT, Int.reduceGE, UInt8.reduceToNat, Int.reduceNeg, Int.reduceAdd, Int.reduceSub, Wt]
        exact ⟨_, by omega, k + 1, by omega, ew, rfl, rfl, all_take hb' hall hd⟩
      · have hd' : digC (s.getD k 0) = false := by simpa using hd
        have hd2 : ¬ (48 ≤ (s.getD k 0).toNat ∧ (s.getD k 0).toNat ≤ 57) := fun h => hd (by unfold digC; rw [decide_eq_true (by omega), decide_eq_true (by omega)]; rfl)
        have ei : Lib.indexByte digits (s.getD k 0) = -1 := by rw [dig_is, if_neg hd2]
        try simp only [hf, hf6, ei, ↓Wd0, Wr0, Wr1, opnds, ofVal, ofValC, PV.cells, PV.one, PV.fit, partE, setL, pickE, intE, strE, eqC, eqCs, kindOK, aggEqE, binE, unaE, convE, fieldE, faddrE, iaddrE, indexE, loE, sliceE, nilE, fillP, buildE, elemsE, bslE, lenE, appE, stripC, strip1, strip1L, strip, tupV, resV, convT, convN, sliceB, sliceA, sliceO, convB, clearE, appB, lookE, insE, keyOK, rangeE, reduceCtorEq, ↓reduceIte, Nat.reduceAdd, Nat.reduceMul, Nat.reduceSub, Nat.reduceEqDiff, Nat.reduceLeDiff, Nat.reduceBEq, Int.reduceToNat, Nat.reduceLT, Int.reduceBEq, Int.reduceBNe, Int.reduceLT, Int.reduceLE, Int.reduceGT, Int.reduceGE, UInt8.reduceToNat, Int.reduceNeg, Int.reduceAdd, Int.reduceSub, Wt]
        exact (get_no (.inr (.inr (.inr (.inl (all_no2 hb' hd')))))).symm
    · have hks : s.take k = s := List.take_of_length_le (by have := of_decide_eq_false hb; omega)
      rw [hks] at hf6 hall
      try simp only [hf, hf6, ↓Wd0, Wr0, Wr1, opnds, ofVal, ofValC, PV.cells, PV.one, PV.fit, partE, setL, pickE, intE, strE, eqC, eqCs, kindOK, aggEqE, binE, unaE, convE, fieldE, faddrE, iaddrE, indexE, loE, sliceE, nilE, fillP, buildE, elemsE, bslE, lenE, appE, stripC, strip1, strip1L, strip, tupV, resV, convT, convN, sliceB, sliceA, sliceO, convB, clearE, appB, lookE, insE, keyOK, rangeE, reduceCtorEq, ↓reduceIte, Nat.reduceAdd, Nat.reduceMul, Nat.reduceSub, Nat.reduceEqDiff, Nat.reduceLeDiff, Nat.reduceBEq, Int.reduceToNat, Nat.reduceLT, Int.reduceBEq, Int.reduceBNe, Int.reduceLT, Int.reduceLE, Int.reduceGT, Int.reduceGE, UInt8.reduceToNat, Int.reduceNeg, Int.reduceAdd, Int.reduceSub, Wt]
      refine ifD (fun hb => ?_) (fun hb => ?_)
      · have hm : (valN s : Int) > most := of_decide_eq_true hb
        try simp only [hf, hf6, ↓Wd0, Wr0, Wr1, opnds, ofVal, ofValC, PV.cells, PV.one, PV.fit, partE, setL, pickE, intE, strE, eqC, eqCs, kindOK, aggEqE, binE, unaE, convE, fieldE, faddrE, iaddrE, indexE, loE, sliceE, nilE, fillP, buildE, elemsE, bslE, lenE, appE, stripC, strip1, strip1L, strip, tupV, resV, convT, convN, sliceB, sliceA, sliceO, convB, clearE, appB, lookE, insE, keyOK, rangeE, reduceCtorEq, ↓reduceIte, Nat.reduceAdd, Nat.reduceMul, Nat.reduceSub, Nat.reduceEqDiff, Nat.reduceLeDiff, Nat.reduceBEq, Int.reduceToNat, Nat.reduceLT, Int.reduceBEq, Int.reduceBNe, Int.reduceLT, Int.reduceLE, Int.reduceGT, Int.reduceGE, UInt8.reduceToNat, Int.reduceNeg, Int.reduceAdd, Int.reduceSub, Wt]
        exact (get_no (.inr (.inr (.inr (.inr hm))))).symm
      · have hm : ¬ (valN s : Int) > most := of_decide_eq_false hb
        try simp only [hf, hf6, ↓Wd0, Wr0, Wr1, opnds, ofVal, ofValC, PV.cells, PV.one, PV.fit, partE, setL, pickE, intE, strE, eqC, eqCs, kindOK, aggEqE, binE, unaE, convE, fieldE, faddrE, iaddrE, indexE, loE, sliceE, nilE, fillP, buildE, elemsE, bslE, lenE, appE, stripC, strip1, strip1L, strip, tupV, resV, convT, convN, sliceB, sliceA, sliceO, convB, clearE, appB, lookE, insE, keyOK, rangeE, reduceCtorEq, ↓reduceIte, Nat.reduceAdd, Nat.reduceMul, Nat.reduceSub, Nat.reduceEqDiff, Nat.reduceLeDiff, Nat.reduceBEq, Int.reduceToNat, Nat.reduceLT, Int.reduceBEq, Int.reduceBNe, Int.reduceLT, Int.reduceLE, Int.reduceGT, Int.reduceGE, UInt8.reduceToNat, Int.reduceNeg, Int.reduceAdd, Int.reduceSub, Wt]
        exact (get_yes (by rintro (h | h | h | h | h) <;> first | omega | exact absurd h hne | exact absurd h h0 | exact absurd (hall.symm.trans h) (by simp))).symm
end Go.Proofs.Ytepdcefmkpchgaa
