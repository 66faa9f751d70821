import Derived.Test.YtgagnohelibaoaaDoorTab
import Derived.Test.YtgagnohelibaoaaDoorDec
import Derived.Test.YtgagnohelibaoaaDoorI
/-! Verb's functions. -/
set_option linter.unusedSimpArgs false
set_option linter.unusedVariables false
set_option maxHeartbeats 4000000
set_option maxRecDepth 100000
namespace Go.Proofs.YtgagnohelibaoaaDoor
open Go.RowKit

def lowC (c : UInt8) : Bool := decide (97 ≤ (c.toNat : Int)) && decide ((c.toNat : Int) ≤ 122)
def upC (c : UInt8) : UInt8 := if lowC c = true then c - 32 else c
def upB (s : List UInt8) : List UInt8 := s.map upC
def cellU (c : UInt8) : PV := .int .u8 (c.toNat : Int)
def boxU (s : List UInt8) (k : Nat) : List PV := ((s.take k).map upC ++ s.drop k).map cellU
theorem boxU_len (s : List UInt8) (k : Nat) : (boxU s k).length = s.length := by simp [boxU]; omega
theorem boxU_get {s : List UInt8} {k : Nat} (h : k < s.length) : (boxU s k)[k]? = some (cellU (s.getD k 0)) := by
  unfold boxU
  rw [List.getElem?_map, List.getElem?_append_right (by simp; omega)]
  simp [List.getD_eq_getElem?_getD, List.getElem?_eq_getElem h]
  rw [show k - min k s.length = 0 by omega]
  simp [List.getElem?_eq_getElem h]
theorem boxU_zero (s : List UInt8) : boxU s 0 = s.map cellU := by simp [boxU]
theorem boxU_end (s : List UInt8) : boxU s s.length = (upB s).map cellU := by simp [boxU, upB]
theorem boxU_succ {s : List UInt8} {k : Nat} (h : k < s.length) : boxU s (k + 1) = (boxU s k).set k (cellU (upC (s.getD k 0))) := by
  apply List.ext_getElem?
  intro i
  unfold boxU
  rw [List.getElem?_set, List.getElem?_map, List.getElem?_map]
  rcases Nat.lt_trichotomy i k with h1 | h1 | h1
  · rw [if_neg (by omega), List.getElem?_append_left (by simp; omega), List.getElem?_append_left (by simp; omega)]
    simp [List.getElem?_take, h1, show i < k + 1 by omega]
  · subst h1
    rw [if_pos rfl, List.getElem?_append_left (by simp; omega)]
    simp [List.getElem?_take, List.getD_eq_getElem?_getD, List.getElem?_eq_getElem h]
    omega
  · rw [if_neg (by omega), List.getElem?_append_right (by simp; omega), List.getElem?_append_right (by simp; omega)]
    simp [show k + 1 + (i - (k + 1)) = k + (i - k) by omega, Nat.min_eq_left (show k + 1 ≤ s.length by omega), Nat.min_eq_left (show k ≤ s.length by omega)]
theorem up_all : ∀ n : Fin 256, 97 ≤ n.val → n.val ≤ 122 → IntKind.u8.wrap (BitVec.ofInt IntKind.u8.bits (n.val : Int) &&& ~~~ BitVec.ofInt IntKind.u8.bits 32).toNat = ((UInt8.ofNat n.val - 32).toNat : Int) := by decide +kernel
theorem up_is {c : UInt8} (h1 : (97 : Int) ≤ c.toNat) (h2 : (c.toNat : Int) ≤ 122) : IntKind.u8.wrap (BitVec.ofInt IntKind.u8.bits (c.toNat : Int) &&& ~~~ BitVec.ofInt IntKind.u8.bits 32).toNat = ((upC c).toNat : Int) := by
  have := up_all ⟨c.toNat, c.toNat_lt⟩ (by simp; omega) (by simp; omega)
  simp only [UInt8.ofNat_toNat] at this
  rw [this]
  unfold upC lowC
  rw [if_pos (by simp; omega)]
theorem up_no {c : UInt8} (h : ¬ ((97 : Int) ≤ c.toNat ∧ (c.toNat : Int) ≤ 122)) : upC c = c := by
  unfold upC lowC
  rw [if_neg (by simp; omega)]
theorem boxU_keep {s : List UInt8} {k : Nat} (h : k < s.length) (hc : ¬ ((97 : Int) ≤ (s.getD k 0).toNat ∧ ((s.getD k 0).toNat : Int) ≤ 122)) : boxU s (k + 1) = boxU s k := by
  rw [boxU_succ h, up_no hc]
  apply List.ext_getElem?
  intro i
  rw [List.getElem?_set]
  split
  · rename_i e
    subst e
    rw [if_pos (by rw [boxU_len]; exact h), boxU_get h]
  · rfl
theorem unP_cell (l : List UInt8) : (l.map cellU).map unP = l := by
  rw [List.map_map]
  conv => rhs; rw [← List.map_id l]
  apply List.map_congr_left
  intro c _
  simp [cellU, unP]
theorem upper_to (s : List UInt8) (hs : s.length ≤ 9223372036854775807) : CallsTo Tryd.prog 18 [.str s] (.str (upB s)) [] := by
  refine callsTo_of mixed Tryd.func18 rfl Tryd.ntmps18 Tryd.results18 (by kernel_rfl) (by kernel_rfl) (by simp) [7] ?_
  simp only [↓Wd0, Wr0, Wr1, opnds, ofVal, ofValC, PV.cells, PV.one, PV.fit, partE, setL, pickE, intE, strE, eqC, eqCs, kindOK, aggEqE, binE, unaE, mkiE, convE, fieldE, faddrE, iaddrE, indexE, loE, sliceE, nilE, fillP, buildE, elemsE, bslE, lenE, appE, stripC, strip1, strip1L, strip, tupV, resV, convT, convN, sliceB, sliceA, sliceO, convB, clearE, appB, lookE, insE, keyOK, rangeE, reduceCtorEq, ↓reduceIte, Nat.reduceAdd, Nat.reduceMul, Nat.reduceSub, Nat.reduceEqDiff, Nat.reduceLeDiff, Nat.reduceBEq, Int.reduceToNat, Nat.reduceLT, Int.reduceBEq, Int.reduceBNe, Int.reduceLT, Int.reduceLE, Int.reduceGT, Int.reduceGE, UInt8.reduceToNat, Int.reduceNeg, Int.reduceAdd, Int.reduceSub, Wt]
  try simp only [↓Wd0, Wr0, Wr1, opnds, ofVal, ofValC, PV.cells, PV.one, PV.fit, partE, setL, pickE, intE, strE, eqC, eqCs, kindOK, aggEqE, binE, unaE, mkiE, convE, fieldE, faddrE, iaddrE, indexE, loE, sliceE, nilE, fillP, buildE, elemsE, bslE, lenE, appE, stripC, strip1, strip1L, strip, tupV, resV, convT, convN, sliceB, sliceA, sliceO, convB, clearE, appB, lookE, insE, keyOK, rangeE, reduceCtorEq, ↓reduceIte, Nat.reduceAdd, Nat.reduceMul, Nat.reduceSub, Nat.reduceEqDiff, Nat.reduceLeDiff, Nat.reduceBEq, Int.reduceToNat, Nat.reduceLT, Int.reduceBEq, Int.reduceBNe, Int.reduceLT, Int.reduceLE, Int.reduceGT, Int.reduceGE, UInt8.reduceToNat, Int.reduceNeg, Int.reduceAdd, Int.reduceSub, Wt]
  refine ⟨by omega, ?_⟩
  refine loopD (M := []) mixed (by kernel_rfl) [4, 5, 10, 11, 12, 13, 14, 15, 16, 17, 18, 19, 20, 21, 22, 23, 24, 25, 26] (by kernel_rfl) (fun n f H N => ∃ k : Nat, k ≤ s.length ∧ f 10 = .int .i64 k ∧ n = s.length - k ∧ 24 < N ∧ H 24 = some (.box (boxU s k))) ⟨_, 0, by omega, rfl, rfl, by omega, by rw [boxU_zero]; rfl⟩ ?_
  rintro n f H N ⟨k, hk, hf, rfl, hN, hH⟩
  try simp (disch := omega) only [hf, hH, boxU_len, ne_far, ne_far', ne_at, ne_at', far_far, far_at, at_far, lt_far, ↓Wd0, Wr0, Wr1, opnds, ofVal, ofValC, PV.cells, PV.one, PV.fit, partE, setL, pickE, intE, strE, eqC, eqCs, kindOK, aggEqE, binE, unaE, mkiE, convE, fieldE, faddrE, iaddrE, indexE, loE, sliceE, nilE, fillP, buildE, elemsE, bslE, lenE, appE, stripC, strip1, strip1L, strip, tupV, resV, convT, convN, sliceB, sliceA, sliceO, convB, clearE, appB, lookE, insE, keyOK, rangeE, reduceCtorEq, ↓reduceIte, Nat.reduceAdd, Nat.reduceMul, Nat.reduceSub, Nat.reduceEqDiff, Nat.reduceLeDiff, Nat.reduceBEq, Int.reduceToNat, Nat.reduceLT, Int.reduceBEq, Int.reduceBNe, Int.reduceLT, Int.reduceLE, Int.reduceGT, Int.reduceGE, UInt8.reduceToNat, Int.reduceNeg, Int.reduceAdd, Int.reduceSub, Wt]
  have ek : 0 + k * 1 = k := by omega
  have ew := wrap_succ (k := k)
  refine ifD (fun hb => ?_) (fun hb => ?_)
  · have hb' : (k : Int) < s.length := of_decide_eq_true hb
    have e := boxU_get (s := s) (k := k) (by omega)
    try simp (disch := omega) only [hf, hH, boxU_len, ek, e, cellU, ne_far, ne_far', ne_at, ne_at', far_far, far_at, at_far, lt_far, ↓Wd0, Wr0, Wr1, opnds, ofVal, ofValC, PV.cells, PV.one, PV.fit, partE, setL, pickE, intE, strE, eqC, eqCs, kindOK, aggEqE, binE, unaE, mkiE, convE, fieldE, faddrE, iaddrE, indexE, loE, sliceE, nilE, fillP, buildE, elemsE, bslE, lenE, appE, stripC, strip1, strip1L, strip, tupV, resV, convT, convN, sliceB, sliceA, sliceO, convB, clearE, appB, lookE, insE, keyOK, rangeE, reduceCtorEq, ↓reduceIte, Nat.reduceAdd, Nat.reduceMul, Nat.reduceSub, Nat.reduceEqDiff, Nat.reduceLeDiff, Nat.reduceBEq, Int.reduceToNat, Nat.reduceLT, Int.reduceBEq, Int.reduceBNe, Int.reduceLT, Int.reduceLE, Int.reduceGT, Int.reduceGE, UInt8.reduceToNat, Int.reduceNeg, Int.reduceAdd, Int.reduceSub, Wt]
    refine ⟨by omega, ?_⟩
    have e2 : (k + 1 ≤ s.length) = True := eq_true (by omega)
    have ew' := ew (by omega)
    have es := boxU_succ (s := s) (k := k) (by omega)
    repeat' (first | (refine ifD (fun hb => ?_) (fun hb => ?_) <;> (try simp only [decide_eq_true_eq, decide_eq_false_iff_not, Int.not_lt, Int.not_le, Bool.not_eq_true', Bool.not_eq_false', beq_iff_eq, beq_eq_false_iff_ne, bne_iff_ne, ne_eq, not_true_eq_false, not_false_eq_true, reduceCtorEq, eq_self] at hb) <;> (try simp (disch := omega) only [hf, hH, boxU_len, ek, e, cellU, e2, if_true, ne_far, ne_far', ne_at, ne_at', far_far, far_at, at_far, lt_far, ↓Wd0, Wr0, Wr1, opnds, ofVal, ofValC, PV.cells, PV.one, PV.fit, partE, setL, pickE, intE, strE, eqC, eqCs, kindOK, aggEqE, binE, unaE, mkiE, convE, fieldE, faddrE, iaddrE, indexE, loE, sliceE, nilE, fillP, buildE, elemsE, bslE, lenE, appE, stripC, strip1, strip1L, strip, tupV, resV, convT, convN, sliceB, sliceA, sliceO, convB, clearE, appB, lookE, insE, keyOK, rangeE, reduceCtorEq, ↓reduceIte, Nat.reduceAdd, Nat.reduceMul, Nat.reduceSub, Nat.reduceEqDiff, Nat.reduceLeDiff, Nat.reduceBEq, Int.reduceToNat, Nat.reduceLT, Int.reduceBEq, Int.reduceBNe, Int.reduceLT, Int.reduceLE, Int.reduceGT, Int.reduceGE, UInt8.reduceToNat, Int.reduceNeg, Int.reduceAdd, Int.reduceSub, Wt])) | (with_reducible apply And.intro)) <;> (try (first | omega | (exfalso; omega) | exact cmp_r (by first | (simp; done) | (simp; omega)) | exact cmp_l (by kernel_rfl)))
    · have eu := up_is (c := s.getD k 0) (by omega) (by omega)
      try simp (disch := omega) only [hf, hH, boxU_len, ek, e, cellU, e2, if_true, eu, ne_far, ne_far', ne_at, ne_at', far_far, far_at, at_far, lt_far, ↓Wd0, Wr0, Wr1, opnds, ofVal, ofValC, PV.cells, PV.one, PV.fit, partE, setL, pickE, intE, strE, eqC, eqCs, kindOK, aggEqE, binE, unaE, mkiE, convE, fieldE, faddrE, iaddrE, indexE, loE, sliceE, nilE, fillP, buildE, elemsE, bslE, lenE, appE, stripC, strip1, strip1L, strip, tupV, resV, convT, convN, sliceB, sliceA, sliceO, convB, clearE, appB, lookE, insE, keyOK, rangeE, reduceCtorEq, ↓reduceIte, Nat.reduceAdd, Nat.reduceMul, Nat.reduceSub, Nat.reduceEqDiff, Nat.reduceLeDiff, Nat.reduceBEq, Int.reduceToNat, Nat.reduceLT, Int.reduceBEq, Int.reduceBNe, Int.reduceLT, Int.reduceLE, Int.reduceGT, Int.reduceGE, UInt8.reduceToNat, Int.reduceNeg, Int.reduceAdd, Int.reduceSub, Wt]
      exact ⟨_, by omega, k + 1, by omega, ew', rfl, congrArg HObj.box es.symm⟩
    · exact ⟨_, by omega, k + 1, by omega, ew', rfl, congrArg HObj.box (boxU_keep (by omega) (by omega)).symm⟩
    · exact ⟨_, by omega, k + 1, by omega, ew', rfl, congrArg HObj.box (boxU_keep (by omega) (by omega)).symm⟩
  · have hks : k = s.length := by have := of_decide_eq_false hb; omega
    subst hks
    try simp (disch := omega) only [hf, hH, boxU_len, ek, cellU, ne_far, ne_far', ne_at, ne_at', far_far, far_at, at_far, lt_far, ↓Wd0, Wr0, Wr1, opnds, ofVal, ofValC, PV.cells, PV.one, PV.fit, partE, setL, pickE, intE, strE, eqC, eqCs, kindOK, aggEqE, binE, unaE, mkiE, convE, fieldE, faddrE, iaddrE, indexE, loE, sliceE, nilE, fillP, buildE, elemsE, bslE, lenE, appE, stripC, strip1, strip1L, strip, tupV, resV, convT, convN, sliceB, sliceA, sliceO, convB, clearE, appB, lookE, insE, keyOK, rangeE, reduceCtorEq, ↓reduceIte, Nat.reduceAdd, Nat.reduceMul, Nat.reduceSub, Nat.reduceEqDiff, Nat.reduceLeDiff, Nat.reduceBEq, Int.reduceToNat, Nat.reduceLT, Int.reduceBEq, Int.reduceBNe, Int.reduceLT, Int.reduceLE, Int.reduceGT, Int.reduceGE, UInt8.reduceToNat, Int.reduceNeg, Int.reduceAdd, Int.reduceSub, Wt]
    have et : List.take s.length (boxU s s.length) = (upB s).map cellU := by
      rw [boxU_end, List.take_of_length_le (by simp [upB])]
    rw [et, unP_cell]
    refine ⟨⟨by omega, fun p hp => ?_⟩, rfl⟩
    obtain ⟨c, _, rfl⟩ := List.mem_map.1 hp
    exact ⟨c, rfl⟩
end Go.Proofs.YtgagnohelibaoaaDoor
