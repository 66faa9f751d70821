import Derived.Test.YtiiloclgieofaaaJd
/-! In order, each byte once. -/
set_option linter.unusedSimpArgs false
set_option linter.unusedVariables false
set_option maxHeartbeats 4000000
set_option maxRecDepth 100000
namespace Go.Proofs.Ytiiloclgieofaaa
open Go.RowKit

def okW (w : List (List UInt8)) : Prop := w.length ≤ 4 ∧ ∀ b ∈ w, b ≠ [] ∧ b.length ≤ 100
theorem okW_ne {w : List (List UInt8)} (h : okW w) : ∀ b ∈ w, b ≠ [] := fun b hb => (h.2 b hb).1
theorem okW_fits {w : List (List UInt8)} (h : okW w) : fits w := ⟨by have := h.1; omega, fun b hb => by have := (h.2 b hb).2; omega⟩
theorem flat_len : ∀ (w : List (List UInt8)), (∀ b ∈ w, b.length ≤ 100) → w.flatten.length ≤ 100 * w.length
  | [], _ => by simp
  | b :: w, h => by
    have h1 := h b (by simp)
    have h2 := flat_len w (fun c hc => h c (by simp [hc]))
    simp at h2 ⊢
    omega
theorem take_ok {w : List (List UInt8)} {k : Nat} (h : ∀ b ∈ w, b.length ≤ 100) : (w.take k).flatten.length ≤ 100 * w.length := by
  have := flat_len (w.take k) (fun b hb => h b (List.mem_of_mem_take hb))
  simp at this
  simp
  omega
/-- What was taken up to i. -/
def upTo (l : List (List UInt8)) (i : Nat) : List UInt8 := (l.take i).flatten
theorem upTo_succ {l : List (List UInt8)} {i : Nat} (h : (i : Int) < l.length) : upTo l (i + 1) = upTo l i ++ l.getD i [] := by
  unfold upTo
  rw [take_succ [] h]
  simp
theorem upTo_len {l : List (List UInt8)} : ∀ {i : Nat}, (∀ j, j < i → (l.getD j []).length ≤ 100) → i ≤ l.length → (upTo l i).length ≤ 100 * i
  | 0, _, _ => by simp [upTo]
  | i + 1, h, hi => by
    rw [upTo_succ (by omega), List.length_append]
    have := upTo_len (l := l) (i := i) (fun j hj => h j (by omega)) (by omega)
    have := h i (by omega)
    omega
theorem lorder_to (l : List (List UInt8)) (at_ : Int) (kl : l.length ≤ 9223372036854775807 ∧ ∀ y ∈ l, y.length ≤ 9223372036854775807) (ka : -9223372036854775808 ≤ at_ ∧ at_ ≤ 9223372036854775807) : CallsTo Try.prog 3 [.sl 1 (l.map chunkE), .int .i64 at_] (.bool true) [] := by
  refine callsTo_of mixed Try.func3 rfl Try.ntmps3 Try.results3 (by kernel_rfl) (by kernel_rfl) (by simp) [] ?_
  simp only [↓Wd0, Wr0, Wr1, opnds, ofVal, ofValC, PV.cells, PV.one, PV.fit, partE, setL, pickE, intE, strE, eqC, eqCs, kindOK, aggEqE, binE, unaE, convE, fieldE, faddrE, iaddrE, indexE, loE, sliceE, nilE, fillP, buildE, elemsE, bslE, lenE, appE, stripC, strip1, strip1L, strip, tupV, resV, convT, reduceCtorEq, ↓reduceIte, Nat.reduceAdd, Nat.reduceMul, Nat.reduceSub, Nat.reduceEqDiff, Nat.reduceLeDiff, Nat.reduceBEq, Int.reduceToNat, Nat.reduceLT, Int.reduceBEq, Int.reduceBNe, Int.reduceLT, Int.reduceLE, Int.reduceGT, Int.reduceGE, UInt8.reduceToNat, Int.reduceNeg, Int.reduceAdd, Int.reduceSub, Wt]
  refine calD awake_to ?_
  try simp only [↓Wd0, Wr0, Wr1, opnds, ofVal, ofValC, PV.cells, PV.one, PV.fit, partE, setL, pickE, intE, strE, eqC, eqCs, kindOK, aggEqE, binE, unaE, convE, fieldE, faddrE, iaddrE, indexE, loE, sliceE, nilE, fillP, buildE, elemsE, bslE, lenE, appE, stripC, strip1, strip1L, strip, tupV, resV, convT, reduceCtorEq, ↓reduceIte, Nat.reduceAdd, Nat.reduceMul, Nat.reduceSub, Nat.reduceEqDiff, Nat.reduceLeDiff, Nat.reduceBEq, Int.reduceToNat, Nat.reduceLT, Int.reduceBEq, Int.reduceBNe, Int.reduceLT, Int.reduceLE, Int.reduceGT, Int.reduceGE, UInt8.reduceToNat, Int.reduceNeg, Int.reduceAdd, Int.reduceSub, Wt]
  repeat' (first | (refine ifD (fun hb => ?_) (fun hb => ?_) <;> (try simp only [decide_eq_true_eq, decide_eq_false_iff_not, Int.not_lt, Int.not_le, Bool.not_eq_true', Bool.not_eq_false', beq_iff_eq, beq_eq_false_iff_ne, bne_iff_ne, ne_eq, not_true_eq_false, not_false_eq_true, reduceCtorEq, eq_self] at hb) <;> (try simp only [↓Wd0, Wr0, Wr1, opnds, ofVal, ofValC, PV.cells, PV.one, PV.fit, partE, setL, pickE, intE, strE, eqC, eqCs, kindOK, aggEqE, binE, unaE, convE, fieldE, faddrE, iaddrE, indexE, loE, sliceE, nilE, fillP, buildE, elemsE, bslE, lenE, appE, stripC, strip1, strip1L, strip, tupV, resV, convT, reduceCtorEq, ↓reduceIte, Nat.reduceAdd, Nat.reduceMul, Nat.reduceSub, Nat.reduceEqDiff, Nat.reduceLeDiff, Nat.reduceBEq, Int.reduceToNat, Nat.reduceLT, Int.reduceBEq, Int.reduceBNe, Int.reduceLT, Int.reduceLE, Int.reduceGT, Int.reduceGE, UInt8.reduceToNat, Int.reduceNeg, Int.reduceAdd, Int.reduceSub, Wt])) | (with_reducible apply And.intro)) <;> (try (first | omega | (exfalso; omega) | exact cmp_l (by kernel_rfl) | exact cmp_r (by simp)))
  refine loopD (M := []) mixed (by kernel_rfl) [4, 7, 8, 9, 10, 11, 12, 13, 14, 15, 16, 17, 38, 39, 40, 41, 42, 43, 44, 45, 46, 47, 48, 49, 50, 51, 52, 53, 54, 55, 56, 57, 58, 59, 60, 61, 62, 63, 64, 65, 66, 67, 68, 69, 70, 71, 72, 73, 74, 75, 76, 77, 78, 79, 80, 81, 82, 83, 84, 85, 86, 87, 88, 89, 90, 91, 92, 93, 94, 95, 96, 97, 98, 99, 100, 101, 102, 103, 104, 105, 106, 107, 108, 109, 110, 111, 112, 113, 114, 115, 116, 117, 118, 119, 120, 121, 122, 123, 124, 125, 126, 127, 128, 129, 130, 131, 132, 133, 134, 135, 136] (by kernel_rfl) (fun n f H N => ∃ i : Nat, i ≤ l.length ∧ f 9 = .int .i64 i ∧ n = l.length - i ∧ 176 < N ∧ (∀ j, j < i → (l.getD j []).length ≤ 100) ∧ f 7 = .str (upTo l i) ∧ (((i : Int) ≤ at_ ∧ ∃ w u, okW w ∧ w.flatten = upTo l i ∧ f 8 = .str [] ∧ H 176 = some (.box [.int .i64 0, .int .i64 5, .int .i64 (-1), .sl u (w.map chunkE)])) ∨ (at_ < (i : Int) ∧ f 8 = .str (upTo l i) ∧ H 176 = some (.box [.int .i64 0, .int .i64 5, .int .i64 6, .sl 1 []])))) ⟨_, 0, by omega, rfl, rfl, by omega, fun j hj => by omega, rfl, .inl ⟨by omega, [], 0, ⟨by simp, by simp⟩, rfl, rfl, rfl⟩⟩ ?_
  rintro n f H N ⟨i, hi, hf, rfl, hN, hlen, hP, hcase⟩
  have eil : decide ((i : Int) ≤ l.length) = true := by simp; omega
  rcases hcase with ⟨hat, w, u, hw, hfl, hS, hH⟩ | ⟨hat, hS, hH⟩
  · have hw1 := hw.1
    by_cases hia : (i : Int) = at_
    · have e0 : ((i : Int) == at_) = true := by rw [beq_iff_eq]; exact hia
      have c1 := join_to ⟨0, 5, -1, w⟩ 6 (okW_fits hw)
      rw [join_wait hw1 (okW_ne hw)] at c1
      try simp (disch := omega) only [hf, eil, e0, hH, ne_far, ne_far', ne_at, ne_at', far_far, far_at, at_far, lt_far, ↓Wd0, Wr0, Wr1, opnds, ofVal, ofValC, PV.cells, PV.one, PV.fit, partE, setL, pickE, intE, strE, eqC, eqCs, kindOK, aggEqE, binE, unaE, convE, fieldE, faddrE, iaddrE, indexE, loE, sliceE, nilE, fillP, buildE, elemsE, bslE, lenE, appE, stripC, strip1, strip1L, strip, tupV, resV, convT, reduceCtorEq, ↓reduceIte, Nat.reduceAdd, Nat.reduceMul, Nat.reduceSub, Nat.reduceEqDiff, Nat.reduceLeDiff, Nat.reduceBEq, Int.reduceToNat, Nat.reduceLT, Int.reduceBEq, Int.reduceBNe, Int.reduceLT, Int.reduceLE, Int.reduceGT, Int.reduceGE, UInt8.reduceToNat, Int.reduceNeg, Int.reduceAdd, Int.reduceSub, Wt]
      refine calD c1 ?_
      try simp (disch := omega) only [hf, hS, hH, carriedP, GLink.cs, ne_far, ne_far', ne_at, ne_at', far_far, far_at, at_far, lt_far, ↓Wd0, Wr0, Wr1, opnds, ofVal, ofValC, PV.cells, PV.one, PV.fit, partE, setL, pickE, intE, strE, eqC, eqCs, kindOK, aggEqE, binE, unaE, convE, fieldE, faddrE, iaddrE, indexE, loE, sliceE, nilE, fillP, buildE, elemsE, bslE, lenE, appE, stripC, strip1, strip1L, strip, tupV, resV, convT, reduceCtorEq, ↓reduceIte, Nat.reduceAdd, Nat.reduceMul, Nat.reduceSub, Nat.reduceEqDiff, Nat.reduceLeDiff, Nat.reduceBEq, Int.reduceToNat, Nat.reduceLT, Int.reduceBEq, Int.reduceBNe, Int.reduceLT, Int.reduceLE, Int.reduceGT, Int.reduceGE, UInt8.reduceToNat, Int.reduceNeg, Int.reduceAdd, Int.reduceSub, Wt]
      have hol : (outsB 6 w).length = w.length := by simp [outsB]
      refine loopD (M := []) mixed (by kernel_rfl) [8, 13, 56, 57, 58, 59, 60, 61, 62, 63, 64, 65, 66, 67, 68, 69] (by kernel_rfl) (fun n f' H' N' => ∃ k : Nat, k ≤ w.length ∧ f' 13 = .int .i64 k ∧ n = w.length - k ∧ 176 < N' ∧ f' 8 = .str (w.take k).flatten ∧ H' 176 = some (.box [.int .i64 0, .int .i64 5, .int .i64 6, .sl 1 []])) ⟨_, 0, by omega, rfl, rfl, by omega, by try simp (disch := omega) only [hS, List.flatten_nil, ne_far, ne_far', ne_at, ne_at', far_far, far_at, at_far, lt_far, ↓Wd0, Wr0, Wr1, opnds, ofVal, ofValC, PV.cells, PV.one, PV.fit, partE, setL, pickE, intE, strE, eqC, eqCs, kindOK, aggEqE, binE, unaE, convE, fieldE, faddrE, iaddrE, indexE, loE, sliceE, nilE, fillP, buildE, elemsE, bslE, lenE, appE, stripC, strip1, strip1L, strip, tupV, resV, convT, reduceCtorEq, ↓reduceIte, Nat.reduceAdd, Nat.reduceMul, Nat.reduceSub, Nat.reduceEqDiff, Nat.reduceLeDiff, Nat.reduceBEq, Int.reduceToNat, Nat.reduceLT, Int.reduceBEq, Int.reduceBNe, Int.reduceLT, Int.reduceLE, Int.reduceGT, Int.reduceGE, UInt8.reduceToNat, Int.reduceNeg, Int.reduceAdd, Int.reduceSub, Wt], by try simp (disch := omega) only [ne_far, ne_far', ne_at, ne_at', far_far, far_at, at_far, lt_far, ↓Wd0, Wr0, Wr1, opnds, ofVal, ofValC, PV.cells, PV.one, PV.fit, partE, setL, pickE, intE, strE, eqC, eqCs, kindOK, aggEqE, binE, unaE, convE, fieldE, faddrE, iaddrE, indexE, loE, sliceE, nilE, fillP, buildE, elemsE, bslE, lenE, appE, stripC, strip1, strip1L, strip, tupV, resV, convT, reduceCtorEq, ↓reduceIte, Nat.reduceAdd, Nat.reduceMul, Nat.reduceSub, Nat.reduceEqDiff, Nat.reduceLeDiff, Nat.reduceBEq, Int.reduceToNat, Nat.reduceLT, Int.reduceBEq, Int.reduceBNe, Int.reduceLT, Int.reduceLE, Int.reduceGT, Int.reduceGE, UInt8.reduceToNat, Int.reduceNeg, Int.reduceAdd, Int.reduceSub, Wt]⟩ ?_
      rintro n f' H' N' ⟨k, hk, hfk, rfl, hN', hS', hH'⟩
      have ewk := wrap_succ (k := k) (by omega)
      try simp (disch := omega) only [hf, hfk, hS', hH', hol, ne_far, ne_far', ne_at, ne_at', far_far, far_at, at_far, lt_far, ↓Wd0, Wr0, Wr1, opnds, ofVal, ofValC, PV.cells, PV.one, PV.fit, partE, setL, pickE, intE, strE, eqC, eqCs, kindOK, aggEqE, binE, unaE, convE, fieldE, faddrE, iaddrE, indexE, loE, sliceE, nilE, fillP, buildE, elemsE, bslE, lenE, appE, stripC, strip1, strip1L, strip, tupV, resV, convT, reduceCtorEq, ↓reduceIte, Nat.reduceAdd, Nat.reduceMul, Nat.reduceSub, Nat.reduceEqDiff, Nat.reduceLeDiff, Nat.reduceBEq, Int.reduceToNat, Nat.reduceLT, Int.reduceBEq, Int.reduceBNe, Int.reduceLT, Int.reduceLE, Int.reduceGT, Int.reduceGE, UInt8.reduceToNat, Int.reduceNeg, Int.reduceAdd, Int.reduceSub, Wt]
      refine ifD (fun hb => ?_) (fun hb => ?_)
      · have hb' : (k : Int) < w.length := of_decide_eq_true hb
        have e5 : ((outsB 6 w).map GOut.cs).getD k [] = (sendO 6 (w.getD k [])).cs := by
          rw [outsB, List.map_map]
          exact getD_map' (l := w) (k := k) (GOut.cs ∘ sendO 6) [] [] hb'
        have hbk : (w.getD k []).length ≤ 100 := by
          rw [List.getD_eq_getElem?_getD, List.getElem?_eq_getElem (by omega)]
          exact (hw.2 _ (List.getElem_mem _)).2
        have hfl2 := take_ok (w := w) (k := k) (fun b hb => (hw.2 b hb).2)
        try simp (disch := omega) only [hf, hfk, hS', hH', hol, e5, GOut.cs, sendO, ne_far, ne_far', ne_at, ne_at', far_far, far_at, at_far, lt_far, ↓Wd0, Wr0, Wr1, opnds, ofVal, ofValC, PV.cells, PV.one, PV.fit, partE, setL, pickE, intE, strE, eqC, eqCs, kindOK, aggEqE, binE, unaE, convE, fieldE, faddrE, iaddrE, indexE, loE, sliceE, nilE, fillP, buildE, elemsE, bslE, lenE, appE, stripC, strip1, strip1L, strip, tupV, resV, convT, reduceCtorEq, ↓reduceIte, Nat.reduceAdd, Nat.reduceMul, Nat.reduceSub, Nat.reduceEqDiff, Nat.reduceLeDiff, Nat.reduceBEq, Int.reduceToNat, Nat.reduceLT, Int.reduceBEq, Int.reduceBNe, Int.reduceLT, Int.reduceLE, Int.reduceGT, Int.reduceGE, UInt8.reduceToNat, Int.reduceNeg, Int.reduceAdd, Int.reduceSub, Wt]
        refine ⟨by omega, ?_⟩
        try simp (disch := omega) only [hf, hfk, hS', hH', hol, e5, GOut.cs, sendO, ne_far, ne_far', ne_at, ne_at', far_far, far_at, at_far, lt_far, ↓Wd0, Wr0, Wr1, opnds, ofVal, ofValC, PV.cells, PV.one, PV.fit, partE, setL, pickE, intE, strE, eqC, eqCs, kindOK, aggEqE, binE, unaE, convE, fieldE, faddrE, iaddrE, indexE, loE, sliceE, nilE, fillP, buildE, elemsE, bslE, lenE, appE, stripC, strip1, strip1L, strip, tupV, resV, convT, reduceCtorEq, ↓reduceIte, Nat.reduceAdd, Nat.reduceMul, Nat.reduceSub, Nat.reduceEqDiff, Nat.reduceLeDiff, Nat.reduceBEq, Int.reduceToNat, Nat.reduceLT, Int.reduceBEq, Int.reduceBNe, Int.reduceLT, Int.reduceLE, Int.reduceGT, Int.reduceGE, UInt8.reduceToNat, Int.reduceNeg, Int.reduceAdd, Int.reduceSub, Wt]
        refine ⟨by omega, _, by omega, k + 1, by omega, ewk, rfl, ?_⟩
        rw [take_succ [] hb', List.flatten_append]
        simp
      · have hko : w.take k = w := List.take_of_length_le (by have := of_decide_eq_false hb; omega)
        rw [hko, hfl] at hS'
        clear hS hH
        rename f' 8 = _ => hS
        rename H' 176 = _ => hH
        have hat : at_ < (i : Int) + 1 := by omega
        try simp (disch := omega) only [hf, hS, hH, ne_far, ne_far', ne_at, ne_at', far_far, far_at, at_far, lt_far, ↓Wd0, Wr0, Wr1, opnds, ofVal, ofValC, PV.cells, PV.one, PV.fit, partE, setL, pickE, intE, strE, eqC, eqCs, kindOK, aggEqE, binE, unaE, convE, fieldE, faddrE, iaddrE, indexE, loE, sliceE, nilE, fillP, buildE, elemsE, bslE, lenE, appE, stripC, strip1, strip1L, strip, tupV, resV, convT, reduceCtorEq, ↓reduceIte, Nat.reduceAdd, Nat.reduceMul, Nat.reduceSub, Nat.reduceEqDiff, Nat.reduceLeDiff, Nat.reduceBEq, Int.reduceToNat, Nat.reduceLT, Int.reduceBEq, Int.reduceBNe, Int.reduceLT, Int.reduceLE, Int.reduceGT, Int.reduceGE, UInt8.reduceToNat, Int.reduceNeg, Int.reduceAdd, Int.reduceSub, Wt]
        have ew := wrap_succ (k := i) (by omega)
        have hup := upTo_len hlen hi
        refine ifD (fun hb => ?_) (fun hb => ?_)
        · have hil : i = l.length := by have := beq_iff_eq.1 hb; omega
          try simp (disch := omega) only [hf, hS, hH, hP, chunkE, ne_far, ne_far', ne_at, ne_at', far_far, far_at, at_far, lt_far, ↓Wd0, Wr0, Wr1, opnds, ofVal, ofValC, PV.cells, PV.one, PV.fit, partE, setL, pickE, intE, strE, eqC, eqCs, kindOK, aggEqE, binE, unaE, convE, fieldE, faddrE, iaddrE, indexE, loE, sliceE, nilE, fillP, buildE, elemsE, bslE, lenE, appE, stripC, strip1, strip1L, strip, tupV, resV, convT, reduceCtorEq, ↓reduceIte, Nat.reduceAdd, Nat.reduceMul, Nat.reduceSub, Nat.reduceEqDiff, Nat.reduceLeDiff, Nat.reduceBEq, Int.reduceToNat, Nat.reduceLT, Int.reduceBEq, Int.reduceBNe, Int.reduceLT, Int.reduceLE, Int.reduceGT, Int.reduceGE, UInt8.reduceToNat, Int.reduceNeg, Int.reduceAdd, Int.reduceSub, Wt]
          refine calD (may_to ⟨0, 5, 6, []⟩ (by simp)) ?_
          try simp (disch := omega) only [hf, hS, hH, ne_far, ne_far', ne_at, ne_at', far_far, far_at, at_far, lt_far, ↓Wd0, Wr0, Wr1, opnds, ofVal, ofValC, PV.cells, PV.one, PV.fit, partE, setL, pickE, intE, strE, eqC, eqCs, kindOK, aggEqE, binE, unaE, convE, fieldE, faddrE, iaddrE, indexE, loE, sliceE, nilE, fillP, buildE, elemsE, bslE, lenE, appE, stripC, strip1, strip1L, strip, tupV, resV, convT, reduceCtorEq, ↓reduceIte, Nat.reduceAdd, Nat.reduceMul, Nat.reduceSub, Nat.reduceEqDiff, Nat.reduceLeDiff, Nat.reduceBEq, Int.reduceToNat, Nat.reduceLT, Int.reduceBEq, Int.reduceBNe, Int.reduceLT, Int.reduceLE, Int.reduceGT, Int.reduceGE, UInt8.reduceToNat, Int.reduceNeg, Int.reduceAdd, Int.reduceSub, Wt]
          rfl
        · have hil : (i : Int) < l.length := by have := beq_eq_false_iff_ne.1 hb; omega
          have e := getD_map' (l := l) (k := i) chunkE [] [] hil
          try simp (disch := omega) only [hf, hS, hH, hP, e, chunkE, ne_far, ne_far', ne_at, ne_at', far_far, far_at, at_far, lt_far, ↓Wd0, Wr0, Wr1, opnds, ofVal, ofValC, PV.cells, PV.one, PV.fit, partE, setL, pickE, intE, strE, eqC, eqCs, kindOK, aggEqE, binE, unaE, convE, fieldE, faddrE, iaddrE, indexE, loE, sliceE, nilE, fillP, buildE, elemsE, bslE, lenE, appE, stripC, strip1, strip1L, strip, tupV, resV, convT, reduceCtorEq, ↓reduceIte, Nat.reduceAdd, Nat.reduceMul, Nat.reduceSub, Nat.reduceEqDiff, Nat.reduceLeDiff, Nat.reduceBEq, Int.reduceToNat, Nat.reduceLT, Int.reduceBEq, Int.reduceBNe, Int.reduceLT, Int.reduceLE, Int.reduceGT, Int.reduceGE, UInt8.reduceToNat, Int.reduceNeg, Int.reduceAdd, Int.reduceSub, Wt]
          refine ⟨by omega, ?_⟩
          refine ifD (fun hb => ?_) (fun hb => ?_)
          · try simp (disch := omega) only [hf, ne_far, ne_far', ne_at, ne_at', far_far, far_at, at_far, lt_far, ↓Wd0, Wr0, Wr1, opnds, ofVal, ofValC, PV.cells, PV.one, PV.fit, partE, setL, pickE, intE, strE, eqC, eqCs, kindOK, aggEqE, binE, unaE, convE, fieldE, faddrE, iaddrE, indexE, loE, sliceE, nilE, fillP, buildE, elemsE, bslE, lenE, appE, stripC, strip1, strip1L, strip, tupV, resV, convT, reduceCtorEq, ↓reduceIte, Nat.reduceAdd, Nat.reduceMul, Nat.reduceSub, Nat.reduceEqDiff, Nat.reduceLeDiff, Nat.reduceBEq, Int.reduceToNat, Nat.reduceLT, Int.reduceBEq, Int.reduceBNe, Int.reduceLT, Int.reduceLE, Int.reduceGT, Int.reduceGE, UInt8.reduceToNat, Int.reduceNeg, Int.reduceAdd, Int.reduceSub, Wt]
          · have hlb : ((l.getD i []).length : Int) ≤ 100 := by have := of_decide_eq_false hb; omega
            have c1 := carry_to ⟨0, 5, 6, []⟩ 5 (l.getD i []) ⟨by simp, by simp⟩ (by omega)
            rw [carry_on] at c1
            have hus := upTo_succ hil
            have hlen2 : ∀ j, j < i + 1 → (l.getD j []).length ≤ 100 := fun j hj => by
              rcases Nat.lt_succ_iff_lt_or_eq.1 hj with h | h
              · exact hlen j h
              · subst h; omega
            generalize l.getD i [] = b at *
            generalize ho : (if b = [] then [] else [sendO 6 b]) = o at c1
            have ho1 : ∀ k, k < o.length → (o.getD k default).conn = 6 ∧ (o.getD k default).kind = 0 ∧ (o.getD k default).b = b ∧ o.length = 1 := fun k hk => by
              subst ho
              split at hk
              · simp at hk
              · rename_i hne
                simp at hk
                subst hk
                simp [hne, sendO]
            have ho2 : (o.map (·.b)).flatten = b := by
              subst ho
              split
              · rename_i h; rw [h]; rfl
              · simp [sendO]
            have ho3 : o.length ≤ 1 := by
              subst ho
              split <;> simp
            try simp (disch := omega) only [hf, hS, hH, hP, e, chunkE, ne_far, ne_far', ne_at, ne_at', far_far, far_at, at_far, lt_far, ↓Wd0, Wr0, Wr1, opnds, ofVal, ofValC, PV.cells, PV.one, PV.fit, partE, setL, pickE, intE, strE, eqC, eqCs, kindOK, aggEqE, binE, unaE, convE, fieldE, faddrE, iaddrE, indexE, loE, sliceE, nilE, fillP, buildE, elemsE, bslE, lenE, appE, stripC, strip1, strip1L, strip, tupV, resV, convT, reduceCtorEq, ↓reduceIte, Nat.reduceAdd, Nat.reduceMul, Nat.reduceSub, Nat.reduceEqDiff, Nat.reduceLeDiff, Nat.reduceBEq, Int.reduceToNat, Nat.reduceLT, Int.reduceBEq, Int.reduceBNe, Int.reduceLT, Int.reduceLE, Int.reduceGT, Int.reduceGE, UInt8.reduceToNat, Int.reduceNeg, Int.reduceAdd, Int.reduceSub, Wt]
            refine ⟨by omega, ?_⟩
            refine calD c1 ?_
            try simp (disch := omega) only [hf, hS, hH, hP, e, chunkE, carriedP, GLink.cs, ne_far, ne_far', ne_at, ne_at', far_far, far_at, at_far, lt_far, ↓Wd0, Wr0, Wr1, opnds, ofVal, ofValC, PV.cells, PV.one, PV.fit, partE, setL, pickE, intE, strE, eqC, eqCs, kindOK, aggEqE, binE, unaE, convE, fieldE, faddrE, iaddrE, indexE, loE, sliceE, nilE, fillP, buildE, elemsE, bslE, lenE, appE, stripC, strip1, strip1L, strip, tupV, resV, convT, reduceCtorEq, ↓reduceIte, Nat.reduceAdd, Nat.reduceMul, Nat.reduceSub, Nat.reduceEqDiff, Nat.reduceLeDiff, Nat.reduceBEq, Int.reduceToNat, Nat.reduceLT, Int.reduceBEq, Int.reduceBNe, Int.reduceLT, Int.reduceLE, Int.reduceGT, Int.reduceGE, UInt8.reduceToNat, Int.reduceNeg, Int.reduceAdd, Int.reduceSub, Wt]
            refine ⟨cmp_r (by first | (simp; done) | (simp; omega)), ⟨cmp_l (by kernel_rfl), cmp_r (by first | (simp; done) | (simp; omega))⟩, by omega, by omega, ?_⟩
            refine loopD (M := []) mixed (by kernel_rfl) [4, 8, 17, 109, 110, 111, 112, 113, 114, 115, 116, 117, 118, 119, 120, 121, 122, 123, 124, 125, 126, 127, 128, 129, 130, 131, 132, 133, 134, 135, 136] (by kernel_rfl) (fun n f' H' N' => ∃ k : Nat, k ≤ o.length ∧ f' 17 = .int .i64 k ∧ n = o.length - k ∧ 176 < N' ∧ f' 8 = .str (upTo l i ++ ((o.take k).map (·.b)).flatten) ∧ H' 176 = some (.box [.int .i64 0, .int .i64 5, .int .i64 6, .sl 1 []])) ⟨_, 0, by omega, rfl, rfl, by omega, by try simp (disch := omega) only [hS, List.flatten_nil, ne_far, ne_far', ne_at, ne_at', far_far, far_at, at_far, lt_far, ↓Wd0, Wr0, Wr1, opnds, ofVal, ofValC, PV.cells, PV.one, PV.fit, partE, setL, pickE, intE, strE, eqC, eqCs, kindOK, aggEqE, binE, unaE, convE, fieldE, faddrE, iaddrE, indexE, loE, sliceE, nilE, fillP, buildE, elemsE, bslE, lenE, appE, stripC, strip1, strip1L, strip, tupV, resV, convT, reduceCtorEq, ↓reduceIte, Nat.reduceAdd, Nat.reduceMul, Nat.reduceSub, Nat.reduceEqDiff, Nat.reduceLeDiff, Nat.reduceBEq, Int.reduceToNat, Nat.reduceLT, Int.reduceBEq, Int.reduceBNe, Int.reduceLT, Int.reduceLE, Int.reduceGT, Int.reduceGE, UInt8.reduceToNat, Int.reduceNeg, Int.reduceAdd, Int.reduceSub, Wt], by try simp (disch := omega) only [ne_far, ne_far', ne_at, ne_at', far_far, far_at, at_far, lt_far, ↓Wd0, Wr0, Wr1, opnds, ofVal, ofValC, PV.cells, PV.one, PV.fit, partE, setL, pickE, intE, strE, eqC, eqCs, kindOK, aggEqE, binE, unaE, convE, fieldE, faddrE, iaddrE, indexE, loE, sliceE, nilE, fillP, buildE, elemsE, bslE, lenE, appE, stripC, strip1, strip1L, strip, tupV, resV, convT, reduceCtorEq, ↓reduceIte, Nat.reduceAdd, Nat.reduceMul, Nat.reduceSub, Nat.reduceEqDiff, Nat.reduceLeDiff, Nat.reduceBEq, Int.reduceToNat, Nat.reduceLT, Int.reduceBEq, Int.reduceBNe, Int.reduceLT, Int.reduceLE, Int.reduceGT, Int.reduceGE, UInt8.reduceToNat, Int.reduceNeg, Int.reduceAdd, Int.reduceSub, Wt]⟩ ?_
            rintro n f' H' N' ⟨k, hk, hfk, rfl, hN', hS', hH'⟩
            have ewk := wrap_succ (k := k) (by omega)
            try simp (disch := omega) only [hf, hfk, hS', hH', ne_far, ne_far', ne_at, ne_at', far_far, far_at, at_far, lt_far, ↓Wd0, Wr0, Wr1, opnds, ofVal, ofValC, PV.cells, PV.one, PV.fit, partE, setL, pickE, intE, strE, eqC, eqCs, kindOK, aggEqE, binE, unaE, convE, fieldE, faddrE, iaddrE, indexE, loE, sliceE, nilE, fillP, buildE, elemsE, bslE, lenE, appE, stripC, strip1, strip1L, strip, tupV, resV, convT, reduceCtorEq, ↓reduceIte, Nat.reduceAdd, Nat.reduceMul, Nat.reduceSub, Nat.reduceEqDiff, Nat.reduceLeDiff, Nat.reduceBEq, Int.reduceToNat, Nat.reduceLT, Int.reduceBEq, Int.reduceBNe, Int.reduceLT, Int.reduceLE, Int.reduceGT, Int.reduceGE, UInt8.reduceToNat, Int.reduceNeg, Int.reduceAdd, Int.reduceSub, Wt]
            refine ifD (fun hb => ?_) (fun hb => ?_)
            · have hb' : (k : Int) < o.length := of_decide_eq_true hb
              have e5 := getD_map' (l := o) (k := k) GOut.cs default [] hb'
              obtain ⟨q1, q2, q3, q4⟩ := ho1 k (by omega)
              have hk0 : k = 0 := by omega
              try simp (disch := omega) only [hf, hfk, hS', hH', e5, GOut.cs, q1, q2, q3, ne_far, ne_far', ne_at, ne_at', far_far, far_at, at_far, lt_far, ↓Wd0, Wr0, Wr1, opnds, ofVal, ofValC, PV.cells, PV.one, PV.fit, partE, setL, pickE, intE, strE, eqC, eqCs, kindOK, aggEqE, binE, unaE, convE, fieldE, faddrE, iaddrE, indexE, loE, sliceE, nilE, fillP, buildE, elemsE, bslE, lenE, appE, stripC, strip1, strip1L, strip, tupV, resV, convT, reduceCtorEq, ↓reduceIte, Nat.reduceAdd, Nat.reduceMul, Nat.reduceSub, Nat.reduceEqDiff, Nat.reduceLeDiff, Nat.reduceBEq, Int.reduceToNat, Nat.reduceLT, Int.reduceBEq, Int.reduceBNe, Int.reduceLT, Int.reduceLE, Int.reduceGT, Int.reduceGE, UInt8.reduceToNat, Int.reduceNeg, Int.reduceAdd, Int.reduceSub, Wt]
              refine ⟨by omega, ?_⟩
              try simp (disch := omega) only [hf, hfk, hS', hH', e5, GOut.cs, q1, q2, q3, ne_far, ne_far', ne_at, ne_at', far_far, far_at, at_far, lt_far, ↓Wd0, Wr0, Wr1, opnds, ofVal, ofValC, PV.cells, PV.one, PV.fit, partE, setL, pickE, intE, strE, eqC, eqCs, kindOK, aggEqE, binE, unaE, convE, fieldE, faddrE, iaddrE, indexE, loE, sliceE, nilE, fillP, buildE, elemsE, bslE, lenE, appE, stripC, strip1, strip1L, strip, tupV, resV, convT, reduceCtorEq, ↓reduceIte, Nat.reduceAdd, Nat.reduceMul, Nat.reduceSub, Nat.reduceEqDiff, Nat.reduceLeDiff, Nat.reduceBEq, Int.reduceToNat, Nat.reduceLT, Int.reduceBEq, Int.reduceBNe, Int.reduceLT, Int.reduceLE, Int.reduceGT, Int.reduceGE, UInt8.reduceToNat, Int.reduceNeg, Int.reduceAdd, Int.reduceSub, Wt]
              refine ⟨by omega, by omega, by rw [hk0]; simp; omega, _, by omega, k + 1, by omega, ewk, rfl, ?_⟩
              rw [take_succ default hb', List.map_append, List.flatten_append]
              simp only [List.map_cons, List.map_nil, List.flatten_cons, List.flatten_nil, List.append_nil, q3, List.append_assoc, List.nil_append]
            · have hko : o.take k = o := List.take_of_length_le (by have := of_decide_eq_false hb; omega)
              try simp (disch := omega) only [hf, hP, hS', hH', ew, hko, ho2, ne_far, ne_far', ne_at, ne_at', far_far, far_at, at_far, lt_far, ↓Wd0, Wr0, Wr1, opnds, ofVal, ofValC, PV.cells, PV.one, PV.fit, partE, setL, pickE, intE, strE, eqC, eqCs, kindOK, aggEqE, binE, unaE, convE, fieldE, faddrE, iaddrE, indexE, loE, sliceE, nilE, fillP, buildE, elemsE, bslE, lenE, appE, stripC, strip1, strip1L, strip, tupV, resV, convT, reduceCtorEq, ↓reduceIte, Nat.reduceAdd, Nat.reduceMul, Nat.reduceSub, Nat.reduceEqDiff, Nat.reduceLeDiff, Nat.reduceBEq, Int.reduceToNat, Nat.reduceLT, Int.reduceBEq, Int.reduceBNe, Int.reduceLT, Int.reduceLE, Int.reduceGT, Int.reduceGE, UInt8.reduceToNat, Int.reduceNeg, Int.reduceAdd, Int.reduceSub, Wt]
              refine ⟨_, by omega, i + 1, by omega, rfl, rfl, hlen2, by rw [hus]; try simp, ?_⟩
              exact .inr ⟨by omega, by rw [hus]⟩
    · have e0 : ((i : Int) == at_) = false := by rw [beq_eq_false_iff_ne]; exact hia
      have e1 : ((i : Int) == l.length) = false := by rw [beq_eq_false_iff_ne]; omega
      have ew := wrap_succ (k := i) (by omega)
      have hup := upTo_len hlen hi
      have hil : (i : Int) < l.length := by omega
      have e := getD_map' (l := l) (k := i) chunkE [] [] hil
      try simp (disch := omega) only [hf, eil, e0, e1, ne_far, ne_far', ne_at, ne_at', far_far, far_at, at_far, lt_far, ↓Wd0, Wr0, Wr1, opnds, ofVal, ofValC, PV.cells, PV.one, PV.fit, partE, setL, pickE, intE, strE, eqC, eqCs, kindOK, aggEqE, binE, unaE, convE, fieldE, faddrE, iaddrE, indexE, loE, sliceE, nilE, fillP, buildE, elemsE, bslE, lenE, appE, stripC, strip1, strip1L, strip, tupV, resV, convT, reduceCtorEq, ↓reduceIte, Nat.reduceAdd, Nat.reduceMul, Nat.reduceSub, Nat.reduceEqDiff, Nat.reduceLeDiff, Nat.reduceBEq, Int.reduceToNat, Nat.reduceLT, Int.reduceBEq, Int.reduceBNe, Int.reduceLT, Int.reduceLE, Int.reduceGT, Int.reduceGE, UInt8.reduceToNat, Int.reduceNeg, Int.reduceAdd, Int.reduceSub, Wt]
      try simp (disch := omega) only [hf, hS, hH, hP, e, chunkE, ne_far, ne_far', ne_at, ne_at', far_far, far_at, at_far, lt_far, ↓Wd0, Wr0, Wr1, opnds, ofVal, ofValC, PV.cells, PV.one, PV.fit, partE, setL, pickE, intE, strE, eqC, eqCs, kindOK, aggEqE, binE, unaE, convE, fieldE, faddrE, iaddrE, indexE, loE, sliceE, nilE, fillP, buildE, elemsE, bslE, lenE, appE, stripC, strip1, strip1L, strip, tupV, resV, convT, reduceCtorEq, ↓reduceIte, Nat.reduceAdd, Nat.reduceMul, Nat.reduceSub, Nat.reduceEqDiff, Nat.reduceLeDiff, Nat.reduceBEq, Int.reduceToNat, Nat.reduceLT, Int.reduceBEq, Int.reduceBNe, Int.reduceLT, Int.reduceLE, Int.reduceGT, Int.reduceGE, UInt8.reduceToNat, Int.reduceNeg, Int.reduceAdd, Int.reduceSub, Wt]
      refine ⟨by omega, ?_⟩
      refine ifD (fun hb => ?_) (fun hb => ?_)
      · try simp (disch := omega) only [hf, ne_far, ne_far', ne_at, ne_at', far_far, far_at, at_far, lt_far, ↓Wd0, Wr0, Wr1, opnds, ofVal, ofValC, PV.cells, PV.one, PV.fit, partE, setL, pickE, intE, strE, eqC, eqCs, kindOK, aggEqE, binE, unaE, convE, fieldE, faddrE, iaddrE, indexE, loE, sliceE, nilE, fillP, buildE, elemsE, bslE, lenE, appE, stripC, strip1, strip1L, strip, tupV, resV, convT, reduceCtorEq, ↓reduceIte, Nat.reduceAdd, Nat.reduceMul, Nat.reduceSub, Nat.reduceEqDiff, Nat.reduceLeDiff, Nat.reduceBEq, Int.reduceToNat, Nat.reduceLT, Int.reduceBEq, Int.reduceBNe, Int.reduceLT, Int.reduceLE, Int.reduceGT, Int.reduceGE, UInt8.reduceToNat, Int.reduceNeg, Int.reduceAdd, Int.reduceSub, Wt]
      · have hlb : ((l.getD i []).length : Int) ≤ 100 := by have := of_decide_eq_false hb; omega
        have c1 := carry_to ⟨0, 5, -1, w⟩ 5 (l.getD i []) (okW_fits hw) (by omega)
        have hus := upTo_succ hil
        have hlen2 : ∀ j, j < i + 1 → (l.getD j []).length ≤ 100 := fun j hj => by
          rcases Nat.lt_succ_iff_lt_or_eq.1 hj with h | h
          · exact hlen j h
          · subst h; omega
        generalize l.getD i [] = b at *
        by_cases hb0 : b = []
        · rw [hb0, carry_none hw1 (okW_ne hw)] at c1
          obtain ⟨o, ho⟩ : ∃ o : List GOut, o = [] := ⟨_, rfl⟩
          rw [← ho] at c1
          have ho3 : o.length ≤ 1 := by rw [ho]; simp
          have ho2 : (o.map (·.b)).flatten = [] := by rw [ho]; rfl
          have ho1 : ∀ k, k < o.length → (o.getD k default).conn = 6 ∧ (o.getD k default).kind = 0 ∧ (o.getD k default).b = b ∧ o.length = 1 := fun k hk => by rw [ho] at hk; simp at hk
          rw [hb0] at hus e
          try simp (disch := omega) only [hf, hS, hH, hP, e, chunkE, ne_far, ne_far', ne_at, ne_at', far_far, far_at, at_far, lt_far, ↓Wd0, Wr0, Wr1, opnds, ofVal, ofValC, PV.cells, PV.one, PV.fit, partE, setL, pickE, intE, strE, eqC, eqCs, kindOK, aggEqE, binE, unaE, convE, fieldE, faddrE, iaddrE, indexE, loE, sliceE, nilE, fillP, buildE, elemsE, bslE, lenE, appE, stripC, strip1, strip1L, strip, tupV, resV, convT, reduceCtorEq, ↓reduceIte, Nat.reduceAdd, Nat.reduceMul, Nat.reduceSub, Nat.reduceEqDiff, Nat.reduceLeDiff, Nat.reduceBEq, Int.reduceToNat, Nat.reduceLT, Int.reduceBEq, Int.reduceBNe, Int.reduceLT, Int.reduceLE, Int.reduceGT, Int.reduceGE, UInt8.reduceToNat, Int.reduceNeg, Int.reduceAdd, Int.reduceSub, Wt]
          refine ⟨by omega, ?_⟩
          refine calD c1 ?_
          try simp (disch := omega) only [hf, hS, hH, hP, e, chunkE, carriedP, GLink.cs, ne_far, ne_far', ne_at, ne_at', far_far, far_at, at_far, lt_far, ↓Wd0, Wr0, Wr1, opnds, ofVal, ofValC, PV.cells, PV.one, PV.fit, partE, setL, pickE, intE, strE, eqC, eqCs, kindOK, aggEqE, binE, unaE, convE, fieldE, faddrE, iaddrE, indexE, loE, sliceE, nilE, fillP, buildE, elemsE, bslE, lenE, appE, stripC, strip1, strip1L, strip, tupV, resV, convT, reduceCtorEq, ↓reduceIte, Nat.reduceAdd, Nat.reduceMul, Nat.reduceSub, Nat.reduceEqDiff, Nat.reduceLeDiff, Nat.reduceBEq, Int.reduceToNat, Nat.reduceLT, Int.reduceBEq, Int.reduceBNe, Int.reduceLT, Int.reduceLE, Int.reduceGT, Int.reduceGE, UInt8.reduceToNat, Int.reduceNeg, Int.reduceAdd, Int.reduceSub, Wt]
          refine ⟨cmp_r (by first | (simp; done) | (simp; omega)), ⟨cmp_l (by kernel_rfl), cmp_r (by first | (simp; done) | (simp; omega))⟩, by omega, by omega, ?_⟩
          refine loopD (M := []) mixed (by kernel_rfl) [4, 8, 17, 109, 110, 111, 112, 113, 114, 115, 116, 117, 118, 119, 120, 121, 122, 123, 124, 125, 126, 127, 128, 129, 130, 131, 132, 133, 134, 135, 136] (by kernel_rfl) (fun n f' H' N' => ∃ k : Nat, k ≤ o.length ∧ f' 17 = .int .i64 k ∧ n = o.length - k ∧ 176 < N' ∧ f' 8 = .str ([] ++ ((o.take k).map (·.b)).flatten) ∧ H' 176 = some (.box [.int .i64 0, .int .i64 5, .int .i64 (-1), .sl 1 (w.map chunkE)])) ⟨_, 0, by omega, rfl, rfl, by omega, by try simp (disch := omega) only [hS, List.flatten_nil, ne_far, ne_far', ne_at, ne_at', far_far, far_at, at_far, lt_far, ↓Wd0, Wr0, Wr1, opnds, ofVal, ofValC, PV.cells, PV.one, PV.fit, partE, setL, pickE, intE, strE, eqC, eqCs, kindOK, aggEqE, binE, unaE, convE, fieldE, faddrE, iaddrE, indexE, loE, sliceE, nilE, fillP, buildE, elemsE, bslE, lenE, appE, stripC, strip1, strip1L, strip, tupV, resV, convT, reduceCtorEq, ↓reduceIte, Nat.reduceAdd, Nat.reduceMul, Nat.reduceSub, Nat.reduceEqDiff, Nat.reduceLeDiff, Nat.reduceBEq, Int.reduceToNat, Nat.reduceLT, Int.reduceBEq, Int.reduceBNe, Int.reduceLT, Int.reduceLE, Int.reduceGT, Int.reduceGE, UInt8.reduceToNat, Int.reduceNeg, Int.reduceAdd, Int.reduceSub, Wt], by try simp (disch := omega) only [ne_far, ne_far', ne_at, ne_at', far_far, far_at, at_far, lt_far, ↓Wd0, Wr0, Wr1, opnds, ofVal, ofValC, PV.cells, PV.one, PV.fit, partE, setL, pickE, intE, strE, eqC, eqCs, kindOK, aggEqE, binE, unaE, convE, fieldE, faddrE, iaddrE, indexE, loE, sliceE, nilE, fillP, buildE, elemsE, bslE, lenE, appE, stripC, strip1, strip1L, strip, tupV, resV, convT, reduceCtorEq, ↓reduceIte, Nat.reduceAdd, Nat.reduceMul, Nat.reduceSub, Nat.reduceEqDiff, Nat.reduceLeDiff, Nat.reduceBEq, Int.reduceToNat, Nat.reduceLT, Int.reduceBEq, Int.reduceBNe, Int.reduceLT, Int.reduceLE, Int.reduceGT, Int.reduceGE, UInt8.reduceToNat, Int.reduceNeg, Int.reduceAdd, Int.reduceSub, Wt]⟩ ?_
          rintro n f' H' N' ⟨k, hk, hfk, rfl, hN', hS', hH'⟩
          have ewk := wrap_succ (k := k) (by omega)
          try simp (disch := omega) only [hf, hfk, hS', hH', ne_far, ne_far', ne_at, ne_at', far_far, far_at, at_far, lt_far, ↓Wd0, Wr0, Wr1, opnds, ofVal, ofValC, PV.cells, PV.one, PV.fit, partE, setL, pickE, intE, strE, eqC, eqCs, kindOK, aggEqE, binE, unaE, convE, fieldE, faddrE, iaddrE, indexE, loE, sliceE, nilE, fillP, buildE, elemsE, bslE, lenE, appE, stripC, strip1, strip1L, strip, tupV, resV, convT, reduceCtorEq, ↓reduceIte, Nat.reduceAdd, Nat.reduceMul, Nat.reduceSub, Nat.reduceEqDiff, Nat.reduceLeDiff, Nat.reduceBEq, Int.reduceToNat, Nat.reduceLT, Int.reduceBEq, Int.reduceBNe, Int.reduceLT, Int.reduceLE, Int.reduceGT, Int.reduceGE, UInt8.reduceToNat, Int.reduceNeg, Int.reduceAdd, Int.reduceSub, Wt]
          refine ifD (fun hb => ?_) (fun hb => ?_)
          · have hb' : (k : Int) < o.length := of_decide_eq_true hb
            have e5 := getD_map' (l := o) (k := k) GOut.cs default [] hb'
            obtain ⟨q1, q2, q3, q4⟩ := ho1 k (by omega)
            have hk0 : k = 0 := by omega
            try simp (disch := omega) only [hf, hfk, hS', hH', e5, GOut.cs, q1, q2, q3, ne_far, ne_far', ne_at, ne_at', far_far, far_at, at_far, lt_far, ↓Wd0, Wr0, Wr1, opnds, ofVal, ofValC, PV.cells, PV.one, PV.fit, partE, setL, pickE, intE, strE, eqC, eqCs, kindOK, aggEqE, binE, unaE, convE, fieldE, faddrE, iaddrE, indexE, loE, sliceE, nilE, fillP, buildE, elemsE, bslE, lenE, appE, stripC, strip1, strip1L, strip, tupV, resV, convT, reduceCtorEq, ↓reduceIte, Nat.reduceAdd, Nat.reduceMul, Nat.reduceSub, Nat.reduceEqDiff, Nat.reduceLeDiff, Nat.reduceBEq, Int.reduceToNat, Nat.reduceLT, Int.reduceBEq, Int.reduceBNe, Int.reduceLT, Int.reduceLE, Int.reduceGT, Int.reduceGE, UInt8.reduceToNat, Int.reduceNeg, Int.reduceAdd, Int.reduceSub, Wt]
            refine ⟨by omega, ?_⟩
            try simp (disch := omega) only [hf, hfk, hS', hH', e5, GOut.cs, q1, q2, q3, ne_far, ne_far', ne_at, ne_at', far_far, far_at, at_far, lt_far, ↓Wd0, Wr0, Wr1, opnds, ofVal, ofValC, PV.cells, PV.one, PV.fit, partE, setL, pickE, intE, strE, eqC, eqCs, kindOK, aggEqE, binE, unaE, convE, fieldE, faddrE, iaddrE, indexE, loE, sliceE, nilE, fillP, buildE, elemsE, bslE, lenE, appE, stripC, strip1, strip1L, strip, tupV, resV, convT, reduceCtorEq, ↓reduceIte, Nat.reduceAdd, Nat.reduceMul, Nat.reduceSub, Nat.reduceEqDiff, Nat.reduceLeDiff, Nat.reduceBEq, Int.reduceToNat, Nat.reduceLT, Int.reduceBEq, Int.reduceBNe, Int.reduceLT, Int.reduceLE, Int.reduceGT, Int.reduceGE, UInt8.reduceToNat, Int.reduceNeg, Int.reduceAdd, Int.reduceSub, Wt]
            refine ⟨by omega, by omega, by rw [hk0]; simp; omega, _, by omega, k + 1, by omega, ewk, rfl, ?_⟩
            rw [take_succ default hb', List.map_append, List.flatten_append]
            simp only [List.map_cons, List.map_nil, List.flatten_cons, List.flatten_nil, List.append_nil, q3, List.append_assoc, List.nil_append]
          · have hko : o.take k = o := List.take_of_length_le (by have := of_decide_eq_false hb; omega)
            try simp (disch := omega) only [hf, hP, hS', hH', ew, hko, ho2, ne_far, ne_far', ne_at, ne_at', far_far, far_at, at_far, lt_far, ↓Wd0, Wr0, Wr1, opnds, ofVal, ofValC, PV.cells, PV.one, PV.fit, partE, setL, pickE, intE, strE, eqC, eqCs, kindOK, aggEqE, binE, unaE, convE, fieldE, faddrE, iaddrE, indexE, loE, sliceE, nilE, fillP, buildE, elemsE, bslE, lenE, appE, stripC, strip1, strip1L, strip, tupV, resV, convT, reduceCtorEq, ↓reduceIte, Nat.reduceAdd, Nat.reduceMul, Nat.reduceSub, Nat.reduceEqDiff, Nat.reduceLeDiff, Nat.reduceBEq, Int.reduceToNat, Nat.reduceLT, Int.reduceBEq, Int.reduceBNe, Int.reduceLT, Int.reduceLE, Int.reduceGT, Int.reduceGE, UInt8.reduceToNat, Int.reduceNeg, Int.reduceAdd, Int.reduceSub, Wt]
            refine ⟨_, by omega, i + 1, by omega, rfl, rfl, hlen2, by rw [hus]; try simp, ?_⟩
            exact .inl ⟨by omega, w, 1, hw, by rw [hfl, hus]; simp, rfl⟩
        · by_cases hw4 : w.length = 4
          · rw [carry_full hw4 (okW_ne hw) hb0] at c1
            try simp (disch := omega) only [hf, hS, hH, hP, e, chunkE, ne_far, ne_far', ne_at, ne_at', far_far, far_at, at_far, lt_far, ↓Wd0, Wr0, Wr1, opnds, ofVal, ofValC, PV.cells, PV.one, PV.fit, partE, setL, pickE, intE, strE, eqC, eqCs, kindOK, aggEqE, binE, unaE, convE, fieldE, faddrE, iaddrE, indexE, loE, sliceE, nilE, fillP, buildE, elemsE, bslE, lenE, appE, stripC, strip1, strip1L, strip, tupV, resV, convT, reduceCtorEq, ↓reduceIte, Nat.reduceAdd, Nat.reduceMul, Nat.reduceSub, Nat.reduceEqDiff, Nat.reduceLeDiff, Nat.reduceBEq, Int.reduceToNat, Nat.reduceLT, Int.reduceBEq, Int.reduceBNe, Int.reduceLT, Int.reduceLE, Int.reduceGT, Int.reduceGE, UInt8.reduceToNat, Int.reduceNeg, Int.reduceAdd, Int.reduceSub, Wt]
            refine ⟨by omega, ?_⟩
            refine calD c1 ?_
            try simp (disch := omega) only [hf, hS, hH, hP, e, chunkE, carriedP, GLink.cs, hw4, ne_far, ne_far', ne_at, ne_at', far_far, far_at, at_far, lt_far, ↓Wd0, Wr0, Wr1, opnds, ofVal, ofValC, PV.cells, PV.one, PV.fit, partE, setL, pickE, intE, strE, eqC, eqCs, kindOK, aggEqE, binE, unaE, convE, fieldE, faddrE, iaddrE, indexE, loE, sliceE, nilE, fillP, buildE, elemsE, bslE, lenE, appE, stripC, strip1, strip1L, strip, tupV, resV, convT, reduceCtorEq, ↓reduceIte, Nat.reduceAdd, Nat.reduceMul, Nat.reduceSub, Nat.reduceEqDiff, Nat.reduceLeDiff, Nat.reduceBEq, Int.reduceToNat, Nat.reduceLT, Int.reduceBEq, Int.reduceBNe, Int.reduceLT, Int.reduceLE, Int.reduceGT, Int.reduceGE, UInt8.reduceToNat, Int.reduceNeg, Int.reduceAdd, Int.reduceSub, Wt]
            refine ⟨cmp_r (by first | (simp; done) | (simp; omega)), cmp_l (by kernel_rfl), cmp_r (by first | (simp; done) | (simp; omega))⟩
          · rw [carry_wait (by omega) (okW_ne hw) hb0] at c1
            have hw' : okW (w ++ [b]) := ⟨by simp; omega, fun c hc => by
              rcases List.mem_append.1 hc with h | h
              · exact hw.2 c h
              · simp at h; subst h; exact ⟨hb0, by omega⟩⟩
            obtain ⟨o, ho⟩ : ∃ o : List GOut, o = [] := ⟨_, rfl⟩
            rw [← ho] at c1
            have ho3 : o.length ≤ 1 := by rw [ho]; simp
            have ho2 : (o.map (·.b)).flatten = [] := by rw [ho]; rfl
            have ho1 : ∀ k, k < o.length → (o.getD k default).conn = 6 ∧ (o.getD k default).kind = 0 ∧ (o.getD k default).b = b ∧ o.length = 1 := fun k hk => by rw [ho] at hk; simp at hk
            try simp (disch := omega) only [hf, hS, hH, hP, e, chunkE, ne_far, ne_far', ne_at, ne_at', far_far, far_at, at_far, lt_far, ↓Wd0, Wr0, Wr1, opnds, ofVal, ofValC, PV.cells, PV.one, PV.fit, partE, setL, pickE, intE, strE, eqC, eqCs, kindOK, aggEqE, binE, unaE, convE, fieldE, faddrE, iaddrE, indexE, loE, sliceE, nilE, fillP, buildE, elemsE, bslE, lenE, appE, stripC, strip1, strip1L, strip, tupV, resV, convT, reduceCtorEq, ↓reduceIte, Nat.reduceAdd, Nat.reduceMul, Nat.reduceSub, Nat.reduceEqDiff, Nat.reduceLeDiff, Nat.reduceBEq, Int.reduceToNat, Nat.reduceLT, Int.reduceBEq, Int.reduceBNe, Int.reduceLT, Int.reduceLE, Int.reduceGT, Int.reduceGE, UInt8.reduceToNat, Int.reduceNeg, Int.reduceAdd, Int.reduceSub, Wt]
            refine ⟨by omega, ?_⟩
            refine calD c1 ?_
            try simp (disch := omega) only [hf, hS, hH, hP, e, chunkE, carriedP, GLink.cs, ne_far, ne_far', ne_at, ne_at', far_far, far_at, at_far, lt_far, ↓Wd0, Wr0, Wr1, opnds, ofVal, ofValC, PV.cells, PV.one, PV.fit, partE, setL, pickE, intE, strE, eqC, eqCs, kindOK, aggEqE, binE, unaE, convE, fieldE, faddrE, iaddrE, indexE, loE, sliceE, nilE, fillP, buildE, elemsE, bslE, lenE, appE, stripC, strip1, strip1L, strip, tupV, resV, convT, reduceCtorEq, ↓reduceIte, Nat.reduceAdd, Nat.reduceMul, Nat.reduceSub, Nat.reduceEqDiff, Nat.reduceLeDiff, Nat.reduceBEq, Int.reduceToNat, Nat.reduceLT, Int.reduceBEq, Int.reduceBNe, Int.reduceLT, Int.reduceLE, Int.reduceGT, Int.reduceGE, UInt8.reduceToNat, Int.reduceNeg, Int.reduceAdd, Int.reduceSub, Wt]
            refine ⟨cmp_r (by first | (simp; done) | (simp; omega)), ⟨cmp_l (by kernel_rfl), cmp_r (by first | (simp; done) | (simp; omega))⟩, by omega, by omega, ?_⟩
            refine loopD (M := []) mixed (by kernel_rfl) [4, 8, 17, 109, 110, 111, 112, 113, 114, 115, 116, 117, 118, 119, 120, 121, 122, 123, 124, 125, 126, 127, 128, 129, 130, 131, 132, 133, 134, 135, 136] (by kernel_rfl) (fun n f' H' N' => ∃ k : Nat, k ≤ o.length ∧ f' 17 = .int .i64 k ∧ n = o.length - k ∧ 176 < N' ∧ f' 8 = .str ([] ++ ((o.take k).map (·.b)).flatten) ∧ H' 176 = some (.box [.int .i64 0, .int .i64 5, .int .i64 (-1), .sl 1 ((w ++ [b]).map chunkE)])) ⟨_, 0, by omega, rfl, rfl, by omega, by try simp (disch := omega) only [hS, List.flatten_nil, ne_far, ne_far', ne_at, ne_at', far_far, far_at, at_far, lt_far, ↓Wd0, Wr0, Wr1, opnds, ofVal, ofValC, PV.cells, PV.one, PV.fit, partE, setL, pickE, intE, strE, eqC, eqCs, kindOK, aggEqE, binE, unaE, convE, fieldE, faddrE, iaddrE, indexE, loE, sliceE, nilE, fillP, buildE, elemsE, bslE, lenE, appE, stripC, strip1, strip1L, strip, tupV, resV, convT, reduceCtorEq, ↓reduceIte, Nat.reduceAdd, Nat.reduceMul, Nat.reduceSub, Nat.reduceEqDiff, Nat.reduceLeDiff, Nat.reduceBEq, Int.reduceToNat, Nat.reduceLT, Int.reduceBEq, Int.reduceBNe, Int.reduceLT, Int.reduceLE, Int.reduceGT, Int.reduceGE, UInt8.reduceToNat, Int.reduceNeg, Int.reduceAdd, Int.reduceSub, Wt], by try simp (disch := omega) only [ne_far, ne_far', ne_at, ne_at', far_far, far_at, at_far, lt_far, ↓Wd0, Wr0, Wr1, opnds, ofVal, ofValC, PV.cells, PV.one, PV.fit, partE, setL, pickE, intE, strE, eqC, eqCs, kindOK, aggEqE, binE, unaE, convE, fieldE, faddrE, iaddrE, indexE, loE, sliceE, nilE, fillP, buildE, elemsE, bslE, lenE, appE, stripC, strip1, strip1L, strip, tupV, resV, convT, reduceCtorEq, ↓reduceIte, Nat.reduceAdd, Nat.reduceMul, Nat.reduceSub, Nat.reduceEqDiff, Nat.reduceLeDiff, Nat.reduceBEq, Int.reduceToNat, Nat.reduceLT, Int.reduceBEq, Int.reduceBNe, Int.reduceLT, Int.reduceLE, Int.reduceGT, Int.reduceGE, UInt8.reduceToNat, Int.reduceNeg, Int.reduceAdd, Int.reduceSub, Wt]⟩ ?_
            rintro n f' H' N' ⟨k, hk, hfk, rfl, hN', hS', hH'⟩
            have ewk := wrap_succ (k := k) (by omega)
            try simp (disch := omega) only [hf, hfk, hS', hH', ne_far, ne_far', ne_at, ne_at', far_far, far_at, at_far, lt_far, ↓Wd0, Wr0, Wr1, opnds, ofVal, ofValC, PV.cells, PV.one, PV.fit, partE, setL, pickE, intE, strE, eqC, eqCs, kindOK, aggEqE, binE, unaE, convE, fieldE, faddrE, iaddrE, indexE, loE, sliceE, nilE, fillP, buildE, elemsE, bslE, lenE, appE, stripC, strip1, strip1L, strip, tupV, resV, convT, reduceCtorEq, ↓reduceIte, Nat.reduceAdd, Nat.reduceMul, Nat.reduceSub, Nat.reduceEqDiff, Nat.reduceLeDiff, Nat.reduceBEq, Int.reduceToNat, Nat.reduceLT, Int.reduceBEq, Int.reduceBNe, Int.reduceLT, Int.reduceLE, Int.reduceGT, Int.reduceGE, UInt8.reduceToNat, Int.reduceNeg, Int.reduceAdd, Int.reduceSub, Wt]
            refine ifD (fun hb => ?_) (fun hb => ?_)
            · have hb' : (k : Int) < o.length := of_decide_eq_true hb
              have e5 := getD_map' (l := o) (k := k) GOut.cs default [] hb'
              obtain ⟨q1, q2, q3, q4⟩ := ho1 k (by omega)
              have hk0 : k = 0 := by omega
              try simp (disch := omega) only [hf, hfk, hS', hH', e5, GOut.cs, q1, q2, q3, ne_far, ne_far', ne_at, ne_at', far_far, far_at, at_far, lt_far, ↓Wd0, Wr0, Wr1, opnds, ofVal, ofValC, PV.cells, PV.one, PV.fit, partE, setL, pickE, intE, strE, eqC, eqCs, kindOK, aggEqE, binE, unaE, convE, fieldE, faddrE, iaddrE, indexE, loE, sliceE, nilE, fillP, buildE, elemsE, bslE, lenE, appE, stripC, strip1, strip1L, strip, tupV, resV, convT, reduceCtorEq, ↓reduceIte, Nat.reduceAdd, Nat.reduceMul, Nat.reduceSub, Nat.reduceEqDiff, Nat.reduceLeDiff, Nat.reduceBEq, Int.reduceToNat, Nat.reduceLT, Int.reduceBEq, Int.reduceBNe, Int.reduceLT, Int.reduceLE, Int.reduceGT, Int.reduceGE, UInt8.reduceToNat, Int.reduceNeg, Int.reduceAdd, Int.reduceSub, Wt]
              refine ⟨by omega, ?_⟩
              try simp (disch := omega) only [hf, hfk, hS', hH', e5, GOut.cs, q1, q2, q3, ne_far, ne_far', ne_at, ne_at', far_far, far_at, at_far, lt_far, ↓Wd0, Wr0, Wr1, opnds, ofVal, ofValC, PV.cells, PV.one, PV.fit, partE, setL, pickE, intE, strE, eqC, eqCs, kindOK, aggEqE, binE, unaE, convE, fieldE, faddrE, iaddrE, indexE, loE, sliceE, nilE, fillP, buildE, elemsE, bslE, lenE, appE, stripC, strip1, strip1L, strip, tupV, resV, convT, reduceCtorEq, ↓reduceIte, Nat.reduceAdd, Nat.reduceMul, Nat.reduceSub, Nat.reduceEqDiff, Nat.reduceLeDiff, Nat.reduceBEq, Int.reduceToNat, Nat.reduceLT, Int.reduceBEq, Int.reduceBNe, Int.reduceLT, Int.reduceLE, Int.reduceGT, Int.reduceGE, UInt8.reduceToNat, Int.reduceNeg, Int.reduceAdd, Int.reduceSub, Wt]
              refine ⟨by omega, by omega, by rw [hk0]; simp; omega, _, by omega, k + 1, by omega, ewk, rfl, ?_⟩
              rw [take_succ default hb', List.map_append, List.flatten_append]
              simp only [List.map_cons, List.map_nil, List.flatten_cons, List.flatten_nil, List.append_nil, q3, List.append_assoc, List.nil_append]
            · have hko : o.take k = o := List.take_of_length_le (by have := of_decide_eq_false hb; omega)
              try simp (disch := omega) only [hf, hP, hS', hH', ew, hko, ho2, ne_far, ne_far', ne_at, ne_at', far_far, far_at, at_far, lt_far, ↓Wd0, Wr0, Wr1, opnds, ofVal, ofValC, PV.cells, PV.one, PV.fit, partE, setL, pickE, intE, strE, eqC, eqCs, kindOK, aggEqE, binE, unaE, convE, fieldE, faddrE, iaddrE, indexE, loE, sliceE, nilE, fillP, buildE, elemsE, bslE, lenE, appE, stripC, strip1, strip1L, strip, tupV, resV, convT, reduceCtorEq, ↓reduceIte, Nat.reduceAdd, Nat.reduceMul, Nat.reduceSub, Nat.reduceEqDiff, Nat.reduceLeDiff, Nat.reduceBEq, Int.reduceToNat, Nat.reduceLT, Int.reduceBEq, Int.reduceBNe, Int.reduceLT, Int.reduceLE, Int.reduceGT, Int.reduceGE, UInt8.reduceToNat, Int.reduceNeg, Int.reduceAdd, Int.reduceSub, Wt]
              refine ⟨_, by omega, i + 1, by omega, rfl, rfl, hlen2, by rw [hus]; try simp, ?_⟩
              exact .inl ⟨by omega, w ++ [b], 1, hw', by rw [hus, ← hfl]; simp, rfl⟩
  · have e0 : ((i : Int) == at_) = false := by rw [beq_eq_false_iff_ne]; omega
    try simp (disch := omega) only [hf, eil, e0, ne_far, ne_far', ne_at, ne_at', far_far, far_at, at_far, lt_far, ↓Wd0, Wr0, Wr1, opnds, ofVal, ofValC, PV.cells, PV.one, PV.fit, partE, setL, pickE, intE, strE, eqC, eqCs, kindOK, aggEqE, binE, unaE, convE, fieldE, faddrE, iaddrE, indexE, loE, sliceE, nilE, fillP, buildE, elemsE, bslE, lenE, appE, stripC, strip1, strip1L, strip, tupV, resV, convT, reduceCtorEq, ↓reduceIte, Nat.reduceAdd, Nat.reduceMul, Nat.reduceSub, Nat.reduceEqDiff, Nat.reduceLeDiff, Nat.reduceBEq, Int.reduceToNat, Nat.reduceLT, Int.reduceBEq, Int.reduceBNe, Int.reduceLT, Int.reduceLE, Int.reduceGT, Int.reduceGE, UInt8.reduceToNat, Int.reduceNeg, Int.reduceAdd, Int.reduceSub, Wt]
    have ew := wrap_succ (k := i) (by omega)
    have hup := upTo_len hlen hi
    refine ifD (fun hb => ?_) (fun hb => ?_)
    · have hil : i = l.length := by have := beq_iff_eq.1 hb; omega
      try simp (disch := omega) only [hf, hS, hH, hP, chunkE, ne_far, ne_far', ne_at, ne_at', far_far, far_at, at_far, lt_far, ↓Wd0, Wr0, Wr1, opnds, ofVal, ofValC, PV.cells, PV.one, PV.fit, partE, setL, pickE, intE, strE, eqC, eqCs, kindOK, aggEqE, binE, unaE, convE, fieldE, faddrE, iaddrE, indexE, loE, sliceE, nilE, fillP, buildE, elemsE, bslE, lenE, appE, stripC, strip1, strip1L, strip, tupV, resV, convT, reduceCtorEq, ↓reduceIte, Nat.reduceAdd, Nat.reduceMul, Nat.reduceSub, Nat.reduceEqDiff, Nat.reduceLeDiff, Nat.reduceBEq, Int.reduceToNat, Nat.reduceLT, Int.reduceBEq, Int.reduceBNe, Int.reduceLT, Int.reduceLE, Int.reduceGT, Int.reduceGE, UInt8.reduceToNat, Int.reduceNeg, Int.reduceAdd, Int.reduceSub, Wt]
      refine calD (may_to ⟨0, 5, 6, []⟩ (by simp)) ?_
      try simp (disch := omega) only [hf, hS, hH, ne_far, ne_far', ne_at, ne_at', far_far, far_at, at_far, lt_far, ↓Wd0, Wr0, Wr1, opnds, ofVal, ofValC, PV.cells, PV.one, PV.fit, partE, setL, pickE, intE, strE, eqC, eqCs, kindOK, aggEqE, binE, unaE, convE, fieldE, faddrE, iaddrE, indexE, loE, sliceE, nilE, fillP, buildE, elemsE, bslE, lenE, appE, stripC, strip1, strip1L, strip, tupV, resV, convT, reduceCtorEq, ↓reduceIte, Nat.reduceAdd, Nat.reduceMul, Nat.reduceSub, Nat.reduceEqDiff, Nat.reduceLeDiff, Nat.reduceBEq, Int.reduceToNat, Nat.reduceLT, Int.reduceBEq, Int.reduceBNe, Int.reduceLT, Int.reduceLE, Int.reduceGT, Int.reduceGE, UInt8.reduceToNat, Int.reduceNeg, Int.reduceAdd, Int.reduceSub, Wt]
      rfl
    · have hil : (i : Int) < l.length := by have := beq_eq_false_iff_ne.1 hb; omega
      have e := getD_map' (l := l) (k := i) chunkE [] [] hil
      try simp (disch := omega) only [hf, hS, hH, hP, e, chunkE, ne_far, ne_far', ne_at, ne_at', far_far, far_at, at_far, lt_far, ↓Wd0, Wr0, Wr1, opnds, ofVal, ofValC, PV.cells, PV.one, PV.fit, partE, setL, pickE, intE, strE, eqC, eqCs, kindOK, aggEqE, binE, unaE, convE, fieldE, faddrE, iaddrE, indexE, loE, sliceE, nilE, fillP, buildE, elemsE, bslE, lenE, appE, stripC, strip1, strip1L, strip, tupV, resV, convT, reduceCtorEq, ↓reduceIte, Nat.reduceAdd, Nat.reduceMul, Nat.reduceSub, Nat.reduceEqDiff, Nat.reduceLeDiff, Nat.reduceBEq, Int.reduceToNat, Nat.reduceLT, Int.reduceBEq, Int.reduceBNe, Int.reduceLT, Int.reduceLE, Int.reduceGT, Int.reduceGE, UInt8.reduceToNat, Int.reduceNeg, Int.reduceAdd, Int.reduceSub, Wt]
      refine ⟨by omega, ?_⟩
      refine ifD (fun hb => ?_) (fun hb => ?_)
      · try simp (disch := omega) only [hf, ne_far, ne_far', ne_at, ne_at', far_far, far_at, at_far, lt_far, ↓Wd0, Wr0, Wr1, opnds, ofVal, ofValC, PV.cells, PV.one, PV.fit, partE, setL, pickE, intE, strE, eqC, eqCs, kindOK, aggEqE, binE, unaE, convE, fieldE, faddrE, iaddrE, indexE, loE, sliceE, nilE, fillP, buildE, elemsE, bslE, lenE, appE, stripC, strip1, strip1L, strip, tupV, resV, convT, reduceCtorEq, ↓reduceIte, Nat.reduceAdd, Nat.reduceMul, Nat.reduceSub, Nat.reduceEqDiff, Nat.reduceLeDiff, Nat.reduceBEq, Int.reduceToNat, Nat.reduceLT, Int.reduceBEq, Int.reduceBNe, Int.reduceLT, Int.reduceLE, Int.reduceGT, Int.reduceGE, UInt8.reduceToNat, Int.reduceNeg, Int.reduceAdd, Int.reduceSub, Wt]
      · have hlb : ((l.getD i []).length : Int) ≤ 100 := by have := of_decide_eq_false hb; omega
        have c1 := carry_to ⟨0, 5, 6, []⟩ 5 (l.getD i []) ⟨by simp, by simp⟩ (by omega)
        rw [carry_on] at c1
        have hus := upTo_succ hil
        have hlen2 : ∀ j, j < i + 1 → (l.getD j []).length ≤ 100 := fun j hj => by
          rcases Nat.lt_succ_iff_lt_or_eq.1 hj with h | h
          · exact hlen j h
          · subst h; omega
        generalize l.getD i [] = b at *
        generalize ho : (if b = [] then [] else [sendO 6 b]) = o at c1
        have ho1 : ∀ k, k < o.length → (o.getD k default).conn = 6 ∧ (o.getD k default).kind = 0 ∧ (o.getD k default).b = b ∧ o.length = 1 := fun k hk => by
          subst ho
          split at hk
          · simp at hk
          · rename_i hne
            simp at hk
            subst hk
            simp [hne, sendO]
        have ho2 : (o.map (·.b)).flatten = b := by
          subst ho
          split
          · rename_i h; rw [h]; rfl
          · simp [sendO]
        have ho3 : o.length ≤ 1 := by
          subst ho
          split <;> simp
        try simp (disch := omega) only [hf, hS, hH, hP, e, chunkE, ne_far, ne_far', ne_at, ne_at', far_far, far_at, at_far, lt_far, ↓Wd0, Wr0, Wr1, opnds, ofVal, ofValC, PV.cells, PV.one, PV.fit, partE, setL, pickE, intE, strE, eqC, eqCs, kindOK, aggEqE, binE, unaE, convE, fieldE, faddrE, iaddrE, indexE, loE, sliceE, nilE, fillP, buildE, elemsE, bslE, lenE, appE, stripC, strip1, strip1L, strip, tupV, resV, convT, reduceCtorEq, ↓reduceIte, Nat.reduceAdd, Nat.reduceMul, Nat.reduceSub, Nat.reduceEqDiff, Nat.reduceLeDiff, Nat.reduceBEq, Int.reduceToNat, Nat.reduceLT, Int.reduceBEq, Int.reduceBNe, Int.reduceLT, Int.reduceLE, Int.reduceGT, Int.reduceGE, UInt8.reduceToNat, Int.reduceNeg, Int.reduceAdd, Int.reduceSub, Wt]
        refine ⟨by omega, ?_⟩
        refine calD c1 ?_
        try simp (disch := omega) only [hf, hS, hH, hP, e, chunkE, carriedP, GLink.cs, ne_far, ne_far', ne_at, ne_at', far_far, far_at, at_far, lt_far, ↓Wd0, Wr0, Wr1, opnds, ofVal, ofValC, PV.cells, PV.one, PV.fit, partE, setL, pickE, intE, strE, eqC, eqCs, kindOK, aggEqE, binE, unaE, convE, fieldE, faddrE, iaddrE, indexE, loE, sliceE, nilE, fillP, buildE, elemsE, bslE, lenE, appE, stripC, strip1, strip1L, strip, tupV, resV, convT, reduceCtorEq, ↓reduceIte, Nat.reduceAdd, Nat.reduceMul, Nat.reduceSub, Nat.reduceEqDiff, Nat.reduceLeDiff, Nat.reduceBEq, Int.reduceToNat, Nat.reduceLT, Int.reduceBEq, Int.reduceBNe, Int.reduceLT, Int.reduceLE, Int.reduceGT, Int.reduceGE, UInt8.reduceToNat, Int.reduceNeg, Int.reduceAdd, Int.reduceSub, Wt]
        refine ⟨cmp_r (by first | (simp; done) | (simp; omega)), ⟨cmp_l (by kernel_rfl), cmp_r (by first | (simp; done) | (simp; omega))⟩, by omega, by omega, ?_⟩
        refine loopD (M := []) mixed (by kernel_rfl) [4, 8, 17, 109, 110, 111, 112, 113, 114, 115, 116, 117, 118, 119, 120, 121, 122, 123, 124, 125, 126, 127, 128, 129, 130, 131, 132, 133, 134, 135, 136] (by kernel_rfl) (fun n f' H' N' => ∃ k : Nat, k ≤ o.length ∧ f' 17 = .int .i64 k ∧ n = o.length - k ∧ 176 < N' ∧ f' 8 = .str (upTo l i ++ ((o.take k).map (·.b)).flatten) ∧ H' 176 = some (.box [.int .i64 0, .int .i64 5, .int .i64 6, .sl 1 []])) ⟨_, 0, by omega, rfl, rfl, by omega, by try simp (disch := omega) only [hS, List.flatten_nil, ne_far, ne_far', ne_at, ne_at', far_far, far_at, at_far, lt_far, ↓Wd0, Wr0, Wr1, opnds, ofVal, ofValC, PV.cells, PV.one, PV.fit, partE, setL, pickE, intE, strE, eqC, eqCs, kindOK, aggEqE, binE, unaE, convE, fieldE, faddrE, iaddrE, indexE, loE, sliceE, nilE, fillP, buildE, elemsE, bslE, lenE, appE, stripC, strip1, strip1L, strip, tupV, resV, convT, reduceCtorEq, ↓reduceIte, Nat.reduceAdd, Nat.reduceMul, Nat.reduceSub, Nat.reduceEqDiff, Nat.reduceLeDiff, Nat.reduceBEq, Int.reduceToNat, Nat.reduceLT, Int.reduceBEq, Int.reduceBNe, Int.reduceLT, Int.reduceLE, Int.reduceGT, Int.reduceGE, UInt8.reduceToNat, Int.reduceNeg, Int.reduceAdd, Int.reduceSub, Wt], by try simp (disch := omega) only [ne_far, ne_far', ne_at, ne_at', far_far, far_at, at_far, lt_far, ↓Wd0, Wr0, Wr1, opnds, ofVal, ofValC, PV.cells, PV.one, PV.fit, partE, setL, pickE, intE, strE, eqC, eqCs, kindOK, aggEqE, binE, unaE, convE, fieldE, faddrE, iaddrE, indexE, loE, sliceE, nilE, fillP, buildE, elemsE, bslE, lenE, appE, stripC, strip1, strip1L, strip, tupV, resV, convT, reduceCtorEq, ↓reduceIte, Nat.reduceAdd, Nat.reduceMul, Nat.reduceSub, Nat.reduceEqDiff, Nat.reduceLeDiff, Nat.reduceBEq, Int.reduceToNat, Nat.reduceLT, Int.reduceBEq, Int.reduceBNe, Int.reduceLT, Int.reduceLE, Int.reduceGT, Int.reduceGE, UInt8.reduceToNat, Int.reduceNeg, Int.reduceAdd, Int.reduceSub, Wt]⟩ ?_
        rintro n f' H' N' ⟨k, hk, hfk, rfl, hN', hS', hH'⟩
        have ewk := wrap_succ (k := k) (by omega)
        try simp (disch := omega) only [hf, hfk, hS', hH', ne_far, ne_far', ne_at, ne_at', far_far, far_at, at_far, lt_far, ↓Wd0, Wr0, Wr1, opnds, ofVal, ofValC, PV.cells, PV.one, PV.fit, partE, setL, pickE, intE, strE, eqC, eqCs, kindOK, aggEqE, binE, unaE, convE, fieldE, faddrE, iaddrE, indexE, loE, sliceE, nilE, fillP, buildE, elemsE, bslE, lenE, appE, stripC, strip1, strip1L, strip, tupV, resV, convT, reduceCtorEq, ↓reduceIte, Nat.reduceAdd, Nat.reduceMul, Nat.reduceSub, Nat.reduceEqDiff, Nat.reduceLeDiff, Nat.reduceBEq, Int.reduceToNat, Nat.reduceLT, Int.reduceBEq, Int.reduceBNe, Int.reduceLT, Int.reduceLE, Int.reduceGT, Int.reduceGE, UInt8.reduceToNat, Int.reduceNeg, Int.reduceAdd, Int.reduceSub, Wt]
        refine ifD (fun hb => ?_) (fun hb => ?_)
        · have hb' : (k : Int) < o.length := of_decide_eq_true hb
          have e5 := getD_map' (l := o) (k := k) GOut.cs default [] hb'
          obtain ⟨q1, q2, q3, q4⟩ := ho1 k (by omega)
          have hk0 : k = 0 := by omega
          try simp (disch := omega) only [hf, hfk, hS', hH', e5, GOut.cs, q1, q2, q3, ne_far, ne_far', ne_at, ne_at', far_far, far_at, at_far, lt_far, ↓Wd0, Wr0, Wr1, opnds, ofVal, ofValC, PV.cells, PV.one, PV.fit, partE, setL, pickE, intE, strE, eqC, eqCs, kindOK, aggEqE, binE, unaE, convE, fieldE, faddrE, iaddrE, indexE, loE, sliceE, nilE, fillP, buildE, elemsE, bslE, lenE, appE, stripC, strip1, strip1L, strip, tupV, resV, convT, reduceCtorEq, ↓reduceIte, Nat.reduceAdd, Nat.reduceMul, Nat.reduceSub, Nat.reduceEqDiff, Nat.reduceLeDiff, Nat.reduceBEq, Int.reduceToNat, Nat.reduceLT, Int.reduceBEq, Int.reduceBNe, Int.reduceLT, Int.reduceLE, Int.reduceGT, Int.reduceGE, UInt8.reduceToNat, Int.reduceNeg, Int.reduceAdd, Int.reduceSub, Wt]
          refine ⟨by omega, ?_⟩
          try simp (disch := omega) only [hf, hfk, hS', hH', e5, GOut.cs, q1, q2, q3, ne_far, ne_far', ne_at, ne_at', far_far, far_at, at_far, lt_far, ↓Wd0, Wr0, Wr1, opnds, ofVal, ofValC, PV.cells, PV.one, PV.fit, partE, setL, pickE, intE, strE, eqC, eqCs, kindOK, aggEqE, binE, unaE, convE, fieldE, faddrE, iaddrE, indexE, loE, sliceE, nilE, fillP, buildE, elemsE, bslE, lenE, appE, stripC, strip1, strip1L, strip, tupV, resV, convT, reduceCtorEq, ↓reduceIte, Nat.reduceAdd, Nat.reduceMul, Nat.reduceSub, Nat.reduceEqDiff, Nat.reduceLeDiff, Nat.reduceBEq, Int.reduceToNat, Nat.reduceLT, Int.reduceBEq, Int.reduceBNe, Int.reduceLT, Int.reduceLE, Int.reduceGT, Int.reduceGE, UInt8.reduceToNat, Int.reduceNeg, Int.reduceAdd, Int.reduceSub, Wt]
          refine ⟨by omega, by omega, by rw [hk0]; simp; omega, _, by omega, k + 1, by omega, ewk, rfl, ?_⟩
          rw [take_succ default hb', List.map_append, List.flatten_append]
          simp only [List.map_cons, List.map_nil, List.flatten_cons, List.flatten_nil, List.append_nil, q3, List.append_assoc, List.nil_append]
        · have hko : o.take k = o := List.take_of_length_le (by have := of_decide_eq_false hb; omega)
          try simp (disch := omega) only [hf, hP, hS', hH', ew, hko, ho2, ne_far, ne_far', ne_at, ne_at', far_far, far_at, at_far, lt_far, ↓Wd0, Wr0, Wr1, opnds, ofVal, ofValC, PV.cells, PV.one, PV.fit, partE, setL, pickE, intE, strE, eqC, eqCs, kindOK, aggEqE, binE, unaE, convE, fieldE, faddrE, iaddrE, indexE, loE, sliceE, nilE, fillP, buildE, elemsE, bslE, lenE, appE, stripC, strip1, strip1L, strip, tupV, resV, convT, reduceCtorEq, ↓reduceIte, Nat.reduceAdd, Nat.reduceMul, Nat.reduceSub, Nat.reduceEqDiff, Nat.reduceLeDiff, Nat.reduceBEq, Int.reduceToNat, Nat.reduceLT, Int.reduceBEq, Int.reduceBNe, Int.reduceLT, Int.reduceLE, Int.reduceGT, Int.reduceGE, UInt8.reduceToNat, Int.reduceNeg, Int.reduceAdd, Int.reduceSub, Wt]
          refine ⟨_, by omega, i + 1, by omega, rfl, rfl, hlen2, by rw [hus]; try simp, ?_⟩
          exact .inr ⟨by omega, by rw [hus]⟩
end Go.Proofs.Ytiiloclgieofaaa
