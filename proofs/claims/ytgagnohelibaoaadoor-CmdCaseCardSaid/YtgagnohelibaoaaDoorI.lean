import Derived.Test.YtgagnohelibaoaaDoorTab
import Derived.Test.YtgagnohelibaoaaDoorM
import Derived.Test.YtgagnohelibaoaaDoorDec
import Derived.Test.YtgagnohelibaoaaDoorLb
import Derived.Lib.IndexAny
import Derived.Lib.IndexLaws
/-! What the functions of Go's library come to here: strings.Cut at a blank. -/
set_option linter.unusedSimpArgs false
set_option linter.unusedVariables false
set_option maxHeartbeats 4000000
set_option maxRecDepth 100000
namespace Go.Proofs.YtgagnohelibaoaaDoor
open Go.RowKit

theorem lite_byte (s : ByteArray) (c : Int) (w : World) : Calls Tryd.prog 60 #[.string s, .int .u8 c] w fun e w' => e = .returned (.int .i64 (Lib.indexByte s.data.toList c.toNat.toUInt8)) ∧ w' = w := by
  go_enter Tryd.func60, Tryd.ntmps60
  go_wp2
  rw [run_callFunc_extern Tryd.func65 (by kernel_rfl) (by kernel_rfl) (by kernel_rfl) (e := Extern.BytealgIndexByte.indexByte) (by kernel_rfl), Lib.run_indexByteString]
  simp only [Result.andThen]
  rw [Oper.upon_value]
  go_wp2
  go_ret
  exact ⟨rfl, rfl⟩
theorem lite_index (s : ByteArray) (c : UInt8) (w : World) : Calls Tryd.prog 54 #[.string s, .string ⟨#[c]⟩] w fun e w' => e = .returned (.int .i64 (Lib.indexByte s.data.toList c)) ∧ w' = w := by
  go_enter Tryd.func54, Tryd.ntmps54
  go_wp2_with (go_at_call 60; refine (lite_byte _ _ _).mono ?_; rintro e w' ⟨rfl, rfl⟩)
  · have h : ([c] == s.toList) = true := by assumption
    go_ret
    refine ⟨?_, rfl⟩
    have e : s.data.toList = [c] := by rw [← Lib.toList_data]; exact (beq_iff_eq.1 h).symm
    rw [e]
    simp [Lib.indexByte]
  · go_ret
    exact ⟨rfl, rfl⟩
theorem index_to (l : List UInt8) (c : UInt8) : CallsTo Tryd.prog 54 [.str l, .str [c]] (.int .i64 (Lib.indexByte l c)) [] :=
  callsTo_same (by kernel_rfl) rfl rfl fun w _ => by
    have := lite_index ⟨l.toArray⟩ c w
    simpa using this
/-- Where the first blank is. -/
def spot : List UInt8 → Nat
  | [] => 0
  | c :: l => if c == 32 then 0 else spot l + 1
theorem spot_le : ∀ l : List UInt8, spot l ≤ l.length
  | [] => Nat.le_refl _
  | c :: l => by
    unfold spot
    split
    · omega
    · have := spot_le l
      rw [List.length_cons]
      omega
theorem index_spot : ∀ l : List UInt8, Lib.indexByte l 32 = if spot l < l.length then (spot l : Int) else -1
  | [] => rfl
  | c :: l => by
    have ih := index_spot l
    by_cases hc : c = 32
    · subst hc
      have e1 : spot (32 :: l) = 0 := rfl
      rw [e1, if_pos (by simp)]
      simp [Lib.indexByte]
    · have h1 : (c == 32) = false := beq_eq_false_iff_ne.2 hc
      have e1 : spot (c :: l) = spot l + 1 := by rw [spot, h1]; rfl
      rw [e1, Lib.indexByte, List.length_cons]
      simp only [h1, Bool.false_eq_true, if_false]
      rw [ih]
      by_cases h : spot l < l.length
      · have h2 : ((spot l : Int) == -1) = false := beq_eq_false_iff_ne.2 (by omega)
        have h3 : spot l + 1 < l.length + 1 := by omega
        simp only [h, h2, h3, if_true, Bool.false_eq_true, if_false]
        omega
      · have h3 : ¬ (spot l + 1 < l.length + 1) := by omega
        simp [h, h3]
def cutA (s : List UInt8) : List UInt8 := s.take (spot s)
def cutD (s : List UInt8) : List UInt8 := s.drop (spot s + 1)
theorem litecut_to (s : List UInt8) (hs : s.length ≤ 9223372036854775806) : CallsTo Tryd.prog 40 [.str s, .str [32]] (.tup [.str (cutA s), .str (cutD s), .bool (decide (spot s < s.length))]) [] := by
  have hl := spot_le s
  refine callsTo_of mixed Tryd.func40 rfl Tryd.ntmps40 Tryd.results40 (by kernel_rfl) (by kernel_rfl) (by simp) [] ?_
  simp only [↓Wd0, Wr0, Wr1, opnds, ofVal, ofValC, PV.cells, PV.one, PV.fit, partE, setL, pickE, intE, strE, eqC, eqCs, kindOK, aggEqE, binE, unaE, mkiE, convE, fieldE, faddrE, iaddrE, indexE, loE, sliceE, nilE, fillP, buildE, elemsE, bslE, lenE, appE, stripC, strip1, strip1L, strip, tupV, resV, convT, convN, sliceB, sliceA, sliceO, convB, clearE, appB, lookE, insE, keyOK, rangeE, reduceCtorEq, ↓reduceIte, Nat.reduceAdd, Nat.reduceMul, Nat.reduceSub, Nat.reduceEqDiff, Nat.reduceLeDiff, Nat.reduceBEq, Int.reduceToNat, Nat.reduceLT, Int.reduceBEq, Int.reduceBNe, Int.reduceLT, Int.reduceLE, Int.reduceGT, Int.reduceGE, UInt8.reduceToNat, Int.reduceNeg, Int.reduceAdd, Int.reduceSub, Wt]
  refine calD (index_to s 32) ?_
  rw [index_spot]
  by_cases h : spot s < s.length
  · have h0 : decide ((spot s : Int) ≥ 0) = true := decide_eq_true (by omega)
    have ew := wrap_succ (k := spot s) (by omega)
    rw [if_pos h]
    try simp only [h0, h, ↓Wd0, Wr0, Wr1, opnds, ofVal, ofValC, PV.cells, PV.one, PV.fit, partE, setL, pickE, intE, strE, eqC, eqCs, kindOK, aggEqE, binE, unaE, mkiE, convE, fieldE, faddrE, iaddrE, indexE, loE, sliceE, nilE, fillP, buildE, elemsE, bslE, lenE, appE, stripC, strip1, strip1L, strip, tupV, resV, convT, convN, sliceB, sliceA, sliceO, convB, clearE, appB, lookE, insE, keyOK, rangeE, reduceCtorEq, ↓reduceIte, Nat.reduceAdd, Nat.reduceMul, Nat.reduceSub, Nat.reduceEqDiff, Nat.reduceLeDiff, Nat.reduceBEq, Int.reduceToNat, Nat.reduceLT, Int.reduceBEq, Int.reduceBNe, Int.reduceLT, Int.reduceLE, Int.reduceGT, Int.reduceGE, UInt8.reduceToNat, Int.reduceNeg, Int.reduceAdd, Int.reduceSub, Wt]
    repeat' (first | (refine ifD (fun hb => ?_) (fun hb => ?_) <;> (try simp only [decide_eq_true_eq, decide_eq_false_iff_not, Int.not_lt, Int.not_le, Bool.not_eq_true', Bool.not_eq_false', beq_iff_eq, beq_eq_false_iff_ne, bne_iff_ne, ne_eq, not_true_eq_false, not_false_eq_true, reduceCtorEq, eq_self] at hb) <;> (try simp only [h0, ew, ↓Wd0, Wr0, Wr1, opnds, ofVal, ofValC, PV.cells, PV.one, PV.fit, partE, setL, pickE, intE, strE, eqC, eqCs, kindOK, aggEqE, binE, unaE, mkiE, convE, fieldE, faddrE, iaddrE, indexE, loE, sliceE, nilE, fillP, buildE, elemsE, bslE, lenE, appE, stripC, strip1, strip1L, strip, tupV, resV, convT, convN, sliceB, sliceA, sliceO, convB, clearE, appB, lookE, insE, keyOK, rangeE, reduceCtorEq, ↓reduceIte, Nat.reduceAdd, Nat.reduceMul, Nat.reduceSub, Nat.reduceEqDiff, Nat.reduceLeDiff, Nat.reduceBEq, Int.reduceToNat, Nat.reduceLT, Int.reduceBEq, Int.reduceBNe, Int.reduceLT, Int.reduceLE, Int.reduceGT, Int.reduceGE, UInt8.reduceToNat, Int.reduceNeg, Int.reduceAdd, Int.reduceSub, Wt])) | (with_reducible apply And.intro)) <;> (try (first | omega | (exfalso; omega) | exact cmp_r (by first | (simp; done) | (simp; omega)) | exact cmp_l (by kernel_rfl)))
    · rfl
    · rw [ew]
      rfl
  · have h1 : cutA s = s := List.take_of_length_le (by omega)
    have h2 : cutD s = [] := List.drop_eq_nil_of_le (by omega)
    have h3 : decide (spot s < s.length) = false := decide_eq_false h
    rw [if_neg h]
    try simp only [h1, h2, h3, ↓Wd0, Wr0, Wr1, opnds, ofVal, ofValC, PV.cells, PV.one, PV.fit, partE, setL, pickE, intE, strE, eqC, eqCs, kindOK, aggEqE, binE, unaE, mkiE, convE, fieldE, faddrE, iaddrE, indexE, loE, sliceE, nilE, fillP, buildE, elemsE, bslE, lenE, appE, stripC, strip1, strip1L, strip, tupV, resV, convT, convN, sliceB, sliceA, sliceO, convB, clearE, appB, lookE, insE, keyOK, rangeE, reduceCtorEq, ↓reduceIte, Nat.reduceAdd, Nat.reduceMul, Nat.reduceSub, Nat.reduceEqDiff, Nat.reduceLeDiff, Nat.reduceBEq, Int.reduceToNat, Nat.reduceLT, Int.reduceBEq, Int.reduceBNe, Int.reduceLT, Int.reduceLE, Int.reduceGT, Int.reduceGE, UInt8.reduceToNat, Int.reduceNeg, Int.reduceAdd, Int.reduceSub, Wt]
theorem cut_to (s : List UInt8) (hs : s.length ≤ 9223372036854775806) : CallsTo Tryd.prog 31 [.str s, .str [32]] (.tup [.str (cutA s), .str (cutD s), .bool (decide (spot s < s.length))]) [] := by
  refine callsTo_of mixed Tryd.func31 rfl Tryd.ntmps31 Tryd.results31 (by kernel_rfl) (by kernel_rfl) (by simp) [] ?_
  simp only [↓Wd0, Wr0, Wr1, opnds, ofVal, ofValC, PV.cells, PV.one, PV.fit, partE, setL, pickE, intE, strE, eqC, eqCs, kindOK, aggEqE, binE, unaE, mkiE, convE, fieldE, faddrE, iaddrE, indexE, loE, sliceE, nilE, fillP, buildE, elemsE, bslE, lenE, appE, stripC, strip1, strip1L, strip, tupV, resV, convT, convN, sliceB, sliceA, sliceO, convB, clearE, appB, lookE, insE, keyOK, rangeE, reduceCtorEq, ↓reduceIte, Nat.reduceAdd, Nat.reduceMul, Nat.reduceSub, Nat.reduceEqDiff, Nat.reduceLeDiff, Nat.reduceBEq, Int.reduceToNat, Nat.reduceLT, Int.reduceBEq, Int.reduceBNe, Int.reduceLT, Int.reduceLE, Int.reduceGT, Int.reduceGE, UInt8.reduceToNat, Int.reduceNeg, Int.reduceAdd, Int.reduceSub, Wt]
  refine calD (litecut_to s hs) ?_
  try simp only [↓Wd0, Wr0, Wr1, opnds, ofVal, ofValC, PV.cells, PV.one, PV.fit, partE, setL, pickE, intE, strE, eqC, eqCs, kindOK, aggEqE, binE, unaE, mkiE, convE, fieldE, faddrE, iaddrE, indexE, loE, sliceE, nilE, fillP, buildE, elemsE, bslE, lenE, appE, stripC, strip1, strip1L, strip, tupV, resV, convT, convN, sliceB, sliceA, sliceO, convB, clearE, appB, lookE, insE, keyOK, rangeE, reduceCtorEq, ↓reduceIte, Nat.reduceAdd, Nat.reduceMul, Nat.reduceSub, Nat.reduceEqDiff, Nat.reduceLeDiff, Nat.reduceBEq, Int.reduceToNat, Nat.reduceLT, Int.reduceBEq, Int.reduceBNe, Int.reduceLT, Int.reduceLE, Int.reduceGT, Int.reduceGE, UInt8.reduceToNat, Int.reduceNeg, Int.reduceAdd, Int.reduceSub, Wt]
end Go.Proofs.YtgagnohelibaoaaDoor
