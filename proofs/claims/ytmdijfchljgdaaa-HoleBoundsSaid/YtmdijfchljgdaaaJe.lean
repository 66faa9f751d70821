import Derived.Test.YtmdijfchljgdaaaJd
/-! Delete, and Match. -/
set_option linter.unusedSimpArgs false
set_option linter.unusedVariables false
set_option maxHeartbeats 4000000
set_option maxRecDepth 100000
namespace Go.Proofs.Ytmdijfchljgdaaa
open Go.RowKit

def dropAt (l : List GHole) (i : Nat) : List GHole := l.take i ++ l.drop (i + 1)
theorem dropAt_len {l : List GHole} {i : Nat} (h : i < l.length) : (dropAt l i).length = l.length - 1 := by simp [dropAt]; omega
theorem deleteOne (nm : Nat) (l : List GHole) (i : Nat) (hi : i < l.length) (hl : l.length ≤ 1000000) : InTo Try.prog 33 [.bs nm 0 13 l.length l.length, .int .i64 i, .int .i64 ((i + 1 : Nat) : Int)] [(nm, .box (boxH l))] (fun _ => .bs nm 0 13 (dropAt l i).length l.length) (fun _ => [(nm, some (.box (boxH (dropAt l i) ++ zerosH 1)))]) := by
  refine inTo_of mixed Try.func33 rfl Try.ntmps33 Try.results33 (by kernel_rfl) (by kernel_rfl) (by simp) (by simp) [] (fun H0 N0 nb hH0 hN0 => ?_)
  have hbox : H0 nm = some (.box (boxH l)) := (hH0 (nm, .box (boxH l)) (by simp)).1
  have hnmN : nm < N0 := (hH0 (nm, .box (boxH l)) (by simp)).2.1
  have hnb : ¬ (nb ≤ nm ∧ nm < nb + 8) := (hH0 (nm, .box (boxH l)) (by simp)).2.2
  have d1 : ((i : Int) == ((i + 1 : Nat) : Int)) = false := by simp; omega
  try simp (disch := omega) only [hbox, d1, ne_far, ne_far', ne_at, ne_at', far_far, far_at, at_far, lt_far, ↓Wd0, Wr0, Wr1, opnds, ofVal, ofValC, PV.cells, PV.one, PV.fit, partE, setL, pickE, intE, strE, eqC, eqCs, kindOK, aggEqE, binE, unaE, convE, fieldE, faddrE, iaddrE, indexE, loE, sliceE, nilE, fillP, buildE, elemsE, bslE, lenE, appE, stripC, strip1, strip1L, strip, tupV, resV, convT, convN, sliceB, sliceA, sliceO, convB, clearE, appB, lookE, insE, keyOK, reduceCtorEq, ↓reduceIte, Nat.reduceAdd, Nat.reduceMul, Nat.reduceSub, Nat.reduceEqDiff, Nat.reduceLeDiff, Nat.reduceBEq, Int.reduceToNat, Nat.reduceLT, Int.reduceBEq, Int.reduceBNe, Int.reduceLT, Int.reduceLE, Int.reduceGT, Int.reduceGE, UInt8.reduceToNat, Int.reduceNeg, Int.reduceAdd, Int.reduceSub, Wt]
  have m1 : i - 0 + (l.length - (i + 1)) = l.length - 1 := by omega
  have m2 : i - 0 = i := by omega
  have m3 : l.length - 0 = l.length := by omega
  have m4 : l.length - (l.length - 1) = 1 := by omega
  have m5 : 0 + (i + 1) * 13 = (i + 1) * 13 := by omega
  have m6 : 0 + i * 13 = i * 13 := by omega
  have m7 : 0 + (l.length - 1) * 13 = (l.length - 1) * 13 := by omega
  have hA : List.take ((l.length - (i + 1)) * 13) (List.drop ((i + 1) * 13) (boxH l)) = boxH (l.drop (i + 1)) := by
    rw [boxH_drop, List.take_of_length_le (by rw [boxH_len]; simp)]
  have hS : setL (boxH l) (i * 13) (boxH (l.drop (i + 1))) = boxH (dropAt l i) ++ boxH (l.drop (l.length - 1)) := by
    rw [setL_eq _ _ _ (by rw [boxH_len, boxH_len]; simp; omega), boxH_take, boxH_len, show i * 13 + (l.drop (i + 1)).length * 13 = (l.length - 1) * 13 by simp; omega, boxH_drop, dropAt, boxH_app]
  have hT : setL (boxH (dropAt l i) ++ boxH (l.drop (l.length - 1))) ((l.length - 1) * 13) (zerosH 1) = boxH (dropAt l i) ++ zerosH 1 := by
    have hz : (zerosH 1).length = 13 := rfl
    have hd : (boxH (dropAt l i)).length = (l.length - 1) * 13 := by rw [boxH_len, dropAt_len hi]
    have he : (boxH (l.drop (l.length - 1))).length = 13 := by rw [boxH_len]; simp; omega
    rw [setL_eq _ _ _ (by rw [List.length_append, hd, hz, he]; omega), List.take_left' hd, hz, List.drop_of_length_le (by rw [List.length_append, hd, he]; omega), List.append_nil]
  rw [m5] at *
  rw [m1, m2, m3, m4, m6, m7, hA, hS]
  refine ⟨by omega, by omega, by omega, ⟨⟨by omega, by rw [boxH_len]; omega, by rw [boxH_len]; omega⟩, fun p hp => ?_⟩, by omega, ?_, ?_⟩
  · obtain ⟨k, n, rfl⟩ := plain_box _ p hp
    rfl
  · rw [List.length_append, boxH_len, boxH_len, dropAt_len hi]
    simp
    omega
  · exact endI_bs hN0 hnmN (by simp) hnb (by rw [upd_same]; exact congrArg (fun c => some (HObj.box c)) hT) (fun x hx hxn => by rw [upd_ne _ _ hxn, upd_ne _ _ hxn]) (plain_app (plain_box _) (plain_zeros 1)) (dropAt_len hi).symm
abbrev Mtc := List GHole × GHole × Bool
def zeroH : GHole := ⟨0, 0, 0, 0, 0, 0, 0, 0, 0, 0, 0, 0, 0⟩
def matchB (l : List GHole) (port : Int) (q : GHost) (now : Int) : Mtc :=
  if idxH (matchP port q now) l = -1 then (l, zeroH, false) else (dropAt l (idxH (matchP port q now) l).toNat, l.getD (idxH (matchP port q now) l).toNat default, true)
def mtcP (r : Mtc) : PV := .tup [.sl 1 (r.1.map GHole.cs), .agg r.2.1.cs, .bool r.2.2]
theorem index_noneM (a b c : Nat) : InTo Try.prog 31 [.sl 1 [], .clo (.func 32) [] [.ptr a 0, .ptr b 0, .ptr c 0]] [] (fun _ => .int .i64 (-1)) (fun _ => []) := by
  refine inTo_of mixed Try.func31 rfl Try.ntmps31 Try.results31 (by kernel_rfl) (by kernel_rfl) (by simp) (by simp) [] (fun H0 N0 nb hH0 hN0 => ?_)
  try simp only [↓Wd0, Wr0, Wr1, opnds, ofVal, ofValC, PV.cells, PV.one, PV.fit, partE, setL, pickE, intE, strE, eqC, eqCs, kindOK, aggEqE, binE, unaE, convE, fieldE, faddrE, iaddrE, indexE, loE, sliceE, nilE, fillP, buildE, elemsE, bslE, lenE, appE, stripC, strip1, strip1L, strip, tupV, resV, convT, convN, sliceB, sliceA, sliceO, convB, clearE, appB, lookE, insE, keyOK, reduceCtorEq, ↓reduceIte, Nat.reduceAdd, Nat.reduceMul, Nat.reduceSub, Nat.reduceEqDiff, Nat.reduceLeDiff, Nat.reduceBEq, Int.reduceToNat, Nat.reduceLT, Int.reduceBEq, Int.reduceBNe, Int.reduceLT, Int.reduceLE, Int.reduceGT, Int.reduceGE, UInt8.reduceToNat, Int.reduceNeg, Int.reduceAdd, Int.reduceSub, Wt]
  refine loopD (M := []) mixed (by kernel_rfl) [4, 5, 8, 9, 10, 11, 12, 13, 14, 15, 16, 17, 18] (by kernel_rfl) (fun n f H N => f 8 = .int .i64 0 ∧ n = 0 ∧ (∀ m, m < N0 → H m = H0 m)) ⟨_, rfl, rfl, fun _ _ => rfl⟩ ?_
  rintro n f H N ⟨hf, rfl, hold⟩
  try simp only [hf, ↓Wd0, Wr0, Wr1, opnds, ofVal, ofValC, PV.cells, PV.one, PV.fit, partE, setL, pickE, intE, strE, eqC, eqCs, kindOK, aggEqE, binE, unaE, convE, fieldE, faddrE, iaddrE, indexE, loE, sliceE, nilE, fillP, buildE, elemsE, bslE, lenE, appE, stripC, strip1, strip1L, strip, tupV, resV, convT, convN, sliceB, sliceA, sliceO, convB, clearE, appB, lookE, insE, keyOK, reduceCtorEq, ↓reduceIte, Nat.reduceAdd, Nat.reduceMul, Nat.reduceSub, Nat.reduceEqDiff, Nat.reduceLeDiff, Nat.reduceBEq, Int.reduceToNat, Nat.reduceLT, Int.reduceBEq, Int.reduceBNe, Int.reduceLT, Int.reduceLE, Int.reduceGT, Int.reduceGE, UInt8.reduceToNat, Int.reduceNeg, Int.reduceAdd, Int.reduceSub, Wt]
  exact endI_int rfl hold
theorem match_nil (port : Int) (q : GHost) (now : Int) : CallsTo Try.prog 15 [.sl 1 [], .int .i64 port, .agg q.cs, .int .i64 now] (mtcP ([], zeroH, false)) [] := by
  refine callsTo_of mixed Try.func15 rfl Try.ntmps15 Try.results15 (by kernel_rfl) (by kernel_rfl) (by simp) [] ?_
  simp only [↓Wd0, Wr0, Wr1, opnds, ofVal, ofValC, PV.cells, PV.one, PV.fit, partE, setL, pickE, intE, strE, eqC, eqCs, kindOK, aggEqE, binE, unaE, convE, fieldE, faddrE, iaddrE, indexE, loE, sliceE, nilE, fillP, buildE, elemsE, bslE, lenE, appE, stripC, strip1, strip1L, strip, tupV, resV, convT, convN, sliceB, sliceA, sliceO, convB, clearE, appB, lookE, insE, keyOK, reduceCtorEq, ↓reduceIte, Nat.reduceAdd, Nat.reduceMul, Nat.reduceSub, Nat.reduceEqDiff, Nat.reduceLeDiff, Nat.reduceBEq, Int.reduceToNat, Nat.reduceLT, Int.reduceBEq, Int.reduceBNe, Int.reduceLT, Int.reduceLE, Int.reduceGT, Int.reduceGE, UInt8.reduceToNat, Int.reduceNeg, Int.reduceAdd, Int.reduceSub, Wt]
  refine calD clone_none ?_
  try simp only [GHost.cs, ↓Wd0, Wr0, Wr1, opnds, ofVal, ofValC, PV.cells, PV.one, PV.fit, partE, setL, pickE, intE, strE, eqC, eqCs, kindOK, aggEqE, binE, unaE, convE, fieldE, faddrE, iaddrE, indexE, loE, sliceE, nilE, fillP, buildE, elemsE, bslE, lenE, appE, stripC, strip1, strip1L, strip, tupV, resV, convT, convN, sliceB, sliceA, sliceO, convB, clearE, appB, lookE, insE, keyOK, reduceCtorEq, ↓reduceIte, Nat.reduceAdd, Nat.reduceMul, Nat.reduceSub, Nat.reduceEqDiff, Nat.reduceLeDiff, Nat.reduceBEq, Int.reduceToNat, Nat.reduceLT, Int.reduceBEq, Int.reduceBNe, Int.reduceLT, Int.reduceLE, Int.reduceGT, Int.reduceGE, UInt8.reduceToNat, Int.reduceNeg, Int.reduceAdd, Int.reduceSub, Wt]
  refine inD (index_noneM _ _ _) (fun x hx => by simp at hx) ?_
  try simp only [GHost.cs, ↓Wd0, Wr0, Wr1, opnds, ofVal, ofValC, PV.cells, PV.one, PV.fit, partE, setL, pickE, intE, strE, eqC, eqCs, kindOK, aggEqE, binE, unaE, convE, fieldE, faddrE, iaddrE, indexE, loE, sliceE, nilE, fillP, buildE, elemsE, bslE, lenE, appE, stripC, strip1, strip1L, strip, tupV, resV, convT, convN, sliceB, sliceA, sliceO, convB, clearE, appB, lookE, insE, keyOK, reduceCtorEq, ↓reduceIte, Nat.reduceAdd, Nat.reduceMul, Nat.reduceSub, Nat.reduceEqDiff, Nat.reduceLeDiff, Nat.reduceBEq, Int.reduceToNat, Nat.reduceLT, Int.reduceBEq, Int.reduceBNe, Int.reduceLT, Int.reduceLE, Int.reduceGT, Int.reduceGE, UInt8.reduceToNat, Int.reduceNeg, Int.reduceAdd, Int.reduceSub, Wt]
  rfl
theorem match_some (l : List GHole) (port : Int) (q : GHost) (now : Int) (hne : l ≠ []) (hl : l.length ≤ 1000000) : CallsTo Try.prog 15 [.sl 1 (l.map GHole.cs), .int .i64 port, .agg q.cs, .int .i64 now] (mtcP (matchB l port q now)) [] := by
  have hpos : 0 < l.length := List.length_pos_iff.2 hne
  refine callsTo_of mixed Try.func15 rfl Try.ntmps15 Try.results15 (by kernel_rfl) (by kernel_rfl) (by simp) [] ?_
  simp only [↓Wd0, Wr0, Wr1, opnds, ofVal, ofValC, PV.cells, PV.one, PV.fit, partE, setL, pickE, intE, strE, eqC, eqCs, kindOK, aggEqE, binE, unaE, convE, fieldE, faddrE, iaddrE, indexE, loE, sliceE, nilE, fillP, buildE, elemsE, bslE, lenE, appE, stripC, strip1, strip1L, strip, tupV, resV, convT, convN, sliceB, sliceA, sliceO, convB, clearE, appB, lookE, insE, keyOK, reduceCtorEq, ↓reduceIte, Nat.reduceAdd, Nat.reduceMul, Nat.reduceSub, Nat.reduceEqDiff, Nat.reduceLeDiff, Nat.reduceBEq, Int.reduceToNat, Nat.reduceLT, Int.reduceBEq, Int.reduceBNe, Int.reduceLT, Int.reduceLE, Int.reduceGT, Int.reduceGE, UInt8.reduceToNat, Int.reduceNeg, Int.reduceAdd, Int.reduceSub, Wt]
  refine calDb (clone_some l hne hl) ⟨by simp, hpos, fun x hx => ?_⟩ ?_
  · obtain ⟨y, _, rfl⟩ := List.mem_map.1 hx
    refine ⟨rfl, fun q hq => ?_⟩
    obtain ⟨k, n, rfl⟩ := plain_cs y q hq
    rfl
  try simp only [GHost.cs, ↓Wd0, Wr0, Wr1, opnds, ofVal, ofValC, PV.cells, PV.one, PV.fit, partE, setL, pickE, intE, strE, eqC, eqCs, kindOK, aggEqE, binE, unaE, convE, fieldE, faddrE, iaddrE, indexE, loE, sliceE, nilE, fillP, buildE, elemsE, bslE, lenE, appE, stripC, strip1, strip1L, strip, tupV, resV, convT, convN, sliceB, sliceA, sliceO, convB, clearE, appB, lookE, insE, keyOK, reduceCtorEq, ↓reduceIte, Nat.reduceAdd, Nat.reduceMul, Nat.reduceSub, Nat.reduceEqDiff, Nat.reduceLeDiff, Nat.reduceBEq, Int.reduceToNat, Nat.reduceLT, Int.reduceBEq, Int.reduceBNe, Int.reduceLT, Int.reduceLE, Int.reduceGT, Int.reduceGE, UInt8.reduceToNat, Int.reduceNeg, Int.reduceAdd, Int.reduceSub, Wt]
  refine inD (indexM port q now 8 16 80 (by omega) 56 (by omega) l hl) (fun x hx => ?_) ?_
  · simp only [List.mem_cons, List.not_mem_nil, or_false] at hx
    rcases hx with rfl | rfl | rfl | rfl <;> rfl
  by_cases hi : idxH (matchP port q now) l = -1
  · have d0 : decide ((-1 : Int) < 0) = true := rfl
    have em : matchB l port q now = (l, zeroH, false) := by unfold matchB; rw [if_pos hi]
    rw [hi, em]
    try simp only [GHost.cs, ↓Wd0, Wr0, Wr1, opnds, ofVal, ofValC, PV.cells, PV.one, PV.fit, partE, setL, pickE, intE, strE, eqC, eqCs, kindOK, aggEqE, binE, unaE, convE, fieldE, faddrE, iaddrE, indexE, loE, sliceE, nilE, fillP, buildE, elemsE, bslE, lenE, appE, stripC, strip1, strip1L, strip, tupV, resV, convT, convN, sliceB, sliceA, sliceO, convB, clearE, appB, lookE, insE, keyOK, reduceCtorEq, ↓reduceIte, Nat.reduceAdd, Nat.reduceMul, Nat.reduceSub, Nat.reduceEqDiff, Nat.reduceLeDiff, Nat.reduceBEq, Int.reduceToNat, Nat.reduceLT, Int.reduceBEq, Int.reduceBNe, Int.reduceLT, Int.reduceLE, Int.reduceGT, Int.reduceGE, UInt8.reduceToNat, Int.reduceNeg, Int.reduceAdd, Int.reduceSub, Wt]
    have eb := endB_box l []
    rw [List.append_nil] at eb
    rw [show (List.map GHole.cs l).flatten = boxH l from rfl, eb]
    rfl
  · obtain ⟨i0, hi0, _, hi2, hi3, _⟩ := idx_pos (p := matchP port q now) (l := l) l.length 0 hi
    have hi1 : idxH (matchP port q now) l = (i0 : Int) := hi0
    have hlt : i0 < l.length := by omega
    have em : matchB l port q now = (dropAt l i0, l.getD i0 default, true) := by unfold matchB; rw [if_neg hi, hi1]; rfl
    have d0 : decide ((i0 : Int) < 0) = false := decide_eq_false (by omega)
    have e0 : 0 + i0 * 13 = i0 * 13 := by omega
    have e0' : 0 + (i0 * 13 + 13) = i0 * 13 + 13 := by omega
    have e1 : (i0 * 13 + 13 ≤ (boxH l).length) = True := eq_true (by rw [boxH_len]; omega)
    have e2 := boxH_at (l := l) (k := i0) hlt
    have ew := wrap_succ (k := i0) (by omega)
    have eb : (List.map GHole.cs l).flatten = boxH l := rfl
    rw [hi1, em]
    try simp only [GHost.cs, d0, eb, e0, e0', e1, e2, if_true, GHole.cs, ew, ↓Wd0, Wr0, Wr1, opnds, ofVal, ofValC, PV.cells, PV.one, PV.fit, partE, setL, pickE, intE, strE, eqC, eqCs, kindOK, aggEqE, binE, unaE, convE, fieldE, faddrE, iaddrE, indexE, loE, sliceE, nilE, fillP, buildE, elemsE, bslE, lenE, appE, stripC, strip1, strip1L, strip, tupV, resV, convT, convN, sliceB, sliceA, sliceO, convB, clearE, appB, lookE, insE, keyOK, reduceCtorEq, ↓reduceIte, Nat.reduceAdd, Nat.reduceMul, Nat.reduceSub, Nat.reduceEqDiff, Nat.reduceLeDiff, Nat.reduceBEq, Int.reduceToNat, Nat.reduceLT, Int.reduceBEq, Int.reduceBNe, Int.reduceLT, Int.reduceLE, Int.reduceGT, Int.reduceGE, UInt8.reduceToNat, Int.reduceNeg, Int.reduceAdd, Int.reduceSub, Wt]
    refine ⟨by omega, ?_⟩
    refine inD (deleteOne 56 l i0 hlt hl) (fun x hx => ?_) ?_
    · simp only [List.mem_singleton] at hx
      subst hx
      rfl
    have ec := endB_box (dropAt l i0) (zerosH 1)
    try simp only [ec, ↓Wd0, Wr0, Wr1, opnds, ofVal, ofValC, PV.cells, PV.one, PV.fit, partE, setL, pickE, intE, strE, eqC, eqCs, kindOK, aggEqE, binE, unaE, convE, fieldE, faddrE, iaddrE, indexE, loE, sliceE, nilE, fillP, buildE, elemsE, bslE, lenE, appE, stripC, strip1, strip1L, strip, tupV, resV, convT, convN, sliceB, sliceA, sliceO, convB, clearE, appB, lookE, insE, keyOK, reduceCtorEq, ↓reduceIte, Nat.reduceAdd, Nat.reduceMul, Nat.reduceSub, Nat.reduceEqDiff, Nat.reduceLeDiff, Nat.reduceBEq, Int.reduceToNat, Nat.reduceLT, Int.reduceBEq, Int.reduceBNe, Int.reduceLT, Int.reduceLE, Int.reduceGT, Int.reduceGE, UInt8.reduceToNat, Int.reduceNeg, Int.reduceAdd, Int.reduceSub, Wt]
    exact ⟨cmp_r (by simp), ⟨cmp_r (by simp), cmp_r (by simp)⟩, rfl⟩
theorem match_to (l : List GHole) (port : Int) (q : GHost) (now : Int) (hl : l.length ≤ 1000000) : CallsTo Try.prog 15 [.sl 1 (l.map GHole.cs), .int .i64 port, .agg q.cs, .int .i64 now] (mtcP (matchB l port q now)) [] := by
  by_cases hne : l = []
  · subst hne
    exact match_nil port q now
  · exact match_some l port q now hne hl
end Go.Proofs.Ytmdijfchljgdaaa
