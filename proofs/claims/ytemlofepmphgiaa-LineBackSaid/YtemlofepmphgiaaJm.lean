import Derived.Test.YtemlofepmphgiaaJl
/-! The chapter's example; the stage's theorem. -/
set_option linter.unusedSimpArgs false
set_option linter.unusedVariables false
set_option maxHeartbeats 4000000
set_option maxRecDepth 100000
namespace Go.Proofs.Ytemlofepmphgiaa
open Go.RowKit

theorem fr_weak {S : Addr → Prop} {w : World} {t : Nat} {b : List UInt8} {c k : Bool} {v : Value} (h : CRel S w (frT t b c k) v) : CRel S w (frT 1 b c k) v := by
  cases h with
  | agg cs arr hs h =>
    refine .agg _ arr hs fun i p hi => ?_
    match i, hi with
    | 0, hi => cases hi; exact sl_weak (h 0 _ rfl)
    | 1, hi => cases hi; exact h 1 _ rfl
    | 2, hi => cases hi; exact h 2 _ rfl
    | n + 3, hi => cases hi
def feedR (most : Int) (alone : Bool) (b : List UInt8) (cr skip : Bool) (bs : List UInt8) : Rd := feedS most alone ⟨b, cr, skip, []⟩ bs
theorem feedT_to (t u : Nat) (b : List UInt8) (cr skip : Bool) (bs : List UInt8) (most : Int) (alone : Bool) (hf : b.length ≤ 100000) (hb : bs.length ≤ 100000) : CallsTo Try.prog 10 [frT t b cr skip, .sl u (bs.map byteE), .int .i64 most, .bool alone] (feedR most alone b cr skip bs).pv [] :=
  to_weak (feed_to ⟨b, cr, skip⟩ bs most alone hf hb) rfl fun i p hi => by
    match i, hi with
    | 0, hi => cases hi; exact ⟨_, rfl, fun S w v h => fr_weak h⟩
    | 1, hi => cases hi; exact ⟨_, rfl, fun S w v h => sl_weak h⟩
    | 2, hi => cases hi; exact ⟨_, rfl, fun S w v h => h⟩
    | 3, hi => cases hi; exact ⟨_, rfl, fun S w v h => h⟩
    | n + 4, hi => cases hi
deriving instance DecidableEq for Rd
theorem awake_to : CallsTo Try.prog 9 [] (.bool true) [] := by
  obtain ⟨bc, hbc⟩ : ∃ l : List UInt8, l = [99] := ⟨_, rfl⟩
  obtain ⟨bp, hbp⟩ : ∃ l : List UInt8, l = [97, 98] ++ [13, 10] := ⟨_, rfl⟩
  have e1 : feedR 100 false [] false false [97, 98, 13, 10, 99] = ⟨bc, false, false, [⟨[97, 98], false⟩]⟩ := by rw [hbc]; decide +kernel
  have e2 : badP [97, 98] 100 = false := by decide +kernel
  have e3 : (bc == [99]) = true := by rw [hbc]; rfl
  have e4 : (bp == [97, 98, 13, 10]) = true := by rw [hbp]; rfl
  have e5 : (bc == bc) = true := beq_self_eq_true bc
  refine callsTo_of mixed Try.func9 rfl Try.ntmps9 Try.results9 (by kernel_rfl) (by kernel_rfl) (by simp) [7] ?_
  simp only [↓Wd0, Wr0, Wr1, opnds, ofVal, ofValC, PV.cells, PV.one, PV.fit, partE, setL, pickE, intE, strE, eqC, eqCs, kindOK, aggEqE, binE, unaE, convE, fieldE, faddrE, iaddrE, indexE, loE, sliceE, nilE, fillP, buildE, elemsE, bslE, lenE, appE, stripC, strip1, strip1L, strip, tupV, resV, convT, convN, sliceB, sliceA, sliceO, convB, clearE, appB, lookE, insE, keyOK, rangeE, reduceCtorEq, ↓reduceIte, Nat.reduceAdd, Nat.reduceMul, Nat.reduceSub, Nat.reduceEqDiff, Nat.reduceLeDiff, Nat.reduceBEq, Int.reduceToNat, Nat.reduceLT, Int.reduceBEq, Int.reduceBNe, Int.reduceLT, Int.reduceLE, Int.reduceGT, Int.reduceGE, UInt8.reduceToNat, Int.reduceNeg, Int.reduceAdd, Int.reduceSub, Wt]
  refine calD (feedT_to 1 1 [] false false [97, 98, 13, 10, 99] 100 false (by simp) (by simp)) ?_
  rw [e1]
  try simp only [Rd.pv, List.map_cons, List.map_nil, GLine.cs, ↓Wd0, Wr0, Wr1, opnds, ofVal, ofValC, PV.cells, PV.one, PV.fit, partE, setL, pickE, intE, strE, eqC, eqCs, kindOK, aggEqE, binE, unaE, convE, fieldE, faddrE, iaddrE, indexE, loE, sliceE, nilE, fillP, buildE, elemsE, bslE, lenE, appE, stripC, strip1, strip1L, strip, tupV, resV, convT, convN, sliceB, sliceA, sliceO, convB, clearE, appB, lookE, insE, keyOK, rangeE, reduceCtorEq, ↓reduceIte, Nat.reduceAdd, Nat.reduceMul, Nat.reduceSub, Nat.reduceEqDiff, Nat.reduceLeDiff, Nat.reduceBEq, Int.reduceToNat, Nat.reduceLT, Int.reduceBEq, Int.reduceBNe, Int.reduceLT, Int.reduceLE, Int.reduceGT, Int.reduceGE, UInt8.reduceToNat, Int.reduceNeg, Int.reduceAdd, Int.reduceSub, Wt]
  refine calD (print_to [97, 98] 100 (by simp)) ?_
  rw [printR, e2, ← hbp]
  try simp only [List.map_cons, List.map_nil, unE_bytes, e3, e4, ↓Wd0, Wr0, Wr1, opnds, ofVal, ofValC, PV.cells, PV.one, PV.fit, partE, setL, pickE, intE, strE, eqC, eqCs, kindOK, aggEqE, binE, unaE, convE, fieldE, faddrE, iaddrE, indexE, loE, sliceE, nilE, fillP, buildE, elemsE, bslE, lenE, appE, stripC, strip1, strip1L, strip, tupV, resV, convT, convN, sliceB, sliceA, sliceO, convB, clearE, appB, lookE, insE, keyOK, rangeE, reduceCtorEq, ↓reduceIte, Nat.reduceAdd, Nat.reduceMul, Nat.reduceSub, Nat.reduceEqDiff, Nat.reduceLeDiff, Nat.reduceBEq, Int.reduceToNat, Nat.reduceLT, Int.reduceBEq, Int.reduceBNe, Int.reduceLT, Int.reduceLE, Int.reduceGT, Int.reduceGE, UInt8.reduceToNat, Int.reduceNeg, Int.reduceAdd, Int.reduceSub, Wt]
  refine calD (same_to 1 1 (by omega) (by omega) bc bc false false false false) ?_
  try simp only [e5, ↓Wd0, Wr0, Wr1, opnds, ofVal, ofValC, PV.cells, PV.one, PV.fit, partE, setL, pickE, intE, strE, eqC, eqCs, kindOK, aggEqE, binE, unaE, convE, fieldE, faddrE, iaddrE, indexE, loE, sliceE, nilE, fillP, buildE, elemsE, bslE, lenE, appE, stripC, strip1, strip1L, strip, tupV, resV, convT, convN, sliceB, sliceA, sliceO, convB, clearE, appB, lookE, insE, keyOK, rangeE, reduceCtorEq, ↓reduceIte, Nat.reduceAdd, Nat.reduceMul, Nat.reduceSub, Nat.reduceEqDiff, Nat.reduceLeDiff, Nat.reduceBEq, Int.reduceToNat, Nat.reduceLT, Int.reduceBEq, Int.reduceBNe, Int.reduceLT, Int.reduceLE, Int.reduceGT, Int.reduceGE, UInt8.reduceToNat, Int.reduceNeg, Int.reduceAdd, Int.reduceSub, Wt]
end Go.Proofs.Ytemlofepmphgiaa
