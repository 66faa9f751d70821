import Derived.Test.YtgagnohelibaoaaDoorMg
import Derived.Test.YtgagnohelibaoaaDoorKe
/-! CmdArgs; names in whatever letters. -/
set_option linter.unusedSimpArgs false
set_option linter.unusedVariables false
set_option maxHeartbeats 4000000
set_option maxRecDepth 100000
namespace Go.Proofs.YtgagnohelibaoaaDoor
open Go.RowKit

/-- A name with some of its letters as small ones. -/
def lowL : List UInt8 → Nat → List UInt8
  | [], _ => []
  | c :: cs, m => (if m % 2 = 1 then c + 32 else c) :: lowL cs (m / 2)
def lowK : List UInt8 → Nat → Nat → List UInt8
  | [], _, _ => []
  | cs, _, 0 => cs
  | c :: cs, m, k + 1 => (if m % 2 = 1 then c + 32 else c) :: lowK cs (m / 2) k
theorem lowL_len : ∀ (l : List UInt8) (m : Nat), (lowL l m).length = l.length
  | [], _ => rfl
  | c :: cs, m => by rw [lowL, List.length_cons, List.length_cons, lowL_len cs]
theorem lowK_len : ∀ (l : List UInt8) (m k : Nat), (lowK l m k).length = l.length
  | [], _, _ => rfl
  | c :: cs, m, 0 => rfl
  | c :: cs, m, k + 1 => by rw [lowK, List.length_cons, List.length_cons, lowK_len cs]
theorem lowK_zero (l : List UInt8) (m : Nat) : lowK l m 0 = l := by cases l <;> rfl
theorem lowK_end : ∀ (l : List UInt8) (m : Nat), lowK l m l.length = lowL l m
  | [], _ => rfl
  | c :: cs, m => by rw [List.length_cons, lowK, lowL, lowK_end cs]
theorem lowK_get : ∀ (l : List UInt8) (m k : Nat), (lowK l m k)[k]? = l[k]?
  | [], _, _ => rfl
  | c :: cs, m, 0 => rfl
  | c :: cs, m, k + 1 => by rw [lowK, List.getElem?_cons_succ, List.getElem?_cons_succ, lowK_get cs]
theorem lowK_succ : ∀ (l : List UInt8) (m k : Nat), k < l.length → lowK l m (k + 1) = (lowK l m k).set k (if m / 2 ^ k % 2 = 1 then l.getD k 0 + 32 else l.getD k 0)
  | [], _, _, h => by simp at h
  | c :: cs, m, 0, h => by simp [lowK, lowK_zero]
  | c :: cs, m, k + 1, h => by
    have ih := lowK_succ cs (m / 2) k (by simpa using h)
    rw [lowK, ih, lowK, List.set_cons_succ, List.getD_cons_succ, Nat.div_div_eq_div_mul, ← Nat.pow_succ']
theorem plus32 : ∀ n : Fin 256, IntKind.u8.wrap ((n.val : Int) + 32) = ((UInt8.ofNat n.val + 32).toNat : Int) := by decide +kernel
theorem plus_32 (c : UInt8) : IntKind.u8.wrap ((c.toNat : Int) + 32) = ((c + 32).toNat : Int) := by
  have := plus32 ⟨c.toNat, c.toNat_lt⟩
  simp only [UInt8.ofNat_toNat] at this
  exact this
theorem low_up : ∀ v ∈ verbs, ∀ m : Fin 32, upB (lowL v.name m.val) = v.name := by decide +kernel
theorem low_letters : ∀ v ∈ verbs, ∀ m : Fin 32, (lowL v.name m.val).all letterC = true := by decide +kernel
theorem verb_ok : ∀ v ∈ verbs, findG v.name = v ∧ findIs v.name = true ∧ 0 ≤ v.arg ∧ v.arg ≤ 2 ∧ v.name.length ≤ 4 ∧ v.name.all letterC = true ∧ upB v.name = v.name ∧ (decide (v.name.length = 3) || decide (v.name.length = 4)) = true := by decide +kernel
theorem args_to (i : Int) (arg : List UInt8) (ki : -9223372036854775808 ≤ i ∧ i ≤ 9223372036854775807) (ka : arg.length ≤ 9223372036854775807) : CallsTo Tryd.prog 7 [.int .i64 i, .str arg] (.bool true) [] := by
  refine callsTo_of mixed Tryd.func7 rfl Tryd.ntmps7 Tryd.results7 (by kernel_rfl) (by kernel_rfl) (by simp) [] ?_
  simp only [↓Wd0, Wr0, Wr1, opnds, ofVal, ofValC, PV.cells, PV.one, PV.fit, partE, setL, pickE, intE, strE, eqC, eqCs, kindOK, aggEqE, binE, unaE, mkiE, convE, fieldE, faddrE, iaddrE, indexE, loE, sliceE, nilE, fillP, buildE, elemsE, bslE, lenE, appE, stripC, strip1, strip1L, strip, tupV, resV, convT, convN, sliceB, sliceA, sliceO, convB, clearE, appB, lookE, insE, keyOK, rangeE, reduceCtorEq, ↓reduceIte, Nat.reduceAdd, Nat.reduceMul, Nat.reduceSub, Nat.reduceEqDiff, Nat.reduceLeDiff, Nat.reduceBEq, Int.reduceToNat, Nat.reduceLT, Int.reduceBEq, Int.reduceBNe, Int.reduceLT, Int.reduceLE, Int.reduceGT, Int.reduceGE, UInt8.reduceToNat, Int.reduceNeg, Int.reduceAdd, Int.reduceSub, Wt]
  refine calD awake_to ?_
  try simp only [↓Wd0, Wr0, Wr1, opnds, ofVal, ofValC, PV.cells, PV.one, PV.fit, partE, setL, pickE, intE, strE, eqC, eqCs, kindOK, aggEqE, binE, unaE, mkiE, convE, fieldE, faddrE, iaddrE, indexE, loE, sliceE, nilE, fillP, buildE, elemsE, bslE, lenE, appE, stripC, strip1, strip1L, strip, tupV, resV, convT, convN, sliceB, sliceA, sliceO, convB, clearE, appB, lookE, insE, keyOK, rangeE, reduceCtorEq, ↓reduceIte, Nat.reduceAdd, Nat.reduceMul, Nat.reduceSub, Nat.reduceEqDiff, Nat.reduceLeDiff, Nat.reduceBEq, Int.reduceToNat, Nat.reduceLT, Int.reduceBEq, Int.reduceBNe, Int.reduceLT, Int.reduceLE, Int.reduceGT, Int.reduceGE, UInt8.reduceToNat, Int.reduceNeg, Int.reduceAdd, Int.reduceSub, Wt]
  refine calD all_to ?_
  generalize hvv : verbs = vv
  have hlen : vv.length = 36 := by rw [← hvv]; rfl
  try simp only [List.length_map, hlen, ↓Wd0, Wr0, Wr1, opnds, ofVal, ofValC, PV.cells, PV.one, PV.fit, partE, setL, pickE, intE, strE, eqC, eqCs, kindOK, aggEqE, binE, unaE, mkiE, convE, fieldE, faddrE, iaddrE, indexE, loE, sliceE, nilE, fillP, buildE, elemsE, bslE, lenE, appE, stripC, strip1, strip1L, strip, tupV, resV, convT, convN, sliceB, sliceA, sliceO, convB, clearE, appB, lookE, insE, keyOK, rangeE, reduceCtorEq, ↓reduceIte, Nat.reduceAdd, Nat.reduceMul, Nat.reduceSub, Nat.reduceEqDiff, Nat.reduceLeDiff, Nat.reduceBEq, Int.reduceToNat, Nat.reduceLT, Int.reduceBEq, Int.reduceBNe, Int.reduceLT, Int.reduceLE, Int.reduceGT, Int.reduceGE, UInt8.reduceToNat, Int.reduceNeg, Int.reduceAdd, Int.reduceSub, Wt]
  refine ifD (fun hb1 => ?_) (fun hb1 => ?_)
  · try simp only [↓Wd0, Wr0, Wr1, opnds, ofVal, ofValC, PV.cells, PV.one, PV.fit, partE, setL, pickE, intE, strE, eqC, eqCs, kindOK, aggEqE, binE, unaE, mkiE, convE, fieldE, faddrE, iaddrE, indexE, loE, sliceE, nilE, fillP, buildE, elemsE, bslE, lenE, appE, stripC, strip1, strip1L, strip, tupV, resV, convT, convN, sliceB, sliceA, sliceO, convB, clearE, appB, lookE, insE, keyOK, rangeE, reduceCtorEq, ↓reduceIte, Nat.reduceAdd, Nat.reduceMul, Nat.reduceSub, Nat.reduceEqDiff, Nat.reduceLeDiff, Nat.reduceBEq, Int.reduceToNat, Nat.reduceLT, Int.reduceBEq, Int.reduceBNe, Int.reduceLT, Int.reduceLE, Int.reduceGT, Int.reduceGE, UInt8.reduceToNat, Int.reduceNeg, Int.reduceAdd, Int.reduceSub, Wt]
  try simp only [List.length_map, hlen, ↓Wd0, Wr0, Wr1, opnds, ofVal, ofValC, PV.cells, PV.one, PV.fit, partE, setL, pickE, intE, strE, eqC, eqCs, kindOK, aggEqE, binE, unaE, mkiE, convE, fieldE, faddrE, iaddrE, indexE, loE, sliceE, nilE, fillP, buildE, elemsE, bslE, lenE, appE, stripC, strip1, strip1L, strip, tupV, resV, convT, convN, sliceB, sliceA, sliceO, convB, clearE, appB, lookE, insE, keyOK, rangeE, reduceCtorEq, ↓reduceIte, Nat.reduceAdd, Nat.reduceMul, Nat.reduceSub, Nat.reduceEqDiff, Nat.reduceLeDiff, Nat.reduceBEq, Int.reduceToNat, Nat.reduceLT, Int.reduceBEq, Int.reduceBNe, Int.reduceLT, Int.reduceLE, Int.reduceGT, Int.reduceGE, UInt8.reduceToNat, Int.reduceNeg, Int.reduceAdd, Int.reduceSub, Wt]
  refine ifD (fun hb2 => ?_) (fun hb2 => ?_)
  · try simp only [↓Wd0, Wr0, Wr1, opnds, ofVal, ofValC, PV.cells, PV.one, PV.fit, partE, setL, pickE, intE, strE, eqC, eqCs, kindOK, aggEqE, binE, unaE, mkiE, convE, fieldE, faddrE, iaddrE, indexE, loE, sliceE, nilE, fillP, buildE, elemsE, bslE, lenE, appE, stripC, strip1, strip1L, strip, tupV, resV, convT, convN, sliceB, sliceA, sliceO, convB, clearE, appB, lookE, insE, keyOK, rangeE, reduceCtorEq, ↓reduceIte, Nat.reduceAdd, Nat.reduceMul, Nat.reduceSub, Nat.reduceEqDiff, Nat.reduceLeDiff, Nat.reduceBEq, Int.reduceToNat, Nat.reduceLT, Int.reduceBEq, Int.reduceBNe, Int.reduceLT, Int.reduceLE, Int.reduceGT, Int.reduceGE, UInt8.reduceToNat, Int.reduceNeg, Int.reduceAdd, Int.reduceSub, Wt]
  try simp only [List.length_map, hlen, ↓Wd0, Wr0, Wr1, opnds, ofVal, ofValC, PV.cells, PV.one, PV.fit, partE, setL, pickE, intE, strE, eqC, eqCs, kindOK, aggEqE, binE, unaE, mkiE, convE, fieldE, faddrE, iaddrE, indexE, loE, sliceE, nilE, fillP, buildE, elemsE, bslE, lenE, appE, stripC, strip1, strip1L, strip, tupV, resV, convT, convN, sliceB, sliceA, sliceO, convB, clearE, appB, lookE, insE, keyOK, rangeE, reduceCtorEq, ↓reduceIte, Nat.reduceAdd, Nat.reduceMul, Nat.reduceSub, Nat.reduceEqDiff, Nat.reduceLeDiff, Nat.reduceBEq, Int.reduceToNat, Nat.reduceLT, Int.reduceBEq, Int.reduceBNe, Int.reduceLT, Int.reduceLE, Int.reduceGT, Int.reduceGE, UInt8.reduceToNat, Int.reduceNeg, Int.reduceAdd, Int.reduceSub, Wt]
  refine ifD (fun hb3 => ?_) (fun hb3 => ?_)
  · try simp only [↓Wd0, Wr0, Wr1, opnds, ofVal, ofValC, PV.cells, PV.one, PV.fit, partE, setL, pickE, intE, strE, eqC, eqCs, kindOK, aggEqE, binE, unaE, mkiE, convE, fieldE, faddrE, iaddrE, indexE, loE, sliceE, nilE, fillP, buildE, elemsE, bslE, lenE, appE, stripC, strip1, strip1L, strip, tupV, resV, convT, convN, sliceB, sliceA, sliceO, convB, clearE, appB, lookE, insE, keyOK, rangeE, reduceCtorEq, ↓reduceIte, Nat.reduceAdd, Nat.reduceMul, Nat.reduceSub, Nat.reduceEqDiff, Nat.reduceLeDiff, Nat.reduceBEq, Int.reduceToNat, Nat.reduceLT, Int.reduceBEq, Int.reduceBNe, Int.reduceLT, Int.reduceLE, Int.reduceGT, Int.reduceGE, UInt8.reduceToNat, Int.reduceNeg, Int.reduceAdd, Int.reduceSub, Wt]
  have l1 : 0 ≤ i := by have := of_decide_eq_false hb1; omega
  have l2 : i < 36 := by have := of_decide_eq_false hb2; omega
  have l3 : arg.length ≤ 300 := by have := of_decide_eq_false hb3; omega
  obtain ⟨k, rfl⟩ : ∃ k : Nat, i = k := ⟨i.toNat, by omega⟩
  have e := getD_map' (l := vv) (k := k) GVerb.cs default [] (by omega)
  have hv := verb_ok (vv.getD k default) (by rw [hvv, List.getD_eq_getElem?_getD, List.getElem?_eq_getElem (by omega)]; exact List.getElem_mem _)
  generalize vv.getD k default = v at e hv
  obtain ⟨hv1, hv2, hv3, hv4, hv5, hv6, hv7, hv8⟩ := hv
  obtain ⟨vn, vk, va, vp⟩ := v
  simp only at hv1 hv2 hv3 hv4 hv5 hv6 hv7
  have i0 : (0 ≤ (k : Int) ∧ (k : Int) < 36) = True := eq_true (by omega)
  have hm : mayB ⟨vn, arg⟩ = if cleanB arg = false then false else if va = 0 then arg == [] else if va = 2 then arg != [] else true := by
    unfold mayB
    simp only [hv1, hv2]
    simp
  try simp only [e, GVerb.cs, List.length_map, hlen, i0, ↓Wd0, Wr0, Wr1, opnds, ofVal, ofValC, PV.cells, PV.one, PV.fit, partE, setL, pickE, intE, strE, eqC, eqCs, kindOK, aggEqE, binE, unaE, mkiE, convE, fieldE, faddrE, iaddrE, indexE, loE, sliceE, nilE, fillP, buildE, elemsE, bslE, lenE, appE, stripC, strip1, strip1L, strip, tupV, resV, convT, convN, sliceB, sliceA, sliceO, convB, clearE, appB, lookE, insE, keyOK, rangeE, reduceCtorEq, ↓reduceIte, Nat.reduceAdd, Nat.reduceMul, Nat.reduceSub, Nat.reduceEqDiff, Nat.reduceLeDiff, Nat.reduceBEq, Int.reduceToNat, Nat.reduceLT, Int.reduceBEq, Int.reduceBNe, Int.reduceLT, Int.reduceLE, Int.reduceGT, Int.reduceGE, UInt8.reduceToNat, Int.reduceNeg, Int.reduceAdd, Int.reduceSub, Wt]
  refine calD (may_to ⟨vn, arg⟩ (by simp only; omega) (by simp only; omega)) ?_
  try simp only [e, GVerb.cs, List.length_map, hlen, i0, ↓Wd0, Wr0, Wr1, opnds, ofVal, ofValC, PV.cells, PV.one, PV.fit, partE, setL, pickE, intE, strE, eqC, eqCs, kindOK, aggEqE, binE, unaE, mkiE, convE, fieldE, faddrE, iaddrE, indexE, loE, sliceE, nilE, fillP, buildE, elemsE, bslE, lenE, appE, stripC, strip1, strip1L, strip, tupV, resV, convT, convN, sliceB, sliceA, sliceO, convB, clearE, appB, lookE, insE, keyOK, rangeE, reduceCtorEq, ↓reduceIte, Nat.reduceAdd, Nat.reduceMul, Nat.reduceSub, Nat.reduceEqDiff, Nat.reduceLeDiff, Nat.reduceBEq, Int.reduceToNat, Nat.reduceLT, Int.reduceBEq, Int.reduceBNe, Int.reduceLT, Int.reduceLE, Int.reduceGT, Int.reduceGE, UInt8.reduceToNat, Int.reduceNeg, Int.reduceAdd, Int.reduceSub, Wt]
  refine calD (clean_to arg (by omega)) ?_
  cases hc : cleanB arg with
  | false =>
    rw [hc, if_pos rfl] at hm
    try simp only [e, GVerb.cs, List.length_map, hlen, i0, hm, ↓Wd0, Wr0, Wr1, opnds, ofVal, ofValC, PV.cells, PV.one, PV.fit, partE, setL, pickE, intE, strE, eqC, eqCs, kindOK, aggEqE, binE, unaE, mkiE, convE, fieldE, faddrE, iaddrE, indexE, loE, sliceE, nilE, fillP, buildE, elemsE, bslE, lenE, appE, stripC, strip1, strip1L, strip, tupV, resV, convT, convN, sliceB, sliceA, sliceO, convB, clearE, appB, lookE, insE, keyOK, rangeE, reduceCtorEq, ↓reduceIte, Nat.reduceAdd, Nat.reduceMul, Nat.reduceSub, Nat.reduceEqDiff, Nat.reduceLeDiff, Nat.reduceBEq, Int.reduceToNat, Nat.reduceLT, Int.reduceBEq, Int.reduceBNe, Int.reduceLT, Int.reduceLE, Int.reduceGT, Int.reduceGE, UInt8.reduceToNat, Int.reduceNeg, Int.reduceAdd, Int.reduceSub, Wt]
  | true =>
    rw [hc, if_neg (by simp)] at hm
    cases ha : arg == [] with
    | true =>
      have ha' : arg = [] := eq_of_beq ha
      try simp only [e, GVerb.cs, List.length_map, hlen, i0, ha, ↓Wd0, Wr0, Wr1, opnds, ofVal, ofValC, PV.cells, PV.one, PV.fit, partE, setL, pickE, intE, strE, eqC, eqCs, kindOK, aggEqE, binE, unaE, mkiE, convE, fieldE, faddrE, iaddrE, indexE, loE, sliceE, nilE, fillP, buildE, elemsE, bslE, lenE, appE, stripC, strip1, strip1L, strip, tupV, resV, convT, convN, sliceB, sliceA, sliceO, convB, clearE, appB, lookE, insE, keyOK, rangeE, reduceCtorEq, ↓reduceIte, Nat.reduceAdd, Nat.reduceMul, Nat.reduceSub, Nat.reduceEqDiff, Nat.reduceLeDiff, Nat.reduceBEq, Int.reduceToNat, Nat.reduceLT, Int.reduceBEq, Int.reduceBNe, Int.reduceLT, Int.reduceLE, Int.reduceGT, Int.reduceGE, UInt8.reduceToNat, Int.reduceNeg, Int.reduceAdd, Int.reduceSub, Wt]
      rw [hm, ha']
      by_cases h0 : va = 0
      · rw [h0]; rfl
      · by_cases h2 : va = 2
        · rw [h2]; rfl
        · have : va = 1 := by omega
          rw [this]; rfl
    | false =>
      have hb : (arg != []) = true := by rw [bne, ha]; rfl
      try simp only [e, GVerb.cs, List.length_map, hlen, i0, ha, ↓Wd0, Wr0, Wr1, opnds, ofVal, ofValC, PV.cells, PV.one, PV.fit, partE, setL, pickE, intE, strE, eqC, eqCs, kindOK, aggEqE, binE, unaE, mkiE, convE, fieldE, faddrE, iaddrE, indexE, loE, sliceE, nilE, fillP, buildE, elemsE, bslE, lenE, appE, stripC, strip1, strip1L, strip, tupV, resV, convT, convN, sliceB, sliceA, sliceO, convB, clearE, appB, lookE, insE, keyOK, rangeE, reduceCtorEq, ↓reduceIte, Nat.reduceAdd, Nat.reduceMul, Nat.reduceSub, Nat.reduceEqDiff, Nat.reduceLeDiff, Nat.reduceBEq, Int.reduceToNat, Nat.reduceLT, Int.reduceBEq, Int.reduceBNe, Int.reduceLT, Int.reduceLE, Int.reduceGT, Int.reduceGE, UInt8.reduceToNat, Int.reduceNeg, Int.reduceAdd, Int.reduceSub, Wt]
      rw [hm, ha, hb]
      by_cases h0 : va = 0
      · rw [h0]; rfl
      · by_cases h2 : va = 2
        · rw [h2]; rfl
        · have : va = 1 := by omega
          rw [this]; rfl
end Go.Proofs.YtgagnohelibaoaaDoor
