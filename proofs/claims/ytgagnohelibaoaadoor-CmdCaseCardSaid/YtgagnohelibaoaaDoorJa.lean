import Derived.Test.YtgagnohelibaoaaDoorA
import Derived.Test.YtgagnohelibaoaaDoorHc
/-! The table of verbs, and what is found in it. -/
set_option linter.unusedSimpArgs false
set_option linter.unusedVariables false
set_option maxHeartbeats 4000000
set_option maxRecDepth 100000
namespace Go.Proofs.YtgagnohelibaoaaDoor
open Go.RowKit

def verbs : List GVerb := [⟨[65, 66, 79, 82], 9, 0, false⟩, ⟨[65, 67, 67, 84], 0, 2, false⟩, ⟨[65, 76, 76, 79], 1, 2, false⟩, ⟨[65, 80, 80, 69], 3, 2, true⟩, ⟨[67, 68, 85, 80], 2, 0, false⟩, ⟨[67, 87, 68], 2, 2, true⟩, ⟨[68, 69, 76, 69], 1, 2, true⟩, ⟨[69, 80, 82, 84], 5, 2, false⟩, ⟨[69, 80, 83, 86], 4, 0, false⟩, ⟨[70, 69, 65, 84], 1, 0, false⟩, ⟨[72, 69, 76, 80], 1, 1, false⟩, ⟨[76, 73, 83, 84], 3, 1, true⟩, ⟨[77, 68, 84, 77], 1, 2, true⟩, ⟨[77, 75, 68], 1, 2, true⟩, ⟨[77, 76, 83, 68], 3, 1, true⟩, ⟨[77, 76, 83, 84], 1, 1, true⟩, ⟨[77, 79, 68, 69], 1, 2, false⟩, ⟨[78, 76, 83, 84], 3, 1, true⟩, ⟨[78, 79, 79, 80], 1, 0, false⟩, ⟨[80, 65, 83, 83], 0, 1, false⟩, ⟨[80, 65, 83, 86], 4, 0, false⟩, ⟨[80, 79, 82, 84], 5, 2, false⟩, ⟨[80, 87, 68], 1, 0, false⟩, ⟨[81, 85, 73, 84], 10, 0, false⟩, ⟨[82, 69, 83, 84], 8, 2, false⟩, ⟨[82, 69, 84, 82], 3, 2, true⟩, ⟨[82, 77, 68], 1, 2, true⟩, ⟨[82, 78, 70, 82], 6, 2, true⟩, ⟨[82, 78, 84, 79], 7, 2, true⟩, ⟨[83, 73, 90, 69], 1, 2, true⟩, ⟨[83, 84, 65, 84], 1, 1, true⟩, ⟨[83, 84, 79, 82], 3, 2, true⟩, ⟨[83, 84, 82, 85], 1, 2, false⟩, ⟨[83, 89, 83, 84], 1, 0, false⟩, ⟨[84, 89, 80, 69], 1, 2, false⟩, ⟨[85, 83, 69, 82], 0, 2, false⟩]
theorem verbs_lit : [[.str [65, 66, 79, 82], .int .i64 9, .int .i64 0, .bool false], [.str [65, 67, 67, 84], .int .i64 0, .int .i64 2, .bool false], [.str [65, 76, 76, 79], .int .i64 1, .int .i64 2, .bool false], [.str [65, 80, 80, 69], .int .i64 3, .int .i64 2, .bool true], [.str [67, 68, 85, 80], .int .i64 2, .int .i64 0, .bool false], [.str [67, 87, 68], .int .i64 2, .int .i64 2, .bool true], [.str [68, 69, 76, 69], .int .i64 1, .int .i64 2, .bool true], [.str [69, 80, 82, 84], .int .i64 5, .int .i64 2, .bool false], [.str [69, 80, 83, 86], .int .i64 4, .int .i64 0, .bool false], [.str [70, 69, 65, 84], .int .i64 1, .int .i64 0, .bool false], [.str [72, 69, 76, 80], .int .i64 1, .int .i64 1, .bool false], [.str [76, 73, 83, 84], .int .i64 3, .int .i64 1, .bool true], [.str [77, 68, 84, 77], .int .i64 1, .int .i64 2, .bool true], [.str [77, 75, 68], .int .i64 1, .int .i64 2, .bool true], [.str [77, 76, 83, 68], .int .i64 3, .int .i64 1, .bool true], [.str [77, 76, 83, 84], .int .i64 1, .int .i64 1, .bool true], [.str [77, 79, 68, 69], .int .i64 1, .int .i64 2, .bool false], [.str [78, 76, 83, 84], .int .i64 3, .int .i64 1, .bool true], [.str [78, 79, 79, 80], .int .i64 1, .int .i64 0, .bool false], [.str [80, 65, 83, 83], .int .i64 0, .int .i64 1, .bool false], [.str [80, 65, 83, 86], .int .i64 4, .int .i64 0, .bool false], [.str [80, 79, 82, 84], .int .i64 5, .int .i64 2, .bool false], [.str [80, 87, 68], .int .i64 1, .int .i64 0, .bool false], [.str [81, 85, 73, 84], .int .i64 10, .int .i64 0, .bool false], [.str [82, 69, 83, 84], .int .i64 8, .int .i64 2, .bool false], [.str [82, 69, 84, 82], .int .i64 3, .int .i64 2, .bool true], [.str [82, 77, 68], .int .i64 1, .int .i64 2, .bool true], [.str [82, 78, 70, 82], .int .i64 6, .int .i64 2, .bool true], [.str [82, 78, 84, 79], .int .i64 7, .int .i64 2, .bool true], [.str [83, 73, 90, 69], .int .i64 1, .int .i64 2, .bool true], [.str [83, 84, 65, 84], .int .i64 1, .int .i64 1, .bool true], [.str [83, 84, 79, 82], .int .i64 3, .int .i64 2, .bool true], [.str [83, 84, 82, 85], .int .i64 1, .int .i64 2, .bool false], [.str [83, 89, 83, 84], .int .i64 1, .int .i64 0, .bool false], [.str [84, 89, 80, 69], .int .i64 1, .int .i64 2, .bool false], [.str [85, 83, 69, 82], .int .i64 0, .int .i64 2, .bool false]] = verbs.map GVerb.cs := rfl
theorem verbs_nd : (verbs.map (·.name)).Nodup := by decide +kernel
theorem verbs_len : verbs.length = 36 := rfl
def verbE (v : GVerb) : PV × PV := (.str v.name, .agg v.cs)
def tableP : List (PV × PV) := verbs.map verbE
theorem skey (a b : List UInt8) : keyE Tryd.prog 9 (.str a) (.str b) = some (a == b) := by kernel_rfl
theorem table_new {k : Nat} (h : k < 36) : ∀ e ∈ (verbs.take k).map verbE, keyE Tryd.prog 9 (.str (verbs.getD k default).name) e.1 = some false := by
  intro e he
  obtain ⟨v, hv, rfl⟩ := List.mem_map.1 he
  rw [show (verbE v).1 = .str v.name from rfl, skey]
  congr 1
  rw [beq_eq_false_iff_ne]
  intro en
  obtain ⟨i, hi⟩ := List.getElem?_of_mem hv
  have hlt := (List.getElem?_eq_some_iff.1 hi).1
  simp at hlt
  rw [List.getElem?_take_of_lt (by omega)] at hi
  have nd := verbs_nd
  rw [List.nodup_iff_pairwise_ne, List.pairwise_map, List.pairwise_iff_getElem] at nd
  have h1 := nd i k (by rw [verbs_len]; omega) (by rw [verbs_len]; omega) (by omega)
  rw [List.getD_eq_getElem?_getD, List.getElem?_eq_getElem (by rw [verbs_len]; omega)] at en
  rw [List.getElem?_eq_getElem (by rw [verbs_len]; omega)] at hi
  simp only [Option.some.injEq] at hi
  rw [hi] at h1
  exact h1 (by simpa using en.symm)
theorem endI_mp {nb N0 j : Nat} {H0 H : Nat → Option HObj} {es : List (PV × PV)} (hN : nb + 8 ≤ N0) (h1 : H (N0 + j) = some (.map es)) (hold : ∀ m, m < N0 → H m = H0 m) (hren : ∀ φ, mapO φ (.map es) = .map es) (hok : ∀ Q : Nat → Prop, okO Q (.map es)) : EndI (some [.mp (N0 + j)]) (.mp nb) [(nb, some (.map es))] H0 H nb N0 [] := by
  have ephi : phi nb N0 (fun _ => j) nb = N0 + j := phi_new (j := 0) (by omega)
  refine ⟨_, fun _ => j, rfl, ?_, .inr ⟨by omega, by omega⟩, fun m hm hw hnb => hold m hm, fun x hx o ho => ?_, fun x hx y hy _ _ _ _ _ _ hne => ?_⟩
  · show PV.mp (phi nb N0 (fun _ => j) nb) = .mp (N0 + j)
    rw [ephi]
  · simp only [List.mem_singleton] at hx
    subst hx
    cases ho
    exact ⟨by rw [ephi, hren]; exact h1, hok _⟩
  · simp only [List.mem_singleton] at hx hy
    subst hx
    subst hy
    exact absurd rfl hne
theorem table_in : InTo Tryd.prog 26 [] [] (fun nb => .mp nb) (fun nb => [(nb, some (.map tableP))]) := by
  refine inTo_of mixed Tryd.func26 rfl Tryd.ntmps26 Tryd.results26 (by kernel_rfl) (by kernel_rfl) (by simp) (by simp) [] (fun H0 N0 nb hH0 hN0 => ?_)
  try simp only [verbs_lit, ↓Wd0, Wr0, Wr1, opnds, ofVal, ofValC, PV.cells, PV.one, PV.fit, partE, setL, pickE, intE, strE, eqC, eqCs, kindOK, aggEqE, binE, unaE, mkiE, convE, fieldE, faddrE, iaddrE, indexE, loE, sliceE, nilE, fillP, buildE, elemsE, bslE, lenE, appE, stripC, strip1, strip1L, strip, tupV, resV, convT, convN, sliceB, sliceA, sliceO, convB, clearE, appB, lookE, insE, keyOK, rangeE, reduceCtorEq, ↓reduceIte, Nat.reduceAdd, Nat.reduceMul, Nat.reduceSub, Nat.reduceEqDiff, Nat.reduceLeDiff, Nat.reduceBEq, Int.reduceToNat, Nat.reduceLT, Int.reduceBEq, Int.reduceBNe, Int.reduceLT, Int.reduceLE, Int.reduceGT, Int.reduceGE, UInt8.reduceToNat, Int.reduceNeg, Int.reduceAdd, Int.reduceSub, Wt]
  refine loopD (M := []) mixed (by kernel_rfl) [3, 43, 44, 45, 46, 47, 48, 49, 50, 51] (by kernel_rfl) (fun n f H N => ∃ k : Nat, k ≤ 36 ∧ f 43 = .int .i64 k ∧ n = 36 - k ∧ N0 + 8 < N ∧ H (N0 + 8) = some (.map ((verbs.take k).map verbE)) ∧ ∀ m, m < N0 → H m = H0 m) ⟨_, 0, by omega, rfl, rfl, by omega, upd_same _ _ _, fun m hm => upd_ne _ _ (by omega)⟩ ?_
  rintro n f H N ⟨k, hk, hf, rfl, hN, hH, hold⟩
  have ew := wrap_succ (k := k) (by omega)
  try simp (disch := omega) only [hf, hH, verbs_lit, List.length_map, verbs_len, ne_far, ne_far', ne_at, ne_at', far_far, far_at, at_far, lt_far, ↓Wd0, Wr0, Wr1, opnds, ofVal, ofValC, PV.cells, PV.one, PV.fit, partE, setL, pickE, intE, strE, eqC, eqCs, kindOK, aggEqE, binE, unaE, mkiE, convE, fieldE, faddrE, iaddrE, indexE, loE, sliceE, nilE, fillP, buildE, elemsE, bslE, lenE, appE, stripC, strip1, strip1L, strip, tupV, resV, convT, convN, sliceB, sliceA, sliceO, convB, clearE, appB, lookE, insE, keyOK, rangeE, reduceCtorEq, ↓reduceIte, Nat.reduceAdd, Nat.reduceMul, Nat.reduceSub, Nat.reduceEqDiff, Nat.reduceLeDiff, Nat.reduceBEq, Int.reduceToNat, Nat.reduceLT, Int.reduceBEq, Int.reduceBNe, Int.reduceLT, Int.reduceLE, Int.reduceGT, Int.reduceGE, UInt8.reduceToNat, Int.reduceNeg, Int.reduceAdd, Int.reduceSub, Wt]
  refine ifD (fun hb => ?_) (fun hb => ?_)
  · have hb' : (k : Int) < 36 := of_decide_eq_true hb
    have e := getD_map' (l := verbs) (k := k) GVerb.cs default [] (by rw [verbs_len]; omega)
    have en := table_new (k := k) (by omega)
    try simp (disch := omega) only [hf, hH, verbs_lit, List.length_map, verbs_len, e, GVerb.cs, ne_far, ne_far', ne_at, ne_at', far_far, far_at, at_far, lt_far, ↓Wd0, Wr0, Wr1, opnds, ofVal, ofValC, PV.cells, PV.one, PV.fit, partE, setL, pickE, intE, strE, eqC, eqCs, kindOK, aggEqE, binE, unaE, mkiE, convE, fieldE, faddrE, iaddrE, indexE, loE, sliceE, nilE, fillP, buildE, elemsE, bslE, lenE, appE, stripC, strip1, strip1L, strip, tupV, resV, convT, convN, sliceB, sliceA, sliceO, convB, clearE, appB, lookE, insE, keyOK, rangeE, reduceCtorEq, ↓reduceIte, Nat.reduceAdd, Nat.reduceMul, Nat.reduceSub, Nat.reduceEqDiff, Nat.reduceLeDiff, Nat.reduceBEq, Int.reduceToNat, Nat.reduceLT, Int.reduceBEq, Int.reduceBNe, Int.reduceLT, Int.reduceLE, Int.reduceGT, Int.reduceGE, UInt8.reduceToNat, Int.reduceNeg, Int.reduceAdd, Int.reduceSub, Wt]
    refine ⟨by omega, en, _, by omega, k + 1, by omega, ew, rfl, ?_, fun m hm => ?_⟩
    · rw [take_succ default (by rw [verbs_len]; omega), List.map_append]
      rfl
    · rw [if_neg (by omega), if_neg (by omega), if_neg (by omega)]
      exact hold m hm
  · have hk2 : k = 36 := by have := of_decide_eq_false hb; omega
    subst hk2
    try simp (disch := omega) only [hf, hH, verbs_lit, List.length_map, verbs_len, ne_far, ne_far', ne_at, ne_at', far_far, far_at, at_far, lt_far, ↓Wd0, Wr0, Wr1, opnds, ofVal, ofValC, PV.cells, PV.one, PV.fit, partE, setL, pickE, intE, strE, eqC, eqCs, kindOK, aggEqE, binE, unaE, mkiE, convE, fieldE, faddrE, iaddrE, indexE, loE, sliceE, nilE, fillP, buildE, elemsE, bslE, lenE, appE, stripC, strip1, strip1L, strip, tupV, resV, convT, convN, sliceB, sliceA, sliceO, convB, clearE, appB, lookE, insE, keyOK, rangeE, reduceCtorEq, ↓reduceIte, Nat.reduceAdd, Nat.reduceMul, Nat.reduceSub, Nat.reduceEqDiff, Nat.reduceLeDiff, Nat.reduceBEq, Int.reduceToNat, Nat.reduceLT, Int.reduceBEq, Int.reduceBNe, Int.reduceLT, Int.reduceLE, Int.reduceGT, Int.reduceGE, UInt8.reduceToNat, Int.reduceNeg, Int.reduceAdd, Int.reduceSub, Wt]
    have et : verbs.take 36 = verbs := rfl
    rw [et] at hH
    exact endI_mp (j := 8) hN0 hH hold (fun φ => by simp [mapO, tableP, verbE, map1, mapC, GVerb.cs]) (fun Q e he => by
      obtain ⟨v, _, rfl⟩ := List.mem_map.1 he
      refine ⟨trivial, fun p hp => ?_⟩
      simp only [verbE, GVerb.cs, List.mem_cons, List.not_mem_nil, or_false] at hp
      rcases hp with rfl | rfl | rfl | rfl <;> trivial)
/-- What is found. -/
def findV (u : List UInt8) : List GVerb → Option GVerb
  | [] => none
  | v :: vs => if u == v.name then some v else findV u vs
def verbZ : GVerb := ⟨[], 0, 0, false⟩
def findG (s : List UInt8) : GVerb := (findV (upB s) verbs).getD verbZ
def findIs (s : List UInt8) : Bool := (findV (upB s) verbs).isSome
def findP (s : List UInt8) : PV := .tup [.agg (findG s).cs, .bool (findIs s)]
theorem look_verbs (u : List UInt8) : ∀ l : List GVerb, lookL Tryd.prog 9 (.str u) (l.map verbE) = (findV u l).map (fun v => .agg v.cs)
  | [] => rfl
  | v :: l => by
    simp only [List.map_cons, lookL, verbE, skey, findV]
    cases u == v.name
    · simp only [Bool.false_eq_true, if_false]
      exact look_verbs u l
    · rfl
theorem look_table (s : List UInt8) : lookR true (.agg [.str [], .int .i64 0, .int .i64 0, .bool false]) (lookL Tryd.prog 9 (.str (upB s)) tableP) = findP s := by
  rw [tableP, look_verbs, findP, findG, findIs]
  cases findV (upB s) verbs <;> rfl
theorem table_ok (u : List UInt8) : (∀ e ∈ tableP, (keyE Tryd.prog 9 (.str u) e.1).isSome = true) = True := eq_true (fun e he => by
  obtain ⟨v, _, rfl⟩ := List.mem_map.1 he
  rw [show (verbE v).1 = .str v.name from rfl, skey]
  rfl)
theorem find_to (s : List UInt8) (hs : s.length ≤ 9223372036854775807) : CallsTo Tryd.prog 19 [.str s] (findP s) [] := by
  refine callsTo_of mixed Tryd.func19 rfl Tryd.ntmps19 Tryd.results19 (by kernel_rfl) (by kernel_rfl) (by simp) [] ?_
  simp only [↓Wd0, Wr0, Wr1, opnds, ofVal, ofValC, PV.cells, PV.one, PV.fit, partE, setL, pickE, intE, strE, eqC, eqCs, kindOK, aggEqE, binE, unaE, mkiE, convE, fieldE, faddrE, iaddrE, indexE, loE, sliceE, nilE, fillP, buildE, elemsE, bslE, lenE, appE, stripC, strip1, strip1L, strip, tupV, resV, convT, convN, sliceB, sliceA, sliceO, convB, clearE, appB, lookE, insE, keyOK, rangeE, reduceCtorEq, ↓reduceIte, Nat.reduceAdd, Nat.reduceMul, Nat.reduceSub, Nat.reduceEqDiff, Nat.reduceLeDiff, Nat.reduceBEq, Int.reduceToNat, Nat.reduceLT, Int.reduceBEq, Int.reduceBNe, Int.reduceLT, Int.reduceLE, Int.reduceGT, Int.reduceGE, UInt8.reduceToNat, Int.reduceNeg, Int.reduceAdd, Int.reduceSub, Wt]
  refine calDi table_in ?_
  try simp only [↓Wd0, Wr0, Wr1, opnds, ofVal, ofValC, PV.cells, PV.one, PV.fit, partE, setL, pickE, intE, strE, eqC, eqCs, kindOK, aggEqE, binE, unaE, mkiE, convE, fieldE, faddrE, iaddrE, indexE, loE, sliceE, nilE, fillP, buildE, elemsE, bslE, lenE, appE, stripC, strip1, strip1L, strip, tupV, resV, convT, convN, sliceB, sliceA, sliceO, convB, clearE, appB, lookE, insE, keyOK, rangeE, reduceCtorEq, ↓reduceIte, Nat.reduceAdd, Nat.reduceMul, Nat.reduceSub, Nat.reduceEqDiff, Nat.reduceLeDiff, Nat.reduceBEq, Int.reduceToNat, Nat.reduceLT, Int.reduceBEq, Int.reduceBNe, Int.reduceLT, Int.reduceLE, Int.reduceGT, Int.reduceGE, UInt8.reduceToNat, Int.reduceNeg, Int.reduceAdd, Int.reduceSub, Wt]
  refine calD (upper_to s hs) ?_
  try simp only [look_table, table_ok, findP, GVerb.cs, ↓Wd0, Wr0, Wr1, opnds, ofVal, ofValC, PV.cells, PV.one, PV.fit, partE, setL, pickE, intE, strE, eqC, eqCs, kindOK, aggEqE, binE, unaE, mkiE, convE, fieldE, faddrE, iaddrE, indexE, loE, sliceE, nilE, fillP, buildE, elemsE, bslE, lenE, appE, stripC, strip1, strip1L, strip, tupV, resV, convT, convN, sliceB, sliceA, sliceO, convB, clearE, appB, lookE, insE, keyOK, rangeE, reduceCtorEq, ↓reduceIte, Nat.reduceAdd, Nat.reduceMul, Nat.reduceSub, Nat.reduceEqDiff, Nat.reduceLeDiff, Nat.reduceBEq, Int.reduceToNat, Nat.reduceLT, Int.reduceBEq, Int.reduceBNe, Int.reduceLT, Int.reduceLE, Int.reduceGT, Int.reduceGE, UInt8.reduceToNat, Int.reduceNeg, Int.reduceAdd, Int.reduceSub, Wt]
end Go.Proofs.YtgagnohelibaoaaDoor
