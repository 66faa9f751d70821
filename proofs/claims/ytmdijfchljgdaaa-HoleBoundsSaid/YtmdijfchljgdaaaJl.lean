import Derived.Test.YtmdijfchljgdaaaJk
/-! What is granted is matched once. -/
set_option linter.unusedSimpArgs false
set_option linter.unusedVariables false
set_option maxHeartbeats 4000000
set_option maxRecDepth 100000
namespace Go.Proofs.Ytmdijfchljgdaaa
open Go.RowKit

theorem hasN_no {p : Int} {l : List GHole} (h : hasN p (portsL l) = false) : ∀ x ∈ l, (x.port == p) = false := by
  intro x hx
  rw [hasN, List.any_eq_false] at h
  have := h x.port (List.mem_map.2 ⟨x, hx, rfl⟩)
  rw [Bool.beq_comm]
  simpa using this
theorem match_no {l : List GHole} {port : Int} (h : ∀ x ∈ l, (x.port == port) = false) (q : GHost) (now : Int) : matchB l port q now = (l, zeroH, false) := by
  rcases match_at l port q now with ⟨_, e⟩ | ⟨a, _⟩
  · exact e
  · rw [List.any_eq_true] at a
    obtain ⟨x, hx, hm⟩ := a
    unfold matchP at hm
    rw [h x hx] at hm
    cases hm
theorem getD_mem {l : List GHole} {j : Nat} (hj : j < l.length) : l.getD j default ∈ l := by
  rw [List.getD_eq_getElem?_getD, List.getElem?_eq_getElem hj]
  exact List.getElem_mem _
theorem getD_app1 {l : List GHole} {h : GHole} {j : Nat} (hj : j < l.length) : (l ++ [h]).getD j default = l.getD j default := by
  rw [List.getD_eq_getElem?_getD, List.getElem?_append_left hj, List.getD_eq_getElem?_getD]
theorem getD_app2 {l : List GHole} {h : GHole} : (l ++ [h]).getD l.length default = h := by
  rw [List.getD_eq_getElem?_getD, List.getElem?_append_right (Nat.le_refl _), Nat.sub_self]
  rfl
theorem dropAt_app {l : List GHole} {h : GHole} : dropAt (l ++ [h]) l.length = l := by
  unfold dropAt
  rw [List.take_left' rfl, List.drop_of_length_le (by simp), List.append_nil]
theorem match_new {l : List GHole} {h : GHole} (hno : hasN h.port (portsL l) = false) (q : GHost) (now : Int) : matchB (l ++ [h]) h.port q now = if (peerIs h q && !overP now h) = true then (l, h, true) else (l ++ [h], zeroH, false) := by
  have hp : matchP h.port q now h = (peerIs h q && !overP now h) := by unfold matchP; rw [beq_self_eq_true, Bool.true_and]
  have hold : ∀ j, j < l.length → matchP h.port q now (l.getD j default) = false := fun j hj => by
    unfold matchP
    rw [hasN_no hno _ (getD_mem hj)]
    rfl
  have hall : ∀ i, i < (l ++ [h]).length → matchP h.port q now ((l ++ [h]).getD i default) = true → i = l.length := fun i hi hm => by
    simp only [List.length_append, List.length_cons, List.length_nil] at hi
    by_cases e : i < l.length
    · rw [getD_app1 e, hold i e] at hm; cases hm
    · omega
  rcases match_at (l ++ [h]) h.port q now with ⟨a, e⟩ | ⟨_, i, hi, hm, _, e⟩
  · rw [List.any_eq_false] at a
    have := a h (by simp)
    rw [hp] at this
    rw [e, if_neg this]
  · have ei := hall i hi hm
    subst ei
    rw [getD_app2, hp] at hm
    rw [e, if_pos hm, dropAt_app, getD_app2]
theorem grant_at (l : List GHole) (h : GHole) (most : Int) : (∃ e, e ≠ 0 ∧ grantB l h most = ([], e)) ∨ (mayH h = true ∧ (cntT h.tenant l : Int) < most ∧ hasN h.port (portsL l) = false ∧ grantB l h most = (l ++ [h], 0)) := by
  unfold grantB
  split
  · exact .inl ⟨1, by omega, rfl⟩
  · rename_i h1
    split
    · exact .inl ⟨4, by omega, rfl⟩
    · rename_i h2
      exact .inr ⟨by simpa using h1, by omega, by simpa using fun h => h2 (.inr h), rfl⟩
theorem peer_flip (q : GHost) (h : GHole) : ((q.a0 == h.peer0) && ((q.a1 == h.peer1) && ((q.a2 == h.peer2) && (q.a3 == h.peer3)))) = peerIs h q := by
  unfold peerIs
  rw [Bool.beq_comm (a := q.a0), Bool.beq_comm (a := q.a1), Bool.beq_comm (a := q.a2), Bool.beq_comm (a := q.a3)]
theorem now_f (now : Int) (x : GHole) : decide (now < x.dead) = !overP now x := over_f now x
theorem once_to (l : List GHole) (h : GHole) (most : Int) (peer : GHost) (now : Int) (kl : l.length ≤ 9223372036854775807 ∧ ∀ b ∈ l, GHole.ok b) (kh : h.ok) (km : -9223372036854775808 ≤ most ∧ most ≤ 9223372036854775807) (kp : peer.ok) (kn : -9223372036854775808 ≤ now ∧ now ≤ 9223372036854775807) : CallsTo Try.prog 4 [.sl 1 (l.map GHole.cs), .agg h.cs, .int .i64 most, .agg peer.cs, .int .i64 now] (.bool true) [] := by
  refine callsTo_of mixed Try.func4 rfl Try.ntmps4 Try.results4 (by kernel_rfl) (by kernel_rfl) (by simp) [] ?_
  simp only [↓Wd0, Wr0, Wr1, opnds, ofVal, ofValC, PV.cells, PV.one, PV.fit, partE, setL, pickE, intE, strE, eqC, eqCs, kindOK, aggEqE, binE, unaE, convE, fieldE, faddrE, iaddrE, indexE, loE, sliceE, nilE, fillP, buildE, elemsE, bslE, lenE, appE, stripC, strip1, strip1L, strip, tupV, resV, convT, convN, sliceB, sliceA, sliceO, convB, clearE, appB, lookE, insE, keyOK, reduceCtorEq, ↓reduceIte, Nat.reduceAdd, Nat.reduceMul, Nat.reduceSub, Nat.reduceEqDiff, Nat.reduceLeDiff, Nat.reduceBEq, Int.reduceToNat, Nat.reduceLT, Int.reduceBEq, Int.reduceBNe, Int.reduceLT, Int.reduceLE, Int.reduceGT, Int.reduceGE, UInt8.reduceToNat, Int.reduceNeg, Int.reduceAdd, Int.reduceSub, Wt]
  refine calD awake_to ?_
  try simp only [GHole.cs, GHost.cs, List.length_map, ↓Wd0, Wr0, Wr1, opnds, ofVal, ofValC, PV.cells, PV.one, PV.fit, partE, setL, pickE, intE, strE, eqC, eqCs, kindOK, aggEqE, binE, unaE, convE, fieldE, faddrE, iaddrE, indexE, loE, sliceE, nilE, fillP, buildE, elemsE, bslE, lenE, appE, stripC, strip1, strip1L, strip, tupV, resV, convT, convN, sliceB, sliceA, sliceO, convB, clearE, appB, lookE, insE, keyOK, reduceCtorEq, ↓reduceIte, Nat.reduceAdd, Nat.reduceMul, Nat.reduceSub, Nat.reduceEqDiff, Nat.reduceLeDiff, Nat.reduceBEq, Int.reduceToNat, Nat.reduceLT, Int.reduceBEq, Int.reduceBNe, Int.reduceLT, Int.reduceLE, Int.reduceGT, Int.reduceGE, UInt8.reduceToNat, Int.reduceNeg, Int.reduceAdd, Int.reduceSub, Wt]
  refine ifD (fun hb => ?_) (fun hb => ?_)
  · try simp only [↓Wd0, Wr0, Wr1, opnds, ofVal, ofValC, PV.cells, PV.one, PV.fit, partE, setL, pickE, intE, strE, eqC, eqCs, kindOK, aggEqE, binE, unaE, convE, fieldE, faddrE, iaddrE, indexE, loE, sliceE, nilE, fillP, buildE, elemsE, bslE, lenE, appE, stripC, strip1, strip1L, strip, tupV, resV, convT, convN, sliceB, sliceA, sliceO, convB, clearE, appB, lookE, insE, keyOK, reduceCtorEq, ↓reduceIte, Nat.reduceAdd, Nat.reduceMul, Nat.reduceSub, Nat.reduceEqDiff, Nat.reduceLeDiff, Nat.reduceBEq, Int.reduceToNat, Nat.reduceLT, Int.reduceBEq, Int.reduceBNe, Int.reduceLT, Int.reduceLE, Int.reduceGT, Int.reduceGE, UInt8.reduceToNat, Int.reduceNeg, Int.reduceAdd, Int.reduceSub, Wt]
  have hl : (l.length : Int) ≤ 40 := by have := of_decide_eq_false hb; omega
  try simp only [GHole.cs, GHost.cs, List.length_map, ↓Wd0, Wr0, Wr1, opnds, ofVal, ofValC, PV.cells, PV.one, PV.fit, partE, setL, pickE, intE, strE, eqC, eqCs, kindOK, aggEqE, binE, unaE, convE, fieldE, faddrE, iaddrE, indexE, loE, sliceE, nilE, fillP, buildE, elemsE, bslE, lenE, appE, stripC, strip1, strip1L, strip, tupV, resV, convT, convN, sliceB, sliceA, sliceO, convB, clearE, appB, lookE, insE, keyOK, reduceCtorEq, ↓reduceIte, Nat.reduceAdd, Nat.reduceMul, Nat.reduceSub, Nat.reduceEqDiff, Nat.reduceLeDiff, Nat.reduceBEq, Int.reduceToNat, Nat.reduceLT, Int.reduceBEq, Int.reduceBNe, Int.reduceLT, Int.reduceLE, Int.reduceGT, Int.reduceGE, UInt8.reduceToNat, Int.reduceNeg, Int.reduceAdd, Int.reduceSub, Wt]
  refine calD (grant_to l h most (by omega)) ?_
  rcases grant_at l h most with ⟨e, he, hg⟩ | ⟨_, _, hno, hg⟩
  · rw [hg]
    have hd : (e != 0) = true := bne_iff_ne.2 he
    try simp only [grtP, hd, ↓Wd0, Wr0, Wr1, opnds, ofVal, ofValC, PV.cells, PV.one, PV.fit, partE, setL, pickE, intE, strE, eqC, eqCs, kindOK, aggEqE, binE, unaE, convE, fieldE, faddrE, iaddrE, indexE, loE, sliceE, nilE, fillP, buildE, elemsE, bslE, lenE, appE, stripC, strip1, strip1L, strip, tupV, resV, convT, convN, sliceB, sliceA, sliceO, convB, clearE, appB, lookE, insE, keyOK, reduceCtorEq, ↓reduceIte, Nat.reduceAdd, Nat.reduceMul, Nat.reduceSub, Nat.reduceEqDiff, Nat.reduceLeDiff, Nat.reduceBEq, Int.reduceToNat, Nat.reduceLT, Int.reduceBEq, Int.reduceBNe, Int.reduceLT, Int.reduceLE, Int.reduceGT, Int.reduceGE, UInt8.reduceToNat, Int.reduceNeg, Int.reduceAdd, Int.reduceSub, Wt]
  · rw [hg]
    have hle : (l ++ [h]).length ≤ 1000000 := by simp; omega
    have hm := match_new hno peer now
    try simp only [grtP, GHole.cs, GHost.cs, ↓Wd0, Wr0, Wr1, opnds, ofVal, ofValC, PV.cells, PV.one, PV.fit, partE, setL, pickE, intE, strE, eqC, eqCs, kindOK, aggEqE, binE, unaE, convE, fieldE, faddrE, iaddrE, indexE, loE, sliceE, nilE, fillP, buildE, elemsE, bslE, lenE, appE, stripC, strip1, strip1L, strip, tupV, resV, convT, convN, sliceB, sliceA, sliceO, convB, clearE, appB, lookE, insE, keyOK, reduceCtorEq, ↓reduceIte, Nat.reduceAdd, Nat.reduceMul, Nat.reduceSub, Nat.reduceEqDiff, Nat.reduceLeDiff, Nat.reduceBEq, Int.reduceToNat, Nat.reduceLT, Int.reduceBEq, Int.reduceBNe, Int.reduceLT, Int.reduceLE, Int.reduceGT, Int.reduceGE, UInt8.reduceToNat, Int.reduceNeg, Int.reduceAdd, Int.reduceSub, Wt]
    refine calD (match_to (l ++ [h]) h.port peer now hle) ?_
    by_cases hc : (peerIs h peer && !overP now h) = true
    · rw [if_pos hc] at hm
      rw [hm]
      have hc1 : peerIs h peer = true := by simp at hc; exact hc.1
      have hc2 : overP now h = false := by simp at hc; exact hc.2
      have hm2 := match_no (hasN_no hno) peer now
      try simp only [mtcP, GHole.cs, GHost.cs, u8_cmp, peer_flip, hc1, now_f, hc2, ↓Wd0, Wr0, Wr1, opnds, ofVal, ofValC, PV.cells, PV.one, PV.fit, partE, setL, pickE, intE, strE, eqC, eqCs, kindOK, aggEqE, binE, unaE, convE, fieldE, faddrE, iaddrE, indexE, loE, sliceE, nilE, fillP, buildE, elemsE, bslE, lenE, appE, stripC, strip1, strip1L, strip, tupV, resV, convT, convN, sliceB, sliceA, sliceO, convB, clearE, appB, lookE, insE, keyOK, reduceCtorEq, ↓reduceIte, Nat.reduceAdd, Nat.reduceMul, Nat.reduceSub, Nat.reduceEqDiff, Nat.reduceLeDiff, Nat.reduceBEq, Int.reduceToNat, Nat.reduceLT, Int.reduceBEq, Int.reduceBNe, Int.reduceLT, Int.reduceLE, Int.reduceGT, Int.reduceGE, UInt8.reduceToNat, Int.reduceNeg, Int.reduceAdd, Int.reduceSub, Wt]
      refine calD (match_to l h.port peer now (by omega)) ?_
      rw [hm2]
      try simp only [mtcP, GHole.cs, GHost.cs, zeroH, ↓Wd0, Wr0, Wr1, opnds, ofVal, ofValC, PV.cells, PV.one, PV.fit, partE, setL, pickE, intE, strE, eqC, eqCs, kindOK, aggEqE, binE, unaE, convE, fieldE, faddrE, iaddrE, indexE, loE, sliceE, nilE, fillP, buildE, elemsE, bslE, lenE, appE, stripC, strip1, strip1L, strip, tupV, resV, convT, convN, sliceB, sliceA, sliceO, convB, clearE, appB, lookE, insE, keyOK, reduceCtorEq, ↓reduceIte, Nat.reduceAdd, Nat.reduceMul, Nat.reduceSub, Nat.reduceEqDiff, Nat.reduceLeDiff, Nat.reduceBEq, Int.reduceToNat, Nat.reduceLT, Int.reduceBEq, Int.reduceBNe, Int.reduceLT, Int.reduceLE, Int.reduceGT, Int.reduceGE, UInt8.reduceToNat, Int.reduceNeg, Int.reduceAdd, Int.reduceSub, Wt]
      refine calD (same_to l l (by omega)) ?_
      try simp only [GHole.cs, beq_self_eq_true, ↓Wd0, Wr0, Wr1, opnds, ofVal, ofValC, PV.cells, PV.one, PV.fit, partE, setL, pickE, intE, strE, eqC, eqCs, kindOK, aggEqE, binE, unaE, convE, fieldE, faddrE, iaddrE, indexE, loE, sliceE, nilE, fillP, buildE, elemsE, bslE, lenE, appE, stripC, strip1, strip1L, strip, tupV, resV, convT, convN, sliceB, sliceA, sliceO, convB, clearE, appB, lookE, insE, keyOK, reduceCtorEq, ↓reduceIte, Nat.reduceAdd, Nat.reduceMul, Nat.reduceSub, Nat.reduceEqDiff, Nat.reduceLeDiff, Nat.reduceBEq, Int.reduceToNat, Nat.reduceLT, Int.reduceBEq, Int.reduceBNe, Int.reduceLT, Int.reduceLE, Int.reduceGT, Int.reduceGE, UInt8.reduceToNat, Int.reduceNeg, Int.reduceAdd, Int.reduceSub, Wt]
    · rw [if_neg hc] at hm
      rw [hm]
      have hcf : (peerIs h peer && !overP now h) = false := by simpa using hc
      have hfin : CallsTo Try.prog 24 [.sl 1 ((l ++ [h]).map GHole.cs), .sl 1 ((l ++ [h]).map GHole.cs)] (.bool (l ++ [h] == l ++ [h])) [] := same_to (l ++ [h]) (l ++ [h]) hle
      cases hpq : peerIs h peer
      · try simp only [mtcP, GHole.cs, GHost.cs, u8_cmp, peer_flip, now_f, zeroH, hpq, ↓Wd0, Wr0, Wr1, opnds, ofVal, ofValC, PV.cells, PV.one, PV.fit, partE, setL, pickE, intE, strE, eqC, eqCs, kindOK, aggEqE, binE, unaE, convE, fieldE, faddrE, iaddrE, indexE, loE, sliceE, nilE, fillP, buildE, elemsE, bslE, lenE, appE, stripC, strip1, strip1L, strip, tupV, resV, convT, convN, sliceB, sliceA, sliceO, convB, clearE, appB, lookE, insE, keyOK, reduceCtorEq, ↓reduceIte, Nat.reduceAdd, Nat.reduceMul, Nat.reduceSub, Nat.reduceEqDiff, Nat.reduceLeDiff, Nat.reduceBEq, Int.reduceToNat, Nat.reduceLT, Int.reduceBEq, Int.reduceBNe, Int.reduceLT, Int.reduceLE, Int.reduceGT, Int.reduceGE, UInt8.reduceToNat, Int.reduceNeg, Int.reduceAdd, Int.reduceSub, Wt]
        refine calD hfin ?_
        try simp only [GHole.cs, beq_self_eq_true, ↓Wd0, Wr0, Wr1, opnds, ofVal, ofValC, PV.cells, PV.one, PV.fit, partE, setL, pickE, intE, strE, eqC, eqCs, kindOK, aggEqE, binE, unaE, convE, fieldE, faddrE, iaddrE, indexE, loE, sliceE, nilE, fillP, buildE, elemsE, bslE, lenE, appE, stripC, strip1, strip1L, strip, tupV, resV, convT, convN, sliceB, sliceA, sliceO, convB, clearE, appB, lookE, insE, keyOK, reduceCtorEq, ↓reduceIte, Nat.reduceAdd, Nat.reduceMul, Nat.reduceSub, Nat.reduceEqDiff, Nat.reduceLeDiff, Nat.reduceBEq, Int.reduceToNat, Nat.reduceLT, Int.reduceBEq, Int.reduceBNe, Int.reduceLT, Int.reduceLE, Int.reduceGT, Int.reduceGE, UInt8.reduceToNat, Int.reduceNeg, Int.reduceAdd, Int.reduceSub, Wt]
      · have hov : overP now h = true := by rw [hpq] at hcf; simpa using hcf
        try simp only [mtcP, GHole.cs, GHost.cs, u8_cmp, peer_flip, now_f, zeroH, hpq, hov, ↓Wd0, Wr0, Wr1, opnds, ofVal, ofValC, PV.cells, PV.one, PV.fit, partE, setL, pickE, intE, strE, eqC, eqCs, kindOK, aggEqE, binE, unaE, convE, fieldE, faddrE, iaddrE, indexE, loE, sliceE, nilE, fillP, buildE, elemsE, bslE, lenE, appE, stripC, strip1, strip1L, strip, tupV, resV, convT, convN, sliceB, sliceA, sliceO, convB, clearE, appB, lookE, insE, keyOK, reduceCtorEq, ↓reduceIte, Nat.reduceAdd, Nat.reduceMul, Nat.reduceSub, Nat.reduceEqDiff, Nat.reduceLeDiff, Nat.reduceBEq, Int.reduceToNat, Nat.reduceLT, Int.reduceBEq, Int.reduceBNe, Int.reduceLT, Int.reduceLE, Int.reduceGT, Int.reduceGE, UInt8.reduceToNat, Int.reduceNeg, Int.reduceAdd, Int.reduceSub, Wt]
        refine calD hfin ?_
        try simp only [GHole.cs, beq_self_eq_true, ↓Wd0, Wr0, Wr1, opnds, ofVal, ofValC, PV.cells, PV.one, PV.fit, partE, setL, pickE, intE, strE, eqC, eqCs, kindOK, aggEqE, binE, unaE, convE, fieldE, faddrE, iaddrE, indexE, loE, sliceE, nilE, fillP, buildE, elemsE, bslE, lenE, appE, stripC, strip1, strip1L, strip, tupV, resV, convT, convN, sliceB, sliceA, sliceO, convB, clearE, appB, lookE, insE, keyOK, reduceCtorEq, ↓reduceIte, Nat.reduceAdd, Nat.reduceMul, Nat.reduceSub, Nat.reduceEqDiff, Nat.reduceLeDiff, Nat.reduceBEq, Int.reduceToNat, Nat.reduceLT, Int.reduceBEq, Int.reduceBNe, Int.reduceLT, Int.reduceLE, Int.reduceGT, Int.reduceGE, UInt8.reduceToNat, Int.reduceNeg, Int.reduceAdd, Int.reduceSub, Wt]
end Go.Proofs.Ytmdijfchljgdaaa
