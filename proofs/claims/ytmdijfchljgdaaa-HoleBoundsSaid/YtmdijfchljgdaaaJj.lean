import Derived.Test.YtmdijfchljgdaaaJi
/-! Later, and once. -/
set_option linter.unusedSimpArgs false
set_option linter.unusedVariables false
set_option maxHeartbeats 4000000
set_option maxRecDepth 100000
namespace Go.Proofs.Ytmdijfchljgdaaa
open Go.RowKit

theorem any_at {p : GHole → Bool} {l : List GHole} {j : Nat} (hj : j < l.length) (h : p (l.getD j default) = true) : l.any p = true := by
  rw [List.any_eq_true]
  refine ⟨_, ?_, h⟩
  rw [List.getD_eq_getElem?_getD, List.getElem?_eq_getElem hj]
  exact List.getElem_mem _
theorem any_no {p : GHole → Bool} {l : List GHole} (h : ∀ j, j < l.length → p (l.getD j default) = false) : l.any p = false := by
  rw [List.any_eq_false]
  intro x hx
  obtain ⟨j, hj, rfl⟩ := List.getElem_of_mem hx
  have := h j hj
  rw [List.getD_eq_getElem?_getD, List.getElem?_eq_getElem hj] at this
  simpa using this
theorem match_at (l : List GHole) (port : Int) (q : GHost) (now : Int) : (l.any (matchP port q now) = false ∧ matchB l port q now = (l, zeroH, false)) ∨
    (l.any (matchP port q now) = true ∧ ∃ i, i < l.length ∧ matchP port q now (l.getD i default) = true ∧ (∀ j, j < i → matchP port q now (l.getD j default) = false) ∧ matchB l port q now = (dropAt l i, l.getD i default, true)) := by
  by_cases hi : idxH (matchP port q now) l = -1
  · left
    exact ⟨any_no fun j hj => idx_neg l.length 0 hi j (by omega) (by omega), by unfold matchB; rw [if_pos hi]⟩
  · right
    obtain ⟨i, h0, _, h2, h3, h4⟩ := idx_pos (p := matchP port q now) (l := l) l.length 0 hi
    have hi1 : idxH (matchP port q now) l = (i : Int) := h0
    exact ⟨any_at (by omega) h3, i, by omega, h3, fun j hj => h4 j (by omega) hj, by unfold matchB; rw [if_neg hi, hi1]; rfl⟩
theorem match_dead {port : Int} {q : GHost} {now : Int} {x : GHole} (h : matchP port q now x = true) : now < x.dead := by
  unfold matchP overP at h
  simp at h
  exact h.2
theorem match_ahead {port : Int} {q : GHost} {now later : Int} {x : GHole} (hl : now ≤ later) (h : matchP port q later x = true) : matchP port q now x = true := by
  unfold matchP overP at *
  simp at *
  exact ⟨h.1, by omega⟩
theorem keep_any (l : List GHole) (port : Int) (q : GHost) (now : Int) : (keep (overP now) l).any (matchP port q now) = l.any (matchP port q now) := by
  rw [Bool.eq_iff_iff, List.any_eq_true, List.any_eq_true]
  constructor
  · rintro ⟨x, hx, h⟩
    exact ⟨x, (List.mem_filter.1 hx).1, h⟩
  · rintro ⟨x, hx, h⟩
    refine ⟨x, List.mem_filter.2 ⟨hx, ?_⟩, h⟩
    unfold matchP at h
    simp at h ⊢
    exact h.2
theorem later_to (l : List GHole) (port : Int) (peer : GHost) (now later : Int) (kl : l.length ≤ 9223372036854775807 ∧ ∀ b ∈ l, GHole.ok b) (kp : -9223372036854775808 ≤ port ∧ port ≤ 9223372036854775807) (kq : peer.ok) (kn : -9223372036854775808 ≤ now ∧ now ≤ 9223372036854775807) (kt : -9223372036854775808 ≤ later ∧ later ≤ 9223372036854775807) : CallsTo Try.prog 9 [.sl 1 (l.map GHole.cs), .int .i64 port, .agg peer.cs, .int .i64 now, .int .i64 later] (.bool true) [] := by
  refine callsTo_of mixed Try.func9 rfl Try.ntmps9 Try.results9 (by kernel_rfl) (by kernel_rfl) (by simp) [] ?_
  simp only [↓Wd0, Wr0, Wr1, opnds, ofVal, ofValC, PV.cells, PV.one, PV.fit, partE, setL, pickE, intE, strE, eqC, eqCs, kindOK, aggEqE, binE, unaE, convE, fieldE, faddrE, iaddrE, indexE, loE, sliceE, nilE, fillP, buildE, elemsE, bslE, lenE, appE, stripC, strip1, strip1L, strip, tupV, resV, convT, convN, sliceB, sliceA, sliceO, convB, clearE, appB, lookE, insE, keyOK, reduceCtorEq, ↓reduceIte, Nat.reduceAdd, Nat.reduceMul, Nat.reduceSub, Nat.reduceEqDiff, Nat.reduceLeDiff, Nat.reduceBEq, Int.reduceToNat, Nat.reduceLT, Int.reduceBEq, Int.reduceBNe, Int.reduceLT, Int.reduceLE, Int.reduceGT, Int.reduceGE, UInt8.reduceToNat, Int.reduceNeg, Int.reduceAdd, Int.reduceSub, Wt]
  refine calD awake_to ?_
  try simp only [List.length_map, GHost.cs, ↓Wd0, Wr0, Wr1, opnds, ofVal, ofValC, PV.cells, PV.one, PV.fit, partE, setL, pickE, intE, strE, eqC, eqCs, kindOK, aggEqE, binE, unaE, convE, fieldE, faddrE, iaddrE, indexE, loE, sliceE, nilE, fillP, buildE, elemsE, bslE, lenE, appE, stripC, strip1, strip1L, strip, tupV, resV, convT, convN, sliceB, sliceA, sliceO, convB, clearE, appB, lookE, insE, keyOK, reduceCtorEq, ↓reduceIte, Nat.reduceAdd, Nat.reduceMul, Nat.reduceSub, Nat.reduceEqDiff, Nat.reduceLeDiff, Nat.reduceBEq, Int.reduceToNat, Nat.reduceLT, Int.reduceBEq, Int.reduceBNe, Int.reduceLT, Int.reduceLE, Int.reduceGT, Int.reduceGE, UInt8.reduceToNat, Int.reduceNeg, Int.reduceAdd, Int.reduceSub, Wt]
  repeat' (first | (refine ifD (fun hb => ?_) (fun hb => ?_) <;> (try simp only [decide_eq_true_eq, decide_eq_false_iff_not, Int.not_lt, Int.not_le, Bool.not_eq_true', Bool.not_eq_false', beq_iff_eq, beq_eq_false_iff_ne, bne_iff_ne, ne_eq, not_true_eq_false, not_false_eq_true, reduceCtorEq, eq_self] at hb) <;> (try simp only [List.length_map, GHost.cs, ↓Wd0, Wr0, Wr1, opnds, ofVal, ofValC, PV.cells, PV.one, PV.fit, partE, setL, pickE, intE, strE, eqC, eqCs, kindOK, aggEqE, binE, unaE, convE, fieldE, faddrE, iaddrE, indexE, loE, sliceE, nilE, fillP, buildE, elemsE, bslE, lenE, appE, stripC, strip1, strip1L, strip, tupV, resV, convT, convN, sliceB, sliceA, sliceO, convB, clearE, appB, lookE, insE, keyOK, reduceCtorEq, ↓reduceIte, Nat.reduceAdd, Nat.reduceMul, Nat.reduceSub, Nat.reduceEqDiff, Nat.reduceLeDiff, Nat.reduceBEq, Int.reduceToNat, Nat.reduceLT, Int.reduceBEq, Int.reduceBNe, Int.reduceLT, Int.reduceLE, Int.reduceGT, Int.reduceGE, UInt8.reduceToNat, Int.reduceNeg, Int.reduceAdd, Int.reduceSub, Wt])) | (with_reducible apply And.intro)) <;> (try (first | omega | (exfalso; omega) | exact cmp_r (by first | (simp; done) | (simp; omega)) | exact cmp_l (by kernel_rfl)))
  have hk := keep_le (overP now) l
  refine calD (match_to l port peer now (by omega)) ?_
  try simp only [mtcP, GHole.cs, GHost.cs, ↓Wd0, Wr0, Wr1, opnds, ofVal, ofValC, PV.cells, PV.one, PV.fit, partE, setL, pickE, intE, strE, eqC, eqCs, kindOK, aggEqE, binE, unaE, convE, fieldE, faddrE, iaddrE, indexE, loE, sliceE, nilE, fillP, buildE, elemsE, bslE, lenE, appE, stripC, strip1, strip1L, strip, tupV, resV, convT, convN, sliceB, sliceA, sliceO, convB, clearE, appB, lookE, insE, keyOK, reduceCtorEq, ↓reduceIte, Nat.reduceAdd, Nat.reduceMul, Nat.reduceSub, Nat.reduceEqDiff, Nat.reduceLeDiff, Nat.reduceBEq, Int.reduceToNat, Nat.reduceLT, Int.reduceBEq, Int.reduceBNe, Int.reduceLT, Int.reduceLE, Int.reduceGT, Int.reduceGE, UInt8.reduceToNat, Int.reduceNeg, Int.reduceAdd, Int.reduceSub, Wt]
  refine calD (match_to l port peer later (by omega)) ?_
  try simp only [mtcP, GHole.cs, GHost.cs, ↓Wd0, Wr0, Wr1, opnds, ofVal, ofValC, PV.cells, PV.one, PV.fit, partE, setL, pickE, intE, strE, eqC, eqCs, kindOK, aggEqE, binE, unaE, convE, fieldE, faddrE, iaddrE, indexE, loE, sliceE, nilE, fillP, buildE, elemsE, bslE, lenE, appE, stripC, strip1, strip1L, strip, tupV, resV, convT, convN, sliceB, sliceA, sliceO, convB, clearE, appB, lookE, insE, keyOK, reduceCtorEq, ↓reduceIte, Nat.reduceAdd, Nat.reduceMul, Nat.reduceSub, Nat.reduceEqDiff, Nat.reduceLeDiff, Nat.reduceBEq, Int.reduceToNat, Nat.reduceLT, Int.reduceBEq, Int.reduceBNe, Int.reduceLT, Int.reduceLE, Int.reduceGT, Int.reduceGE, UInt8.reduceToNat, Int.reduceNeg, Int.reduceAdd, Int.reduceSub, Wt]
  refine calD (sweep_to l now (by omega)) ?_
  try simp only [GHost.cs, ↓Wd0, Wr0, Wr1, opnds, ofVal, ofValC, PV.cells, PV.one, PV.fit, partE, setL, pickE, intE, strE, eqC, eqCs, kindOK, aggEqE, binE, unaE, convE, fieldE, faddrE, iaddrE, indexE, loE, sliceE, nilE, fillP, buildE, elemsE, bslE, lenE, appE, stripC, strip1, strip1L, strip, tupV, resV, convT, convN, sliceB, sliceA, sliceO, convB, clearE, appB, lookE, insE, keyOK, reduceCtorEq, ↓reduceIte, Nat.reduceAdd, Nat.reduceMul, Nat.reduceSub, Nat.reduceEqDiff, Nat.reduceLeDiff, Nat.reduceBEq, Int.reduceToNat, Nat.reduceLT, Int.reduceBEq, Int.reduceBNe, Int.reduceLT, Int.reduceLE, Int.reduceGT, Int.reduceGE, UInt8.reduceToNat, Int.reduceNeg, Int.reduceAdd, Int.reduceSub, Wt]
  refine calD (match_to (keep (overP now) l) port peer now (by omega)) ?_
  have ka := keep_any l port peer now
  rcases match_at l port peer now with ⟨a1, e1⟩ | ⟨a1, i, _, hm, _, e1⟩
  · rw [a1] at ka
    have e3 : matchB (keep (overP now) l) port peer now = (keep (overP now) l, zeroH, false) := by
      rcases match_at (keep (overP now) l) port peer now with ⟨_, e⟩ | ⟨a, _⟩
      · exact e
      · rw [ka] at a; cases a
    have e2 : matchB l port peer later = (l, zeroH, false) := by
      rcases match_at l port peer later with ⟨_, e⟩ | ⟨a, j, hj, hm, _⟩
      · exact e
      · have := any_at hj (match_ahead (by omega : now ≤ later) hm)
        rw [a1] at this
        cases this
    rw [e1, e2, e3]
    try simp only [mtcP, GHole.cs, zeroH, GHost.cs, ↓Wd0, Wr0, Wr1, opnds, ofVal, ofValC, PV.cells, PV.one, PV.fit, partE, setL, pickE, intE, strE, eqC, eqCs, kindOK, aggEqE, binE, unaE, convE, fieldE, faddrE, iaddrE, indexE, loE, sliceE, nilE, fillP, buildE, elemsE, bslE, lenE, appE, stripC, strip1, strip1L, strip, tupV, resV, convT, convN, sliceB, sliceA, sliceO, convB, clearE, appB, lookE, insE, keyOK, reduceCtorEq, ↓reduceIte, Nat.reduceAdd, Nat.reduceMul, Nat.reduceSub, Nat.reduceEqDiff, Nat.reduceLeDiff, Nat.reduceBEq, Int.reduceToNat, Nat.reduceLT, Int.reduceBEq, Int.reduceBNe, Int.reduceLT, Int.reduceLE, Int.reduceGT, Int.reduceGE, UInt8.reduceToNat, Int.reduceNeg, Int.reduceAdd, Int.reduceSub, Wt]
    exact ⟨cmp_r (by simp), cmp_l (by kernel_rfl), cmp_r (by simp)⟩
  · rw [a1] at ka
    rcases match_at (keep (overP now) l) port peer now with ⟨a, _⟩ | ⟨_, j, hj, hmj, _, e3⟩
    · rw [ka] at a; cases a
    · have hd := match_dead hmj
      have dd : decide (((keep (overP now) l).getD j default).dead > now) = true := decide_eq_true (by omega)
      rw [e1, e3]
      try simp only [mtcP, GHole.cs, dd, GHost.cs, ↓Wd0, Wr0, Wr1, opnds, ofVal, ofValC, PV.cells, PV.one, PV.fit, partE, setL, pickE, intE, strE, eqC, eqCs, kindOK, aggEqE, binE, unaE, convE, fieldE, faddrE, iaddrE, indexE, loE, sliceE, nilE, fillP, buildE, elemsE, bslE, lenE, appE, stripC, strip1, strip1L, strip, tupV, resV, convT, convN, sliceB, sliceA, sliceO, convB, clearE, appB, lookE, insE, keyOK, reduceCtorEq, ↓reduceIte, Nat.reduceAdd, Nat.reduceMul, Nat.reduceSub, Nat.reduceEqDiff, Nat.reduceLeDiff, Nat.reduceBEq, Int.reduceToNat, Nat.reduceLT, Int.reduceBEq, Int.reduceBNe, Int.reduceLT, Int.reduceLE, Int.reduceGT, Int.reduceGE, UInt8.reduceToNat, Int.reduceNeg, Int.reduceAdd, Int.reduceSub, Wt]
      exact ⟨cmp_r (by simp), cmp_l (by kernel_rfl), cmp_r (by simp)⟩
end Go.Proofs.Ytmdijfchljgdaaa
