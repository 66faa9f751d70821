import Derived.Test.YtbpagmhhjbcceaaJa
/-! The document's numbers. -/
set_option linter.unusedSimpArgs false
set_option linter.unusedVariables false
set_option maxHeartbeats 4000000
set_option maxRecDepth 100000
namespace Go.Proofs.Ytbpagmhhjbcceaa
open Go.RowKit

theorem dig_at : ∀ d, d < 10 → List.drop d (48 :: List.take d [49, 50, 51, 52, 53, 54, 55, 56, 57]) = [digN d] := by decide +kernel
theorem digs_len : ∀ n v, v < 10 ^ n → 0 < n → (digs v).length ≤ n
  | 0, _, _, h => absurd h (by omega)
  | n + 1, v, h, _ => by
    by_cases h10 : v < 10
    · rw [digs_lo h10]; simp
    · rw [digs_hi h10]
      have hn : 0 < n := by
        rcases Nat.eq_zero_or_pos n with hz | hz
        · subst hz; simp at h; omega
        · exact hz
      have := digs_len n (v / 10) (by rw [Nat.pow_succ] at h; omega) hn
      simp
      omega
theorem num_to (v : Nat) (hv : v < 1000000000000000000) : CallsTo Try.prog 22 [.int .i64 v] (.str (digs v)) [] := by
  have hlen := digs_len 18 v hv (by omega)
  have e0 : decide ((v : Int) < 0) = false := decide_eq_false (by omega)
  refine callsTo_of mixed Try.func22 rfl Try.ntmps22 Try.results22 (by kernel_rfl) (by kernel_rfl) (by simp) [] ?_
  simp only [↓Wd0, Wr0, Wr1, opnds, ofVal, ofValC, PV.cells, PV.one, PV.fit, partE, setL, pickE, intE, strE, eqC, eqCs, kindOK, aggEqE, binE, unaE, convE, fieldE, faddrE, iaddrE, indexE, loE, sliceE, nilE, fillP, buildE, elemsE, bslE, lenE, appE, stripC, strip1, strip1L, strip, tupV, resV, convT, convN, sliceB, sliceA, sliceO, convB, clearE, appB, lookE, insE, keyOK, reduceCtorEq, ↓reduceIte, Nat.reduceAdd, Nat.reduceMul, Nat.reduceSub, Nat.reduceEqDiff, Nat.reduceLeDiff, Nat.reduceBEq, Int.reduceToNat, Nat.reduceLT, Int.reduceBEq, Int.reduceBNe, Int.reduceLT, Int.reduceLE, Int.reduceGT, Int.reduceGE, UInt8.reduceToNat, Int.reduceNeg, Int.reduceAdd, Int.reduceSub, Wt]
  try simp only [e0, ↓Wd0, Wr0, Wr1, opnds, ofVal, ofValC, PV.cells, PV.one, PV.fit, partE, setL, pickE, intE, strE, eqC, eqCs, kindOK, aggEqE, binE, unaE, convE, fieldE, faddrE, iaddrE, indexE, loE, sliceE, nilE, fillP, buildE, elemsE, bslE, lenE, appE, stripC, strip1, strip1L, strip, tupV, resV, convT, convN, sliceB, sliceA, sliceO, convB, clearE, appB, lookE, insE, keyOK, reduceCtorEq, ↓reduceIte, Nat.reduceAdd, Nat.reduceMul, Nat.reduceSub, Nat.reduceEqDiff, Nat.reduceLeDiff, Nat.reduceBEq, Int.reduceToNat, Nat.reduceLT, Int.reduceBEq, Int.reduceBNe, Int.reduceLT, Int.reduceLE, Int.reduceGT, Int.reduceGE, UInt8.reduceToNat, Int.reduceNeg, Int.reduceAdd, Int.reduceSub, Wt]
  refine loopD (M := []) mixed (by kernel_rfl) [0, 4, 5, 8, 9, 10, 11, 12, 13, 14, 15, 16, 17, 18, 19, 20, 21, 22, 23] (by kernel_rfl) (fun n f H N => ∃ (m : Nat) (out : List UInt8), f 0 = .int .i64 m ∧ f 4 = .str out ∧ n = m ∧ digs m ++ out = digs v ∧ m < 1000000000000000000) ⟨_, v, [], rfl, rfl, rfl, by simp, hv⟩ ?_
  rintro n f H N ⟨m, out, hf, hf4, rfl, ho, hm⟩
  have e1 : Int.tmod (n : Int) 10 = ((n % 10 : Nat) : Int) := by
    rw [Int.tmod_eq_emod_of_nonneg (by omega)]; omega
  have e2 : Int.tdiv (n : Int) 10 = ((n / 10 : Nat) : Int) := by
    rw [Int.tdiv_eq_ediv_of_nonneg (by omega)]; omega
  have e3 : decide (((n % 10 : Nat) : Int) < 0) = false := decide_eq_false (by omega)
  have e4 : IntKind.i64.wrap (((n % 10 : Nat) : Int) + 1) = ((n % 10 + 1 : Nat) : Int) := wrap_succ (by omega)
  have e5 : IntKind.i64.wrap ((n / 10 : Nat) : Int) = ((n / 10 : Nat) : Int) := IntWalk.i64_in _ (by omega)
  have e6 := dig_at (n % 10) (by omega)
  have hol : out.length ≤ 18 := by
    rw [← ho] at hlen
    simp at hlen
    omega
  try simp only [hf, hf4, e1, e2, e3, e4, e5, e6, ↓Wd0, Wr0, Wr1, opnds, ofVal, ofValC, PV.cells, PV.one, PV.fit, partE, setL, pickE, intE, strE, eqC, eqCs, kindOK, aggEqE, binE, unaE, convE, fieldE, faddrE, iaddrE, indexE, loE, sliceE, nilE, fillP, buildE, elemsE, bslE, lenE, appE, stripC, strip1, strip1L, strip, tupV, resV, convT, convN, sliceB, sliceA, sliceO, convB, clearE, appB, lookE, insE, keyOK, reduceCtorEq, ↓reduceIte, Nat.reduceAdd, Nat.reduceMul, Nat.reduceSub, Nat.reduceEqDiff, Nat.reduceLeDiff, Nat.reduceBEq, Int.reduceToNat, Nat.reduceLT, Int.reduceBEq, Int.reduceBNe, Int.reduceLT, Int.reduceLE, Int.reduceGT, Int.reduceGE, UInt8.reduceToNat, Int.reduceNeg, Int.reduceAdd, Int.reduceSub, Wt]
  refine ⟨by omega, by omega, by first | omega | (simp; omega), by omega, ?_⟩
  refine ifD (fun hb => ?_) (fun hb => ?_)
  · have hz : n / 10 = 0 := by have := beq_iff_eq.1 hb; omega
    rw [digs_lo (by omega)] at ho
    try simp only [hf, hf4, e0, e1, e2, e3, e4, e5, e6, ho, ↓Wd0, Wr0, Wr1, opnds, ofVal, ofValC, PV.cells, PV.one, PV.fit, partE, setL, pickE, intE, strE, eqC, eqCs, kindOK, aggEqE, binE, unaE, convE, fieldE, faddrE, iaddrE, indexE, loE, sliceE, nilE, fillP, buildE, elemsE, bslE, lenE, appE, stripC, strip1, strip1L, strip, tupV, resV, convT, convN, sliceB, sliceA, sliceO, convB, clearE, appB, lookE, insE, keyOK, reduceCtorEq, ↓reduceIte, Nat.reduceAdd, Nat.reduceMul, Nat.reduceSub, Nat.reduceEqDiff, Nat.reduceLeDiff, Nat.reduceBEq, Int.reduceToNat, Nat.reduceLT, Int.reduceBEq, Int.reduceBNe, Int.reduceLT, Int.reduceLE, Int.reduceGT, Int.reduceGE, UInt8.reduceToNat, Int.reduceNeg, Int.reduceAdd, Int.reduceSub, Wt]
    rw [show n % 10 = n by omega]
    exact ho
  · have hz : n / 10 ≠ 0 := by have := beq_eq_false_iff_ne.1 hb; omega
    rw [digs_hi (by omega)] at ho
    try simp only [hf, hf4, e1, e2, e3, e4, e5, e6, ↓Wd0, Wr0, Wr1, opnds, ofVal, ofValC, PV.cells, PV.one, PV.fit, partE, setL, pickE, intE, strE, eqC, eqCs, kindOK, aggEqE, binE, unaE, convE, fieldE, faddrE, iaddrE, indexE, loE, sliceE, nilE, fillP, buildE, elemsE, bslE, lenE, appE, stripC, strip1, strip1L, strip, tupV, resV, convT, convN, sliceB, sliceA, sliceO, convB, clearE, appB, lookE, insE, keyOK, reduceCtorEq, ↓reduceIte, Nat.reduceAdd, Nat.reduceMul, Nat.reduceSub, Nat.reduceEqDiff, Nat.reduceLeDiff, Nat.reduceBEq, Int.reduceToNat, Nat.reduceLT, Int.reduceBEq, Int.reduceBNe, Int.reduceLT, Int.reduceLE, Int.reduceGT, Int.reduceGE, UInt8.reduceToNat, Int.reduceNeg, Int.reduceAdd, Int.reduceSub, Wt]
    exact ⟨_, by omega, n / 10, _, rfl, rfl, rfl, by rw [← ho]; simp, by omega⟩
def cellU (c : UInt8) : PV := .int .u8 (c.toNat : Int)
theorem unP_cell (l : List UInt8) : (l.map cellU).map unP = l := by
  rw [List.map_map]
  have : unP ∘ cellU = id := funext fun c => by simp [unP, cellU]
  rw [this, List.map_id]
def boxN (out : List UInt8) : List PV := List.replicate (24 - out.length) (.int .u8 0) ++ out.map cellU
theorem boxN_len {out : List UInt8} (h : out.length ≤ 24) : (boxN out).length = 24 := by simp [boxN]; omega
theorem boxN_set {out : List UInt8} (h : out.length < 24) (c : UInt8) : (boxN out).set (23 - out.length) (.int .u8 (c.toNat : Int)) = boxN (c :: out) := by
  unfold boxN
  rw [show 24 - out.length = (23 - out.length) + 1 by omega, List.replicate_succ', List.append_assoc, List.set_append_right _ _ (by simp)]
  simp [cellU]
theorem boxN_drop {out : List UInt8} (h : out.length ≤ 24) : (boxN out).drop (24 - out.length) = out.map cellU := by
  unfold boxN
  rw [List.drop_left' (by simp)]
theorem boxN_nil : boxN [] = List.replicate 24 (.int .u8 0) := by simp [boxN]
/-- How far a number is written. -/
def numSt (v m : Nat) (out : List UInt8) : Prop := (out = [] ∧ m = v) ∨ (out ≠ [] ∧ ((m = 0 ∧ out = digs v) ∨ (m ≠ 0 ∧ digs m ++ out = digs v)))
theorem numSt_len {v m : Nat} {out : List UInt8} (hv : v < 1000000000000000000) (h : numSt v m out) (hg : out = [] ∨ m ≠ 0) : out.length ≤ 17 := by
  have hlen := digs_len 18 v hv (by omega)
  rcases h with ⟨rfl, _⟩ | ⟨h0, ⟨h1, h2⟩ | ⟨h1, h2⟩⟩
  · simp
  · rcases hg with hg | hg
    · exact absurd hg h0
    · exact absurd h1 hg
  · rw [← h2] at hlen
    have := List.length_pos_iff.2 (digs_ne m)
    simp at hlen
    omega
theorem numSt_go {v m : Nat} {out : List UInt8} (h : numSt v m out) (hg : out = [] ∨ m ≠ 0) : numSt v (m / 10) (digN (m % 10) :: out) := by
  right
  refine ⟨by simp, ?_⟩
  have hd : digs m ++ out = digs v := by
    rcases h with ⟨rfl, rfl⟩ | ⟨h0, ⟨h1, h2⟩ | ⟨h1, h2⟩⟩
    · simp
    · rcases hg with hg | hg
      · exact absurd hg h0
      · exact absurd h1 hg
    · exact h2
  by_cases h10 : m < 10
  · left
    rw [digs_lo h10] at hd
    refine ⟨by omega, ?_⟩
    rw [show m % 10 = m by omega, ← hd]
    rfl
  · right
    rw [digs_hi h10] at hd
    exact ⟨by omega, by rw [← hd]; simp⟩
theorem numSt_end {v : Nat} {out : List UInt8} (h : numSt v 0 out) (hne : out ≠ []) : out = digs v := by
  rcases h with ⟨h0, _⟩ | ⟨_, ⟨_, h2⟩ | ⟨h1, _⟩⟩
  · exact absurd h0 hne
  · exact h2
  · exact absurd rfl h1
theorem dig_get : ∀ d, d < 10 → ([48, 49, 50, 51, 52, 53, 54, 55, 56, 57] : List UInt8).getD d 0 = digN d := by decide +kernel
theorem qnum_to (v : Nat) (hv : v < 1000000000000000000) : CallsTo Try.prog 21 [.int .i64 v] (.str (digs v)) [] := by
  have hlen := digs_len 18 v hv (by omega)
  have e0 : decide ((v : Int) < 0) = false := decide_eq_false (by omega)
  have eu : IntKind.u64.wrap (v : Int) = (v : Int) := IntWalk.u64_in _ (by omega)
  refine callsTo_of mixed Try.func21 rfl Try.ntmps21 Try.results21 (by kernel_rfl) (by kernel_rfl) (by simp) [] ?_
  simp only [↓Wd0, Wr0, Wr1, opnds, ofVal, ofValC, PV.cells, PV.one, PV.fit, partE, setL, pickE, intE, strE, eqC, eqCs, kindOK, aggEqE, binE, unaE, convE, fieldE, faddrE, iaddrE, indexE, loE, sliceE, nilE, fillP, buildE, elemsE, bslE, lenE, appE, stripC, strip1, strip1L, strip, tupV, resV, convT, convN, sliceB, sliceA, sliceO, convB, clearE, appB, lookE, insE, keyOK, reduceCtorEq, ↓reduceIte, Nat.reduceAdd, Nat.reduceMul, Nat.reduceSub, Nat.reduceEqDiff, Nat.reduceLeDiff, Nat.reduceBEq, Int.reduceToNat, Nat.reduceLT, Int.reduceBEq, Int.reduceBNe, Int.reduceLT, Int.reduceLE, Int.reduceGT, Int.reduceGE, UInt8.reduceToNat, Int.reduceNeg, Int.reduceAdd, Int.reduceSub, Wt]
  try simp only [e0, eu, ↓Wd0, Wr0, Wr1, opnds, ofVal, ofValC, PV.cells, PV.one, PV.fit, partE, setL, pickE, intE, strE, eqC, eqCs, kindOK, aggEqE, binE, unaE, convE, fieldE, faddrE, iaddrE, indexE, loE, sliceE, nilE, fillP, buildE, elemsE, bslE, lenE, appE, stripC, strip1, strip1L, strip, tupV, resV, convT, convN, sliceB, sliceA, sliceO, convB, clearE, appB, lookE, insE, keyOK, reduceCtorEq, ↓reduceIte, Nat.reduceAdd, Nat.reduceMul, Nat.reduceSub, Nat.reduceEqDiff, Nat.reduceLeDiff, Nat.reduceBEq, Int.reduceToNat, Nat.reduceLT, Int.reduceBEq, Int.reduceBNe, Int.reduceLT, Int.reduceLE, Int.reduceGT, Int.reduceGE, UInt8.reduceToNat, Int.reduceNeg, Int.reduceAdd, Int.reduceSub, Wt]
  refine loopD (M := []) mixed (by kernel_rfl) [4, 5, 6, 13, 14, 15, 16, 17, 18, 19, 20, 21, 22, 23, 24, 25, 26] (by kernel_rfl) (fun n f H N => ∃ (m : Nat) (out : List UInt8), f 4 = .int .i64 ((24 - out.length : Nat) : Int) ∧ f 5 = .int .u64 m ∧ f 6 = .bool out.isEmpty ∧ n = m + (if out = [] then 1 else 0) ∧ numSt v m out ∧ m ≤ v ∧ 16 < N ∧ H 16 = some (.box (boxN out))) (by refine ⟨v + 1, v, [], ?_, ?_, ?_, ?_, .inl ⟨rfl, rfl⟩, by omega, ?_, ?_⟩; all_goals (first | rfl | omega | exact congrArg (PV.int IntKind.u64) eu)) ?_
  rintro n f H N ⟨m, out, hf4, hf5, hf6, rfl, hst, hm, hN, hH⟩
  by_cases ho : out = []
  · have hem : out.isEmpty = true := by rw [ho]; rfl
    have hg : out = [] ∨ m ≠ 0 := .inl ho
    try simp (disch := omega) only [hf4, hf5, hf6, hem, ne_far, ne_far', ne_at, ne_at', far_far, far_at, at_far, lt_far, ↓Wd0, Wr0, Wr1, opnds, ofVal, ofValC, PV.cells, PV.one, PV.fit, partE, setL, pickE, intE, strE, eqC, eqCs, kindOK, aggEqE, binE, unaE, convE, fieldE, faddrE, iaddrE, indexE, loE, sliceE, nilE, fillP, buildE, elemsE, bslE, lenE, appE, stripC, strip1, strip1L, strip, tupV, resV, convT, convN, sliceB, sliceA, sliceO, convB, clearE, appB, lookE, insE, keyOK, reduceCtorEq, ↓reduceIte, Nat.reduceAdd, Nat.reduceMul, Nat.reduceSub, Nat.reduceEqDiff, Nat.reduceLeDiff, Nat.reduceBEq, Int.reduceToNat, Nat.reduceLT, Int.reduceBEq, Int.reduceBNe, Int.reduceLT, Int.reduceLE, Int.reduceGT, Int.reduceGE, UInt8.reduceToNat, Int.reduceNeg, Int.reduceAdd, Int.reduceSub, Wt]
    have h17 := numSt_len hv hst hg
    have hgo := numSt_go hst hg
    have e1 : Int.tmod (m : Int) 10 = ((m % 10 : Nat) : Int) := by
      rw [Int.tmod_eq_emod_of_nonneg (by omega)]; omega
    have e2 : IntKind.u64.wrap (Int.tdiv (m : Int) 10) = ((m / 10 : Nat) : Int) := by
      rw [IntWalk.u64_quo _ _ (by omega)]; omega
    have e3 : IntKind.i64.wrap (((24 - out.length : Nat) : Int) - 1) = ((23 - out.length : Nat) : Int) := by
      rw [IntWalk.i64_in _ (by omega)]; omega
    have e4 : (0 + (23 - out.length) * 1 : Nat) = 23 - out.length := by omega
    have e5 := dig_get (m % 10) (by omega)
    have e6 : (23 - out.length + 1 ≤ (boxN out).length) = True := eq_true (by rw [boxN_len (by omega)]; omega)
    have e7 := boxN_set (out := out) (by omega) (digN (m % 10))
    have e8 : (0 + (23 - out.length) : Nat) = 23 - out.length := by omega
    try simp (disch := omega) only [hf4, hf5, hf6, hH, e1, e2, e3, e4, e5, e6, e7, e8, hem, Nat.mul_one, ne_far, ne_far', ne_at, ne_at', far_far, far_at, at_far, lt_far, ↓Wd0, Wr0, Wr1, opnds, ofVal, ofValC, PV.cells, PV.one, PV.fit, partE, setL, pickE, intE, strE, eqC, eqCs, kindOK, aggEqE, binE, unaE, convE, fieldE, faddrE, iaddrE, indexE, loE, sliceE, nilE, fillP, buildE, elemsE, bslE, lenE, appE, stripC, strip1, strip1L, strip, tupV, resV, convT, convN, sliceB, sliceA, sliceO, convB, clearE, appB, lookE, insE, keyOK, reduceCtorEq, ↓reduceIte, Nat.reduceAdd, Nat.reduceMul, Nat.reduceSub, Nat.reduceEqDiff, Nat.reduceLeDiff, Nat.reduceBEq, Int.reduceToNat, Nat.reduceLT, Int.reduceBEq, Int.reduceBNe, Int.reduceLT, Int.reduceLE, Int.reduceGT, Int.reduceGE, UInt8.reduceToNat, Int.reduceNeg, Int.reduceAdd, Int.reduceSub, Wt]
    have hlt : m / 10 + (if (digN (m % 10) :: out) = [] then 1 else 0) < m + (if out = [] then 1 else 0) := by
      rw [if_neg (by simp)]
      rcases hg with hg | hg
      · rw [if_pos hg]; omega
      · split <;> omega
    exact ⟨by omega, by omega, by omega, by omega, _, hlt, m / 10, digN (m % 10) :: out, by first | (simp; done) | (simp; omega), rfl, rfl, rfl, hgo, by omega, rfl⟩
  · have hem : out.isEmpty = false := by simpa using ho
    try simp (disch := omega) only [hf4, hf5, hf6, hem, ne_far, ne_far', ne_at, ne_at', far_far, far_at, at_far, lt_far, ↓Wd0, Wr0, Wr1, opnds, ofVal, ofValC, PV.cells, PV.one, PV.fit, partE, setL, pickE, intE, strE, eqC, eqCs, kindOK, aggEqE, binE, unaE, convE, fieldE, faddrE, iaddrE, indexE, loE, sliceE, nilE, fillP, buildE, elemsE, bslE, lenE, appE, stripC, strip1, strip1L, strip, tupV, resV, convT, convN, sliceB, sliceA, sliceO, convB, clearE, appB, lookE, insE, keyOK, reduceCtorEq, ↓reduceIte, Nat.reduceAdd, Nat.reduceMul, Nat.reduceSub, Nat.reduceEqDiff, Nat.reduceLeDiff, Nat.reduceBEq, Int.reduceToNat, Nat.reduceLT, Int.reduceBEq, Int.reduceBNe, Int.reduceLT, Int.reduceLE, Int.reduceGT, Int.reduceGE, UInt8.reduceToNat, Int.reduceNeg, Int.reduceAdd, Int.reduceSub, Wt]
    refine ifD (fun hb => ?_) (fun hb => ?_)
    · have hg : out = [] ∨ m ≠ 0 := .inr (by have := of_decide_eq_true hb; omega)
      have h17 := numSt_len hv hst hg
      have hgo := numSt_go hst hg
      have e1 : Int.tmod (m : Int) 10 = ((m % 10 : Nat) : Int) := by
        rw [Int.tmod_eq_emod_of_nonneg (by omega)]; omega
      have e2 : IntKind.u64.wrap (Int.tdiv (m : Int) 10) = ((m / 10 : Nat) : Int) := by
        rw [IntWalk.u64_quo _ _ (by omega)]; omega
      have e3 : IntKind.i64.wrap (((24 - out.length : Nat) : Int) - 1) = ((23 - out.length : Nat) : Int) := by
        rw [IntWalk.i64_in _ (by omega)]; omega
      have e4 : (0 + (23 - out.length) * 1 : Nat) = 23 - out.length := by omega
      have e5 := dig_get (m % 10) (by omega)
      have e6 : (23 - out.length + 1 ≤ (boxN out).length) = True := eq_true (by rw [boxN_len (by omega)]; omega)
      have e7 := boxN_set (out := out) (by omega) (digN (m % 10))
      have e8 : (0 + (23 - out.length) : Nat) = 23 - out.length := by omega
      try simp (disch := omega) only [hf4, hf5, hf6, hH, e1, e2, e3, e4, e5, e6, e7, e8, hem, Nat.mul_one, ne_far, ne_far', ne_at, ne_at', far_far, far_at, at_far, lt_far, ↓Wd0, Wr0, Wr1, opnds, ofVal, ofValC, PV.cells, PV.one, PV.fit, partE, setL, pickE, intE, strE, eqC, eqCs, kindOK, aggEqE, binE, unaE, convE, fieldE, faddrE, iaddrE, indexE, loE, sliceE, nilE, fillP, buildE, elemsE, bslE, lenE, appE, stripC, strip1, strip1L, strip, tupV, resV, convT, convN, sliceB, sliceA, sliceO, convB, clearE, appB, lookE, insE, keyOK, reduceCtorEq, ↓reduceIte, Nat.reduceAdd, Nat.reduceMul, Nat.reduceSub, Nat.reduceEqDiff, Nat.reduceLeDiff, Nat.reduceBEq, Int.reduceToNat, Nat.reduceLT, Int.reduceBEq, Int.reduceBNe, Int.reduceLT, Int.reduceLE, Int.reduceGT, Int.reduceGE, UInt8.reduceToNat, Int.reduceNeg, Int.reduceAdd, Int.reduceSub, Wt]
      have hlt : m / 10 + (if (digN (m % 10) :: out) = [] then 1 else 0) < m + (if out = [] then 1 else 0) := by
        rw [if_neg (by simp)]
        rcases hg with hg | hg
        · rw [if_pos hg]; omega
        · split <;> omega
      exact ⟨by omega, by omega, by omega, by omega, _, hlt, m / 10, digN (m % 10) :: out, by first | (simp; done) | (simp; omega), rfl, rfl, rfl, hgo, by omega, rfl⟩
    · have hm0 : m = 0 := by have := of_decide_eq_false hb; omega
      subst hm0
      have hend := numSt_end hst ho
      have hol : out.length ≤ 18 := by rw [hend]; exact hlen
      try simp (disch := omega) only [hf4, hf5, hf6, hH, e0, ne_far, ne_far', ne_at, ne_at', far_far, far_at, at_far, lt_far, ↓Wd0, Wr0, Wr1, opnds, ofVal, ofValC, PV.cells, PV.one, PV.fit, partE, setL, pickE, intE, strE, eqC, eqCs, kindOK, aggEqE, binE, unaE, convE, fieldE, faddrE, iaddrE, indexE, loE, sliceE, nilE, fillP, buildE, elemsE, bslE, lenE, appE, stripC, strip1, strip1L, strip, tupV, resV, convT, convN, sliceB, sliceA, sliceO, convB, clearE, appB, lookE, insE, keyOK, reduceCtorEq, ↓reduceIte, Nat.reduceAdd, Nat.reduceMul, Nat.reduceSub, Nat.reduceEqDiff, Nat.reduceLeDiff, Nat.reduceBEq, Int.reduceToNat, Nat.reduceLT, Int.reduceBEq, Int.reduceBNe, Int.reduceLT, Int.reduceLE, Int.reduceGT, Int.reduceGE, UInt8.reduceToNat, Int.reduceNeg, Int.reduceAdd, Int.reduceSub, Wt]
      have d1 : 0 + (24 - out.length) * 1 = 24 - out.length := by omega
      have d2 : 24 - (24 - out.length) = out.length := by omega
      have d3 : List.take out.length (List.drop (24 - out.length) (boxN out)) = out.map cellU := by
        rw [boxN_drop (by omega), List.take_of_length_le (by simp)]
      rw [d1, d2, d3]
      refine ⟨by omega, ⟨by rw [boxN_len (by omega)]; omega, fun p hp => ?_⟩, by rw [unP_cell, hend]⟩
      obtain ⟨c, _, rfl⟩ := List.mem_map.1 hp
      exact ⟨c, rfl⟩
end Go.Proofs.Ytbpagmhhjbcceaa
