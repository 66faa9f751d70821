import Derived.Test.YtemlofepmphgiaaJg
/-! Feed, whole. -/
set_option linter.unusedSimpArgs false
set_option linter.unusedVariables false
set_option maxHeartbeats 4000000
set_option maxRecDepth 100000
namespace Go.Proofs.Ytemlofepmphgiaa
open Go.RowKit

def rd0 (f : GFramer) : Rd := ⟨f.b, f.cr, f.skip, []⟩
def feedS (most : Int) (alone : Bool) (s : Rd) (bs : List UInt8) : Rd := bs.foldl (takeS most alone) s
def Rd.pv (s : Rd) : PV := .tup [.agg [.sl 1 (s.b.map byteE), .bool s.cr, .bool s.skip], .sl 1 (s.out.map GLine.cs)]
theorem feed_succ {most : Int} {alone : Bool} {s : Rd} {bs : List UInt8} {k : Nat} (h : (k : Int) < bs.length) : feedS most alone s (bs.take (k + 1)) = takeS most alone (feedS most alone s (bs.take k)) (bs.getD k 0) := by
  rw [take_succ 0 h, feedS, List.foldl_append]
  rfl
theorem feed_len (most : Int) (alone : Bool) : ∀ (bs : List UInt8) (s : Rd), (feedS most alone s bs).b.length ≤ s.b.length + 2 * bs.length ∧ (feedS most alone s bs).out.length ≤ s.out.length + bs.length
  | [], s => ⟨by simp [feedS], by simp [feedS]⟩
  | c :: bs, s => by
    have h1 := take_len most alone s c
    have h2 := feed_len most alone bs (takeS most alone s c)
    have e : feedS most alone s (c :: bs) = feedS most alone (takeS most alone s c) bs := rfl
    rw [e, List.length_cons]
    omega
theorem feed_to (f : GFramer) (bs : List UInt8) (most : Int) (alone : Bool) (hf : f.b.length ≤ 100000) (hb : bs.length ≤ 100000) : CallsTo Try.prog 10 [.agg f.cs, .sl 1 (bs.map byteE), .int .i64 most, .bool alone] (feedS most alone (rd0 f) bs).pv [] := by
  refine callsTo_of mixed Try.func10 rfl Try.ntmps10 Try.results10 (by kernel_rfl) (by kernel_rfl) (by simp) [] ?_
  simp only [↓Wd0, Wr0, Wr1, opnds, ofVal, ofValC, PV.cells, PV.one, PV.fit, partE, setL, pickE, intE, strE, eqC, eqCs, kindOK, aggEqE, binE, unaE, convE, fieldE, faddrE, iaddrE, indexE, loE, sliceE, nilE, fillP, buildE, elemsE, bslE, lenE, appE, stripC, strip1, strip1L, strip, tupV, resV, convT, convN, sliceB, sliceA, sliceO, convB, clearE, appB, lookE, insE, keyOK, rangeE, reduceCtorEq, ↓reduceIte, Nat.reduceAdd, Nat.reduceMul, Nat.reduceSub, Nat.reduceEqDiff, Nat.reduceLeDiff, Nat.reduceBEq, Int.reduceToNat, Nat.reduceLT, Int.reduceBEq, Int.reduceBNe, Int.reduceLT, Int.reduceLE, Int.reduceGT, Int.reduceGE, UInt8.reduceToNat, Int.reduceNeg, Int.reduceAdd, Int.reduceSub, Wt]
  try simp only [GFramer.cs, ↓Wd0, Wr0, Wr1, opnds, ofVal, ofValC, PV.cells, PV.one, PV.fit, partE, setL, pickE, intE, strE, eqC, eqCs, kindOK, aggEqE, binE, unaE, convE, fieldE, faddrE, iaddrE, indexE, loE, sliceE, nilE, fillP, buildE, elemsE, bslE, lenE, appE, stripC, strip1, strip1L, strip, tupV, resV, convT, convN, sliceB, sliceA, sliceO, convB, clearE, appB, lookE, insE, keyOK, rangeE, reduceCtorEq, ↓reduceIte, Nat.reduceAdd, Nat.reduceMul, Nat.reduceSub, Nat.reduceEqDiff, Nat.reduceLeDiff, Nat.reduceBEq, Int.reduceToNat, Nat.reduceLT, Int.reduceBEq, Int.reduceBNe, Int.reduceLT, Int.reduceLE, Int.reduceGT, Int.reduceGE, UInt8.reduceToNat, Int.reduceNeg, Int.reduceAdd, Int.reduceSub, Wt]
  refine calDt (clone_tok f.b (by omega)) rfl ?_
  try simp only [GFramer.cs, List.length_map, ↓Wd0, Wr0, Wr1, opnds, ofVal, ofValC, PV.cells, PV.one, PV.fit, partE, setL, pickE, intE, strE, eqC, eqCs, kindOK, aggEqE, binE, unaE, convE, fieldE, faddrE, iaddrE, indexE, loE, sliceE, nilE, fillP, buildE, elemsE, bslE, lenE, appE, stripC, strip1, strip1L, strip, tupV, resV, convT, convN, sliceB, sliceA, sliceO, convB, clearE, appB, lookE, insE, keyOK, rangeE, reduceCtorEq, ↓reduceIte, Nat.reduceAdd, Nat.reduceMul, Nat.reduceSub, Nat.reduceEqDiff, Nat.reduceLeDiff, Nat.reduceBEq, Int.reduceToNat, Nat.reduceLT, Int.reduceBEq, Int.reduceBNe, Int.reduceLT, Int.reduceLE, Int.reduceGT, Int.reduceGE, UInt8.reduceToNat, Int.reduceNeg, Int.reduceAdd, Int.reduceSub, Wt]
  refine loopD (M := []) mixed (by kernel_rfl) [12, 24, 25, 26, 27, 28, 29, 30, 31] (by kernel_rfl) (fun n f' H N => ∃ k : Nat, k ≤ bs.length ∧ f' 24 = .int .i64 k ∧ n = bs.length - k ∧ 104 < N ∧ (∃ cs, cs.length = 3 ∧ H 16 = some (.box cs)) ∧ Nx H (feedS most alone (rd0 f) (bs.take k)) 104 most alone N) ⟨_, 0, by omega, rfl, rfl, by omega, ⟨_, rfl, rfl⟩, 50, 0, ⟨rfl, fun _ => rfl, fun h => by omega⟩, ⟨.inr (by omega), .inl ⟨rfl, rfl⟩, fun _ => by omega, fun h => by omega, fun _ => by omega⟩, fun _ => by omega, fun h => by omega⟩ ?_
  rintro n f' H N ⟨k, hk, hf', rfl, hN, ⟨cs, hcs, h16⟩, z, y, hv, hn, hz, hy⟩
  have hle := feed_len most alone (bs.take k) (rd0 f)
  have hkl : (bs.take k).length ≤ k := by simp; omega
  have hr1 : (rd0 f).b.length ≤ 100000 := hf
  have hr2 : (rd0 f).out.length = 0 := rfl
  try simp (disch := omega) only [hf', List.length_map, ne_far, ne_far', ne_at, ne_at', far_far, far_at, at_far, lt_far, ↓Wd0, Wr0, Wr1, opnds, ofVal, ofValC, PV.cells, PV.one, PV.fit, partE, setL, pickE, intE, strE, eqC, eqCs, kindOK, aggEqE, binE, unaE, convE, fieldE, faddrE, iaddrE, indexE, loE, sliceE, nilE, fillP, buildE, elemsE, bslE, lenE, appE, stripC, strip1, strip1L, strip, tupV, resV, convT, convN, sliceB, sliceA, sliceO, convB, clearE, appB, lookE, insE, keyOK, rangeE, reduceCtorEq, ↓reduceIte, Nat.reduceAdd, Nat.reduceMul, Nat.reduceSub, Nat.reduceEqDiff, Nat.reduceLeDiff, Nat.reduceBEq, Int.reduceToNat, Nat.reduceLT, Int.reduceBEq, Int.reduceBNe, Int.reduceLT, Int.reduceLE, Int.reduceGT, Int.reduceGE, UInt8.reduceToNat, Int.reduceNeg, Int.reduceAdd, Int.reduceSub, Wt]
  refine ifD (fun hb' => ?_) (fun hb' => ?_)
  · have hk' : (k : Int) < bs.length := of_decide_eq_true hb'
    have ew := wrap_succ (k := k) (by omega)
    have e := getD_map' (l := bs) (k := k) byteE 0 [] hk'
    obtain ⟨wr, hin, honly, hgo⟩ := take_step (feedS most alone (rd0 f) (bs.take k)) 104 z y most alone (bs.getD k 0) hn (by omega) (by omega)
    try simp (disch := omega) only [hf', e, byteE, List.length_map, ne_far, ne_far', ne_at, ne_at', far_far, far_at, at_far, lt_far, ↓Wd0, Wr0, Wr1, opnds, ofVal, ofValC, PV.cells, PV.one, PV.fit, partE, setL, pickE, intE, strE, eqC, eqCs, kindOK, aggEqE, binE, unaE, convE, fieldE, faddrE, iaddrE, indexE, loE, sliceE, nilE, fillP, buildE, elemsE, bslE, lenE, appE, stripC, strip1, strip1L, strip, tupV, resV, convT, convN, sliceB, sliceA, sliceO, convB, clearE, appB, lookE, insE, keyOK, rangeE, reduceCtorEq, ↓reduceIte, Nat.reduceAdd, Nat.reduceMul, Nat.reduceSub, Nat.reduceEqDiff, Nat.reduceLeDiff, Nat.reduceBEq, Int.reduceToNat, Nat.reduceLT, Int.reduceBEq, Int.reduceBNe, Int.reduceLT, Int.reduceLE, Int.reduceGT, Int.reduceGE, UInt8.reduceToNat, Int.reduceNeg, Int.reduceAdd, Int.reduceSub, Wt]
    refine ⟨by omega, ?_⟩
    refine inD hin hv.hs ?_
    try simp (disch := omega) only [hf', ne_far, ne_far', ne_at, ne_at', far_far, far_at, at_far, lt_far, ↓Wd0, Wr0, Wr1, opnds, ofVal, ofValC, PV.cells, PV.one, PV.fit, partE, setL, pickE, intE, strE, eqC, eqCs, kindOK, aggEqE, binE, unaE, convE, fieldE, faddrE, iaddrE, indexE, loE, sliceE, nilE, fillP, buildE, elemsE, bslE, lenE, appE, stripC, strip1, strip1L, strip, tupV, resV, convT, convN, sliceB, sliceA, sliceO, convB, clearE, appB, lookE, insE, keyOK, rangeE, reduceCtorEq, ↓reduceIte, Nat.reduceAdd, Nat.reduceMul, Nat.reduceSub, Nat.reduceEqDiff, Nat.reduceLeDiff, Nat.reduceBEq, Int.reduceToNat, Nat.reduceLT, Int.reduceBEq, Int.reduceBNe, Int.reduceLT, Int.reduceLE, Int.reduceGT, Int.reduceGE, UInt8.reduceToNat, Int.reduceNeg, Int.reduceAdd, Int.reduceSub, Wt]
    have hkeep : applyW H (wr (N + 48)) 16 = H 16 := applyW_no fun x hx => by
      rcases honly _ x hx with h | ⟨h2, h⟩ | ⟨h2, h⟩ | h
      · omega
      · have := hz h2; omega
      · have := hy h2; omega
      · omega
    have hnx := hgo H (N + 48) hv ⟨by omega, by omega⟩ (fun h => by have := hz h; omega) (fun h => by have := hy h; omega)
    rw [← feed_succ hk'] at hnx
    obtain ⟨z', y', h1, h2, h3, h4⟩ := hnx
    exact ⟨_, by omega, k + 1, by omega, ew, rfl, ⟨cs, hcs, hkeep.trans h16⟩, z', y', h1, h2, fun h => by have := h3 h; omega, fun h => by have := h4 h; omega⟩
  · have hkn : k = bs.length := by have := of_decide_eq_false hb'; omega
    subst hkn
    rw [List.take_length] at hv hn hle
    have hbox := hv.box
    obtain ⟨x0, x1, x2, rfl⟩ : ∃ x0 x1 x2, cs = [x0, x1, x2] := by
      match cs, hcs with
      | [a, b, c], _ => exact ⟨a, b, c, rfl⟩
    try simp (disch := omega) only [hf', hbox, h16, Rd.cs, ne_far, ne_far', ne_at, ne_at', far_far, far_at, at_far, lt_far, ↓Wd0, Wr0, Wr1, opnds, ofVal, ofValC, PV.cells, PV.one, PV.fit, partE, setL, pickE, intE, strE, eqC, eqCs, kindOK, aggEqE, binE, unaE, convE, fieldE, faddrE, iaddrE, indexE, loE, sliceE, nilE, fillP, buildE, elemsE, bslE, lenE, appE, stripC, strip1, strip1L, strip, tupV, resV, convT, convN, sliceB, sliceA, sliceO, convB, clearE, appB, lookE, insE, keyOK, rangeE, reduceCtorEq, ↓reduceIte, Nat.reduceAdd, Nat.reduceMul, Nat.reduceSub, Nat.reduceEqDiff, Nat.reduceLeDiff, Nat.reduceBEq, Int.reduceToNat, Nat.reduceLT, Int.reduceBEq, Int.reduceBNe, Int.reduceLT, Int.reduceLE, Int.reduceGT, Int.reduceGE, UInt8.reduceToNat, Int.reduceNeg, Int.reduceAdd, Int.reduceSub, Wt]
    repeat' (first | (refine ifD (fun hb => ?_) (fun hb => ?_) <;> (try simp only [decide_eq_true_eq, decide_eq_false_iff_not, Int.not_lt, Int.not_le, Bool.not_eq_true', Bool.not_eq_false', beq_iff_eq, beq_eq_false_iff_ne, bne_iff_ne, ne_eq, not_true_eq_false, not_false_eq_true, reduceCtorEq, eq_self] at hb) <;> (try simp (disch := omega) only [hf', hbox, h16, Rd.cs, Rd.pv, ne_far, ne_far', ne_at, ne_at', far_far, far_at, at_far, lt_far, ↓Wd0, Wr0, Wr1, opnds, ofVal, ofValC, PV.cells, PV.one, PV.fit, partE, setL, pickE, intE, strE, eqC, eqCs, kindOK, aggEqE, binE, unaE, convE, fieldE, faddrE, iaddrE, indexE, loE, sliceE, nilE, fillP, buildE, elemsE, bslE, lenE, appE, stripC, strip1, strip1L, strip, tupV, resV, convT, convN, sliceB, sliceA, sliceO, convB, clearE, appB, lookE, insE, keyOK, rangeE, reduceCtorEq, ↓reduceIte, Nat.reduceAdd, Nat.reduceMul, Nat.reduceSub, Nat.reduceEqDiff, Nat.reduceLeDiff, Nat.reduceBEq, Int.reduceToNat, Nat.reduceLT, Int.reduceBEq, Int.reduceBNe, Int.reduceLT, Int.reduceLE, Int.reduceGT, Int.reduceGE, UInt8.reduceToNat, Int.reduceNeg, Int.reduceAdd, Int.reduceSub, Wt])) | (with_reducible apply And.intro)) <;> (try (first | omega | (exfalso; omega) | exact cmp_r (by first | (simp; done) | (simp; omega)) | exact cmp_l (by kernel_rfl)))
    all_goals simp [Rd.pv]
theorem refend_to (s : Rd) (t : Nat) (ht : t < 2) : CallsTo Try.prog 19 [.agg [.sl t (s.b.map byteE), .bool s.cr, .bool s.skip]] (.agg (endLn s).cs) [] := by
  have e0 : (t < 2) = True := eq_true ht
  obtain ⟨b, cr, skip, out⟩ := s
  refine callsTo_of mixed Try.func19 rfl Try.ntmps19 Try.results19 (by kernel_rfl) (by kernel_rfl) (by simp) [] ?_
  simp only [↓Wd0, Wr0, Wr1, opnds, ofVal, ofValC, PV.cells, PV.one, PV.fit, partE, setL, pickE, intE, strE, eqC, eqCs, kindOK, aggEqE, binE, unaE, convE, fieldE, faddrE, iaddrE, indexE, loE, sliceE, nilE, fillP, buildE, elemsE, bslE, lenE, appE, stripC, strip1, strip1L, strip, tupV, resV, convT, convN, sliceB, sliceA, sliceO, convB, clearE, appB, lookE, insE, keyOK, rangeE, reduceCtorEq, ↓reduceIte, Nat.reduceAdd, Nat.reduceMul, Nat.reduceSub, Nat.reduceEqDiff, Nat.reduceLeDiff, Nat.reduceBEq, Int.reduceToNat, Nat.reduceLT, Int.reduceBEq, Int.reduceBNe, Int.reduceLT, Int.reduceLE, Int.reduceGT, Int.reduceGE, UInt8.reduceToNat, Int.reduceNeg, Int.reduceAdd, Int.reduceSub, Wt]
  cases skip with
  | true =>
    try simp only [GLine.cs, endLn, e0, ↓Wd0, Wr0, Wr1, opnds, ofVal, ofValC, PV.cells, PV.one, PV.fit, partE, setL, pickE, intE, strE, eqC, eqCs, kindOK, aggEqE, binE, unaE, convE, fieldE, faddrE, iaddrE, indexE, loE, sliceE, nilE, fillP, buildE, elemsE, bslE, lenE, appE, stripC, strip1, strip1L, strip, tupV, resV, convT, convN, sliceB, sliceA, sliceO, convB, clearE, appB, lookE, insE, keyOK, rangeE, reduceCtorEq, ↓reduceIte, Nat.reduceAdd, Nat.reduceMul, Nat.reduceSub, Nat.reduceEqDiff, Nat.reduceLeDiff, Nat.reduceBEq, Int.reduceToNat, Nat.reduceLT, Int.reduceBEq, Int.reduceBNe, Int.reduceLT, Int.reduceLE, Int.reduceGT, Int.reduceGE, UInt8.reduceToNat, Int.reduceNeg, Int.reduceAdd, Int.reduceSub, Wt]
  | false =>
    try simp only [GLine.cs, endLn, e0, if_true, unE_bytes, ↓Wd0, Wr0, Wr1, opnds, ofVal, ofValC, PV.cells, PV.one, PV.fit, partE, setL, pickE, intE, strE, eqC, eqCs, kindOK, aggEqE, binE, unaE, convE, fieldE, faddrE, iaddrE, indexE, loE, sliceE, nilE, fillP, buildE, elemsE, bslE, lenE, appE, stripC, strip1, strip1L, strip, tupV, resV, convT, convN, sliceB, sliceA, sliceO, convB, clearE, appB, lookE, insE, keyOK, rangeE, reduceCtorEq, ↓reduceIte, Nat.reduceAdd, Nat.reduceMul, Nat.reduceSub, Nat.reduceEqDiff, Nat.reduceLeDiff, Nat.reduceBEq, Int.reduceToNat, Nat.reduceLT, Int.reduceBEq, Int.reduceBNe, Int.reduceLT, Int.reduceLE, Int.reduceGT, Int.reduceGE, UInt8.reduceToNat, Int.reduceNeg, Int.reduceAdd, Int.reduceSub, Wt]
def Rd.fr (s : Rd) : PV := .agg [.sl 1 (s.b.map byteE), .bool s.cr, .bool s.skip]
theorem refput_to (s : Rd) (c : UInt8) (most : Int) (hl : s.b.length ≤ 1000000) : CallsTo Try.prog 20 [s.fr, .int .u8 c.toNat, .int .i64 most] (putS most s c).fr [] := by
  obtain ⟨b, cr, skip, out⟩ := s
  simp only at hl
  refine callsTo_of mixed Try.func20 rfl Try.ntmps20 Try.results20 (by kernel_rfl) (by kernel_rfl) (by simp) [] ?_
  simp only [↓Wd0, Wr0, Wr1, opnds, ofVal, ofValC, PV.cells, PV.one, PV.fit, partE, setL, pickE, intE, strE, eqC, eqCs, kindOK, aggEqE, binE, unaE, convE, fieldE, faddrE, iaddrE, indexE, loE, sliceE, nilE, fillP, buildE, elemsE, bslE, lenE, appE, stripC, strip1, strip1L, strip, tupV, resV, convT, convN, sliceB, sliceA, sliceO, convB, clearE, appB, lookE, insE, keyOK, rangeE, reduceCtorEq, ↓reduceIte, Nat.reduceAdd, Nat.reduceMul, Nat.reduceSub, Nat.reduceEqDiff, Nat.reduceLeDiff, Nat.reduceBEq, Int.reduceToNat, Nat.reduceLT, Int.reduceBEq, Int.reduceBNe, Int.reduceLT, Int.reduceLE, Int.reduceGT, Int.reduceGE, UInt8.reduceToNat, Int.reduceNeg, Int.reduceAdd, Int.reduceSub, Wt]
  cases skip with
  | true =>
    have hp : putS most ⟨b, cr, true, out⟩ c = ⟨b, cr, true, out⟩ := if_pos rfl
    rw [hp]
    try simp only [Rd.fr, ↓Wd0, Wr0, Wr1, opnds, ofVal, ofValC, PV.cells, PV.one, PV.fit, partE, setL, pickE, intE, strE, eqC, eqCs, kindOK, aggEqE, binE, unaE, convE, fieldE, faddrE, iaddrE, indexE, loE, sliceE, nilE, fillP, buildE, elemsE, bslE, lenE, appE, stripC, strip1, strip1L, strip, tupV, resV, convT, convN, sliceB, sliceA, sliceO, convB, clearE, appB, lookE, insE, keyOK, rangeE, reduceCtorEq, ↓reduceIte, Nat.reduceAdd, Nat.reduceMul, Nat.reduceSub, Nat.reduceEqDiff, Nat.reduceLeDiff, Nat.reduceBEq, Int.reduceToNat, Nat.reduceLT, Int.reduceBEq, Int.reduceBNe, Int.reduceLT, Int.reduceLE, Int.reduceGT, Int.reduceGE, UInt8.reduceToNat, Int.reduceNeg, Int.reduceAdd, Int.reduceSub, Wt]
  | false =>
    by_cases hm : (b.length : Int) < most
    · have hp : putS most ⟨b, cr, false, out⟩ c = ⟨b ++ [c], cr, false, out⟩ := by unfold putS; rw [if_neg (by simp), if_pos hm]
      have d1 : decide ((b.length : Int) < most) = true := decide_eq_true hm
      rw [hp]
      try simp only [Rd.fr, List.length_map, d1, ↓Wd0, Wr0, Wr1, opnds, ofVal, ofValC, PV.cells, PV.one, PV.fit, partE, setL, pickE, intE, strE, eqC, eqCs, kindOK, aggEqE, binE, unaE, convE, fieldE, faddrE, iaddrE, indexE, loE, sliceE, nilE, fillP, buildE, elemsE, bslE, lenE, appE, stripC, strip1, strip1L, strip, tupV, resV, convT, convN, sliceB, sliceA, sliceO, convB, clearE, appB, lookE, insE, keyOK, rangeE, reduceCtorEq, ↓reduceIte, Nat.reduceAdd, Nat.reduceMul, Nat.reduceSub, Nat.reduceEqDiff, Nat.reduceLeDiff, Nat.reduceBEq, Int.reduceToNat, Nat.reduceLT, Int.reduceBEq, Int.reduceBNe, Int.reduceLT, Int.reduceLE, Int.reduceGT, Int.reduceGE, UInt8.reduceToNat, Int.reduceNeg, Int.reduceAdd, Int.reduceSub, Wt]
      exact ⟨by omega, ⟨by omega, by omega, by omega⟩, by simp [byteE]⟩
    · have hp : putS most ⟨b, cr, false, out⟩ c = ⟨[], cr, true, out⟩ := by unfold putS; rw [if_neg (by simp), if_neg hm]
      have d1 : decide ((b.length : Int) < most) = false := decide_eq_false hm
      rw [hp]
      try simp only [Rd.fr, List.length_map, d1, ↓Wd0, Wr0, Wr1, opnds, ofVal, ofValC, PV.cells, PV.one, PV.fit, partE, setL, pickE, intE, strE, eqC, eqCs, kindOK, aggEqE, binE, unaE, convE, fieldE, faddrE, iaddrE, indexE, loE, sliceE, nilE, fillP, buildE, elemsE, bslE, lenE, appE, stripC, strip1, strip1L, strip, tupV, resV, convT, convN, sliceB, sliceA, sliceO, convB, clearE, appB, lookE, insE, keyOK, rangeE, reduceCtorEq, ↓reduceIte, Nat.reduceAdd, Nat.reduceMul, Nat.reduceSub, Nat.reduceEqDiff, Nat.reduceLeDiff, Nat.reduceBEq, Int.reduceToNat, Nat.reduceLT, Int.reduceBEq, Int.reduceBNe, Int.reduceLT, Int.reduceLE, Int.reduceGT, Int.reduceGE, UInt8.reduceToNat, Int.reduceNeg, Int.reduceAdd, Int.reduceSub, Wt]
theorem step_fr {most : Int} {alone : Bool} {s : Rd} {c : UInt8} (he : endC s alone c = false) : takeS most alone s c = if (c == 13) = true then ⟨(crS most s).b, true, (crS most s).skip, (crS most s).out⟩ else putS most ⟨(crS most s).b, false, (crS most s).skip, (crS most s).out⟩ c := if_neg (by rw [he]; simp)
theorem reffeed_to (f : GFramer) (bs : List UInt8) (most : Int) (alone : Bool) (hf : f.b.length ≤ 100000) (hb : bs.length ≤ 100000) : CallsTo Try.prog 11 [.agg f.cs, .sl 1 (bs.map byteE), .int .i64 most, .bool alone] (feedS most alone (rd0 f) bs).pv [] := by
  refine callsTo_of mixed Try.func11 rfl Try.ntmps11 Try.results11 (by kernel_rfl) (by kernel_rfl) (by simp) [] ?_
  simp only [↓Wd0, Wr0, Wr1, opnds, ofVal, ofValC, PV.cells, PV.one, PV.fit, partE, setL, pickE, intE, strE, eqC, eqCs, kindOK, aggEqE, binE, unaE, convE, fieldE, faddrE, iaddrE, indexE, loE, sliceE, nilE, fillP, buildE, elemsE, bslE, lenE, appE, stripC, strip1, strip1L, strip, tupV, resV, convT, convN, sliceB, sliceA, sliceO, convB, clearE, appB, lookE, insE, keyOK, rangeE, reduceCtorEq, ↓reduceIte, Nat.reduceAdd, Nat.reduceMul, Nat.reduceSub, Nat.reduceEqDiff, Nat.reduceLeDiff, Nat.reduceBEq, Int.reduceToNat, Nat.reduceLT, Int.reduceBEq, Int.reduceBNe, Int.reduceLT, Int.reduceLE, Int.reduceGT, Int.reduceGE, UInt8.reduceToNat, Int.reduceNeg, Int.reduceAdd, Int.reduceSub, Wt]
  try simp only [GFramer.cs, List.length_map, ↓Wd0, Wr0, Wr1, opnds, ofVal, ofValC, PV.cells, PV.one, PV.fit, partE, setL, pickE, intE, strE, eqC, eqCs, kindOK, aggEqE, binE, unaE, convE, fieldE, faddrE, iaddrE, indexE, loE, sliceE, nilE, fillP, buildE, elemsE, bslE, lenE, appE, stripC, strip1, strip1L, strip, tupV, resV, convT, convN, sliceB, sliceA, sliceO, convB, clearE, appB, lookE, insE, keyOK, rangeE, reduceCtorEq, ↓reduceIte, Nat.reduceAdd, Nat.reduceMul, Nat.reduceSub, Nat.reduceEqDiff, Nat.reduceLeDiff, Nat.reduceBEq, Int.reduceToNat, Nat.reduceLT, Int.reduceBEq, Int.reduceBNe, Int.reduceLT, Int.reduceLE, Int.reduceGT, Int.reduceGE, UInt8.reduceToNat, Int.reduceNeg, Int.reduceAdd, Int.reduceSub, Wt]
  refine ⟨by omega, ?_⟩
  refine ghostD 10 37 2 (by kernel_rfl) rfl ?_
  refine loopD (M := []) mixed (by kernel_rfl) [10, 11, 12, 17, 18, 19, 20, 21, 22, 23, 24, 25, 26, 27, 28, 29, 30, 31, 32, 33, 34, 35, 36, 37, 38, 39, 40, 41, 42, 43, 44, 45, 46, 47, 48, 49, 50, 51, 52, 53, 54] (by kernel_rfl) (fun n f' H N => ∃ k t nm : Nat, k ≤ bs.length ∧ f' 11 = .int .i64 k ∧ n = bs.length - k ∧ 16 < N ∧ (∃ cs, cs.length = 3 ∧ H 16 = some (.box cs)) ∧ H 8 = some (.box [.sl t ((feedS most alone (rd0 f) (bs.take k)).b.map byteE), .bool (feedS most alone (rd0 f) (bs.take k)).cr, .bool (feedS most alone (rd0 f) (bs.take k)).skip]) ∧ f' 10 = .sl nm ((feedS most alone (rd0 f) (bs.take k)).out.map GLine.cs) ∧ 16 < nm ∧ nm < N ∧ H nm = some (.tok 37 2 (feedS most alone (rd0 f) (bs.take k)).out.length)) ⟨_, 0, _, _, by omega, rfl, rfl, by omega, ⟨_, rfl, rfl⟩, rfl, rfl, by omega, by omega, rfl⟩ ?_
  rintro n f' H N ⟨k, t, nm, hk, hf', rfl, hN, ⟨cs, hcs, h16⟩, h8, hf10, hnm, hnmN, htok⟩
  have hle := feed_len most alone (bs.take k) (rd0 f)
  have hkl : (bs.take k).length ≤ k := by simp; omega
  have hr1 : (rd0 f).b.length ≤ 100000 := hf
  have hr2 : (rd0 f).out.length = 0 := rfl
  obtain ⟨x0, x1, x2, rfl⟩ : ∃ x0 x1 x2, cs = [x0, x1, x2] := by
    match cs, hcs with
    | [a, b, c], _ => exact ⟨a, b, c, rfl⟩
  clear hcs
  try simp (disch := omega) only [hf', h8, hf10, List.length_map, ne_far, ne_far', ne_at, ne_at', far_far, far_at, at_far, lt_far, ↓Wd0, Wr0, Wr1, opnds, ofVal, ofValC, PV.cells, PV.one, PV.fit, partE, setL, pickE, intE, strE, eqC, eqCs, kindOK, aggEqE, binE, unaE, convE, fieldE, faddrE, iaddrE, indexE, loE, sliceE, nilE, fillP, buildE, elemsE, bslE, lenE, appE, stripC, strip1, strip1L, strip, tupV, resV, convT, convN, sliceB, sliceA, sliceO, convB, clearE, appB, lookE, insE, keyOK, rangeE, reduceCtorEq, ↓reduceIte, Nat.reduceAdd, Nat.reduceMul, Nat.reduceSub, Nat.reduceEqDiff, Nat.reduceLeDiff, Nat.reduceBEq, Int.reduceToNat, Nat.reduceLT, Int.reduceBEq, Int.reduceBNe, Int.reduceLT, Int.reduceLE, Int.reduceGT, Int.reduceGE, UInt8.reduceToNat, Int.reduceNeg, Int.reduceAdd, Int.reduceSub, Wt]
  refine ifD (fun hb' => ?_) (fun hb' => ?_)
  · have hk' : (k : Int) < bs.length := of_decide_eq_true hb'
    have ew := wrap_succ (k := k) (by omega)
    have e := getD_map' (l := bs) (k := k) byteE 0 [] hk'
    have hsu := feed_succ (most := most) (alone := alone) (s := rd0 f) hk'
    generalize feedS most alone (rd0 f) (bs.take k) = s at *
    generalize bs.getD k 0 = c at *
    try simp (disch := omega) only [hf', h8, hf10, e, byteE, List.length_map, c10, ne_far, ne_far', ne_at, ne_at', far_far, far_at, at_far, lt_far, ↓Wd0, Wr0, Wr1, opnds, ofVal, ofValC, PV.cells, PV.one, PV.fit, partE, setL, pickE, intE, strE, eqC, eqCs, kindOK, aggEqE, binE, unaE, convE, fieldE, faddrE, iaddrE, indexE, loE, sliceE, nilE, fillP, buildE, elemsE, bslE, lenE, appE, stripC, strip1, strip1L, strip, tupV, resV, convT, convN, sliceB, sliceA, sliceO, convB, clearE, appB, lookE, insE, keyOK, rangeE, reduceCtorEq, ↓reduceIte, Nat.reduceAdd, Nat.reduceMul, Nat.reduceSub, Nat.reduceEqDiff, Nat.reduceLeDiff, Nat.reduceBEq, Int.reduceToNat, Nat.reduceLT, Int.reduceBEq, Int.reduceBNe, Int.reduceLT, Int.reduceLE, Int.reduceGT, Int.reduceGE, UInt8.reduceToNat, Int.reduceNeg, Int.reduceAdd, Int.reduceSub, Wt]
    refine ⟨by omega, ?_⟩
    have hcl := cr_len most s
    cases he : endC s alone c with
    | true =>
      have hc : (c == 10) = true := by unfold endC at he; rw [Bool.and_eq_true] at he; exact he.1
      have ho : (s.cr || alone) = true := by unfold endC at he; rw [Bool.and_eq_true] at he; exact he.2
      have hs' : feedS most alone (rd0 f) (bs.take (k + 1)) = ⟨[], false, false, s.out ++ [endLn s]⟩ := hsu.trans (if_pos he)
      have h2l : ∀ x, x ∈ List.map GLine.cs s.out → x.length = 2 := fun x hx => by
        obtain ⟨a, _, rfl⟩ := List.mem_map.1 hx
        rfl
      cases hcr : s.cr with
      | true =>
        try simp (disch := omega) only [hf', h8, hf10, e, byteE, List.length_map, c10, hc, hcr, ne_far, ne_far', ne_at, ne_at', far_far, far_at, at_far, lt_far, ↓Wd0, Wr0, Wr1, opnds, ofVal, ofValC, PV.cells, PV.one, PV.fit, partE, setL, pickE, intE, strE, eqC, eqCs, kindOK, aggEqE, binE, unaE, convE, fieldE, faddrE, iaddrE, indexE, loE, sliceE, nilE, fillP, buildE, elemsE, bslE, lenE, appE, stripC, strip1, strip1L, strip, tupV, resV, convT, convN, sliceB, sliceA, sliceO, convB, clearE, appB, lookE, insE, keyOK, rangeE, reduceCtorEq, ↓reduceIte, Nat.reduceAdd, Nat.reduceMul, Nat.reduceSub, Nat.reduceEqDiff, Nat.reduceLeDiff, Nat.reduceBEq, Int.reduceToNat, Nat.reduceLT, Int.reduceBEq, Int.reduceBNe, Int.reduceLT, Int.reduceLE, Int.reduceGT, Int.reduceGE, UInt8.reduceToNat, Int.reduceNeg, Int.reduceAdd, Int.reduceSub, Wt]
        have hr : CallsTo Try.prog 19 [.agg [.sl 1 (s.b.map byteE), .bool true, .bool s.skip]] (.agg (endLn s).cs) [] := refend_to ⟨s.b, true, s.skip, s.out⟩ 1 (by omega)
        refine calD hr ?_
        try simp (disch := omega) only [hf', h8, hf10, htok, GLine.cs, List.length_map, ne_far, ne_far', ne_at, ne_at', far_far, far_at, at_far, lt_far, ↓Wd0, Wr0, Wr1, opnds, ofVal, ofValC, PV.cells, PV.one, PV.fit, partE, setL, pickE, intE, strE, eqC, eqCs, kindOK, aggEqE, binE, unaE, convE, fieldE, faddrE, iaddrE, indexE, loE, sliceE, nilE, fillP, buildE, elemsE, bslE, lenE, appE, stripC, strip1, strip1L, strip, tupV, resV, convT, convN, sliceB, sliceA, sliceO, convB, clearE, appB, lookE, insE, keyOK, rangeE, reduceCtorEq, ↓reduceIte, Nat.reduceAdd, Nat.reduceMul, Nat.reduceSub, Nat.reduceEqDiff, Nat.reduceLeDiff, Nat.reduceBEq, Int.reduceToNat, Nat.reduceLT, Int.reduceBEq, Int.reduceBNe, Int.reduceLT, Int.reduceLE, Int.reduceGT, Int.reduceGE, UInt8.reduceToNat, Int.reduceNeg, Int.reduceAdd, Int.reduceSub, Wt]
        exact ⟨⟨h2l, by omega, by omega⟩, _, by omega, k + 1, 0, _, by omega, ew, rfl, ⟨_, rfl, h16⟩, by rw [hs']; rfl, ⟨rfl, by rw [hs']; simp [GLine.cs]⟩, by omega, by omega, by rw [if_neg (by omega), if_pos rfl, hs']; simp⟩
      | false =>
        rw [hcr, Bool.false_or] at ho
        try simp (disch := omega) only [hf', h8, hf10, e, byteE, List.length_map, c10, hc, hcr, ho, ne_far, ne_far', ne_at, ne_at', far_far, far_at, at_far, lt_far, ↓Wd0, Wr0, Wr1, opnds, ofVal, ofValC, PV.cells, PV.one, PV.fit, partE, setL, pickE, intE, strE, eqC, eqCs, kindOK, aggEqE, binE, unaE, convE, fieldE, faddrE, iaddrE, indexE, loE, sliceE, nilE, fillP, buildE, elemsE, bslE, lenE, appE, stripC, strip1, strip1L, strip, tupV, resV, convT, convN, sliceB, sliceA, sliceO, convB, clearE, appB, lookE, insE, keyOK, rangeE, reduceCtorEq, ↓reduceIte, Nat.reduceAdd, Nat.reduceMul, Nat.reduceSub, Nat.reduceEqDiff, Nat.reduceLeDiff, Nat.reduceBEq, Int.reduceToNat, Nat.reduceLT, Int.reduceBEq, Int.reduceBNe, Int.reduceLT, Int.reduceLE, Int.reduceGT, Int.reduceGE, UInt8.reduceToNat, Int.reduceNeg, Int.reduceAdd, Int.reduceSub, Wt]
        have hr : CallsTo Try.prog 19 [.agg [.sl 1 (s.b.map byteE), .bool false, .bool s.skip]] (.agg (endLn s).cs) [] := refend_to ⟨s.b, false, s.skip, s.out⟩ 1 (by omega)
        refine calD hr ?_
        try simp (disch := omega) only [hf', h8, hf10, htok, GLine.cs, List.length_map, ne_far, ne_far', ne_at, ne_at', far_far, far_at, at_far, lt_far, ↓Wd0, Wr0, Wr1, opnds, ofVal, ofValC, PV.cells, PV.one, PV.fit, partE, setL, pickE, intE, strE, eqC, eqCs, kindOK, aggEqE, binE, unaE, convE, fieldE, faddrE, iaddrE, indexE, loE, sliceE, nilE, fillP, buildE, elemsE, bslE, lenE, appE, stripC, strip1, strip1L, strip, tupV, resV, convT, convN, sliceB, sliceA, sliceO, convB, clearE, appB, lookE, insE, keyOK, rangeE, reduceCtorEq, ↓reduceIte, Nat.reduceAdd, Nat.reduceMul, Nat.reduceSub, Nat.reduceEqDiff, Nat.reduceLeDiff, Nat.reduceBEq, Int.reduceToNat, Nat.reduceLT, Int.reduceBEq, Int.reduceBNe, Int.reduceLT, Int.reduceLE, Int.reduceGT, Int.reduceGE, UInt8.reduceToNat, Int.reduceNeg, Int.reduceAdd, Int.reduceSub, Wt]
        exact ⟨⟨h2l, by omega, by omega⟩, _, by omega, k + 1, 0, _, by omega, ew, rfl, ⟨_, rfl, h16⟩, by rw [hs']; rfl, ⟨rfl, by rw [hs']; simp [GLine.cs]⟩, by omega, by omega, by rw [if_neg (by omega), if_pos rfl, hs']; simp⟩
    | false =>
      have hs' := hsu.trans (step_fr he)
      cases hcr : s.cr with
      | false =>
        have hc0 : crS most s = s := if_neg (by rw [hcr]; simp)
        cases h10 : (c == 10) with
        | true =>
          obtain ⟨_, rfl⟩ := noend he h10
          try simp (disch := omega) only [hf', h8, hf10, e, byteE, List.length_map, c10, h10, hcr, ne_far, ne_far', ne_at, ne_at', far_far, far_at, at_far, lt_far, ↓Wd0, Wr0, Wr1, opnds, ofVal, ofValC, PV.cells, PV.one, PV.fit, partE, setL, pickE, intE, strE, eqC, eqCs, kindOK, aggEqE, binE, unaE, convE, fieldE, faddrE, iaddrE, indexE, loE, sliceE, nilE, fillP, buildE, elemsE, bslE, lenE, appE, stripC, strip1, strip1L, strip, tupV, resV, convT, convN, sliceB, sliceA, sliceO, convB, clearE, appB, lookE, insE, keyOK, rangeE, reduceCtorEq, ↓reduceIte, Nat.reduceAdd, Nat.reduceMul, Nat.reduceSub, Nat.reduceEqDiff, Nat.reduceLeDiff, Nat.reduceBEq, Int.reduceToNat, Nat.reduceLT, Int.reduceBEq, Int.reduceBNe, Int.reduceLT, Int.reduceLE, Int.reduceGT, Int.reduceGE, UInt8.reduceToNat, Int.reduceNeg, Int.reduceAdd, Int.reduceSub, Wt]
          rw [hc0] at hs' hcl
          cases h13 : (c == 13) with
          | true =>
            rw [h13, if_pos rfl] at hs'
            try simp (disch := omega) only [hf', h8, hf10, htok, c13, h13, hcr, Rd.fr, ne_far, ne_far', ne_at, ne_at', far_far, far_at, at_far, lt_far, ↓Wd0, Wr0, Wr1, opnds, ofVal, ofValC, PV.cells, PV.one, PV.fit, partE, setL, pickE, intE, strE, eqC, eqCs, kindOK, aggEqE, binE, unaE, convE, fieldE, faddrE, iaddrE, indexE, loE, sliceE, nilE, fillP, buildE, elemsE, bslE, lenE, appE, stripC, strip1, strip1L, strip, tupV, resV, convT, convN, sliceB, sliceA, sliceO, convB, clearE, appB, lookE, insE, keyOK, rangeE, reduceCtorEq, ↓reduceIte, Nat.reduceAdd, Nat.reduceMul, Nat.reduceSub, Nat.reduceEqDiff, Nat.reduceLeDiff, Nat.reduceBEq, Int.reduceToNat, Nat.reduceLT, Int.reduceBEq, Int.reduceBNe, Int.reduceLT, Int.reduceLE, Int.reduceGT, Int.reduceGE, UInt8.reduceToNat, Int.reduceNeg, Int.reduceAdd, Int.reduceSub, Wt]
            exact ⟨_, by omega, k + 1, _, _, by omega, ew, rfl, ⟨_, rfl, h16⟩, by rw [hs'], ⟨rfl, by rw [hs'] <;> exact congrArg (List.map GLine.cs) hcl.2.symm⟩, by omega, by omega, by (repeat rw [if_neg (by omega : ¬ nm = 8)]); rw [hs']; exact htok.trans (congrArg (fun o => some (HObj.tok 37 2 (List.length o))) hcl.2.symm)⟩
          | false =>
            rw [h13, if_neg (by simp)] at hs'
            try simp (disch := omega) only [hf', h8, hf10, htok, c13, h13, hcr, Rd.fr, ne_far, ne_far', ne_at, ne_at', far_far, far_at, at_far, lt_far, ↓Wd0, Wr0, Wr1, opnds, ofVal, ofValC, PV.cells, PV.one, PV.fit, partE, setL, pickE, intE, strE, eqC, eqCs, kindOK, aggEqE, binE, unaE, convE, fieldE, faddrE, iaddrE, indexE, loE, sliceE, nilE, fillP, buildE, elemsE, bslE, lenE, appE, stripC, strip1, strip1L, strip, tupV, resV, convT, convN, sliceB, sliceA, sliceO, convB, clearE, appB, lookE, insE, keyOK, rangeE, reduceCtorEq, ↓reduceIte, Nat.reduceAdd, Nat.reduceMul, Nat.reduceSub, Nat.reduceEqDiff, Nat.reduceLeDiff, Nat.reduceBEq, Int.reduceToNat, Nat.reduceLT, Int.reduceBEq, Int.reduceBNe, Int.reduceLT, Int.reduceLE, Int.reduceGT, Int.reduceGE, UInt8.reduceToNat, Int.reduceNeg, Int.reduceAdd, Int.reduceSub, Wt]
            refine calD (refput_to ⟨s.b, false, s.skip, s.out⟩ c most (by simp only; omega)) ?_
            have hpo := (put_len most ⟨s.b, false, s.skip, s.out⟩ c).2
            try simp (disch := omega) only [hf', h8, hf10, htok, c13, h13, Rd.fr, ne_far, ne_far', ne_at, ne_at', far_far, far_at, at_far, lt_far, ↓Wd0, Wr0, Wr1, opnds, ofVal, ofValC, PV.cells, PV.one, PV.fit, partE, setL, pickE, intE, strE, eqC, eqCs, kindOK, aggEqE, binE, unaE, convE, fieldE, faddrE, iaddrE, indexE, loE, sliceE, nilE, fillP, buildE, elemsE, bslE, lenE, appE, stripC, strip1, strip1L, strip, tupV, resV, convT, convN, sliceB, sliceA, sliceO, convB, clearE, appB, lookE, insE, keyOK, rangeE, reduceCtorEq, ↓reduceIte, Nat.reduceAdd, Nat.reduceMul, Nat.reduceSub, Nat.reduceEqDiff, Nat.reduceLeDiff, Nat.reduceBEq, Int.reduceToNat, Nat.reduceLT, Int.reduceBEq, Int.reduceBNe, Int.reduceLT, Int.reduceLE, Int.reduceGT, Int.reduceGE, UInt8.reduceToNat, Int.reduceNeg, Int.reduceAdd, Int.reduceSub, Wt]
            exact ⟨_, by omega, k + 1, _, _, by omega, ew, rfl, ⟨_, rfl, h16⟩, by rw [hs'], ⟨rfl, by rw [hs'] <;> exact congrArg (List.map GLine.cs) (hpo.trans hcl.2).symm⟩, by omega, by omega, by (repeat rw [if_neg (by omega : ¬ nm = 8)]); rw [hs']; exact htok.trans (congrArg (fun o => some (HObj.tok 37 2 (List.length o))) (hpo.trans hcl.2).symm)⟩
        | false =>
          try simp (disch := omega) only [hf', h8, hf10, e, byteE, List.length_map, c10, h10, hcr, ne_far, ne_far', ne_at, ne_at', far_far, far_at, at_far, lt_far, ↓Wd0, Wr0, Wr1, opnds, ofVal, ofValC, PV.cells, PV.one, PV.fit, partE, setL, pickE, intE, strE, eqC, eqCs, kindOK, aggEqE, binE, unaE, convE, fieldE, faddrE, iaddrE, indexE, loE, sliceE, nilE, fillP, buildE, elemsE, bslE, lenE, appE, stripC, strip1, strip1L, strip, tupV, resV, convT, convN, sliceB, sliceA, sliceO, convB, clearE, appB, lookE, insE, keyOK, rangeE, reduceCtorEq, ↓reduceIte, Nat.reduceAdd, Nat.reduceMul, Nat.reduceSub, Nat.reduceEqDiff, Nat.reduceLeDiff, Nat.reduceBEq, Int.reduceToNat, Nat.reduceLT, Int.reduceBEq, Int.reduceBNe, Int.reduceLT, Int.reduceLE, Int.reduceGT, Int.reduceGE, UInt8.reduceToNat, Int.reduceNeg, Int.reduceAdd, Int.reduceSub, Wt]
          rw [hc0] at hs' hcl
          cases h13 : (c == 13) with
          | true =>
            rw [h13, if_pos rfl] at hs'
            try simp (disch := omega) only [hf', h8, hf10, htok, c13, h13, hcr, Rd.fr, ne_far, ne_far', ne_at, ne_at', far_far, far_at, at_far, lt_far, ↓Wd0, Wr0, Wr1, opnds, ofVal, ofValC, PV.cells, PV.one, PV.fit, partE, setL, pickE, intE, strE, eqC, eqCs, kindOK, aggEqE, binE, unaE, convE, fieldE, faddrE, iaddrE, indexE, loE, sliceE, nilE, fillP, buildE, elemsE, bslE, lenE, appE, stripC, strip1, strip1L, strip, tupV, resV, convT, convN, sliceB, sliceA, sliceO, convB, clearE, appB, lookE, insE, keyOK, rangeE, reduceCtorEq, ↓reduceIte, Nat.reduceAdd, Nat.reduceMul, Nat.reduceSub, Nat.reduceEqDiff, Nat.reduceLeDiff, Nat.reduceBEq, Int.reduceToNat, Nat.reduceLT, Int.reduceBEq, Int.reduceBNe, Int.reduceLT, Int.reduceLE, Int.reduceGT, Int.reduceGE, UInt8.reduceToNat, Int.reduceNeg, Int.reduceAdd, Int.reduceSub, Wt]
            exact ⟨_, by omega, k + 1, _, _, by omega, ew, rfl, ⟨_, rfl, h16⟩, by rw [hs'], ⟨rfl, by rw [hs'] <;> exact congrArg (List.map GLine.cs) hcl.2.symm⟩, by omega, by omega, by (repeat rw [if_neg (by omega : ¬ nm = 8)]); rw [hs']; exact htok.trans (congrArg (fun o => some (HObj.tok 37 2 (List.length o))) hcl.2.symm)⟩
          | false =>
            rw [h13, if_neg (by simp)] at hs'
            try simp (disch := omega) only [hf', h8, hf10, htok, c13, h13, hcr, Rd.fr, ne_far, ne_far', ne_at, ne_at', far_far, far_at, at_far, lt_far, ↓Wd0, Wr0, Wr1, opnds, ofVal, ofValC, PV.cells, PV.one, PV.fit, partE, setL, pickE, intE, strE, eqC, eqCs, kindOK, aggEqE, binE, unaE, convE, fieldE, faddrE, iaddrE, indexE, loE, sliceE, nilE, fillP, buildE, elemsE, bslE, lenE, appE, stripC, strip1, strip1L, strip, tupV, resV, convT, convN, sliceB, sliceA, sliceO, convB, clearE, appB, lookE, insE, keyOK, rangeE, reduceCtorEq, ↓reduceIte, Nat.reduceAdd, Nat.reduceMul, Nat.reduceSub, Nat.reduceEqDiff, Nat.reduceLeDiff, Nat.reduceBEq, Int.reduceToNat, Nat.reduceLT, Int.reduceBEq, Int.reduceBNe, Int.reduceLT, Int.reduceLE, Int.reduceGT, Int.reduceGE, UInt8.reduceToNat, Int.reduceNeg, Int.reduceAdd, Int.reduceSub, Wt]
            refine calD (refput_to ⟨s.b, false, s.skip, s.out⟩ c most (by simp only; omega)) ?_
            have hpo := (put_len most ⟨s.b, false, s.skip, s.out⟩ c).2
            try simp (disch := omega) only [hf', h8, hf10, htok, c13, h13, Rd.fr, ne_far, ne_far', ne_at, ne_at', far_far, far_at, at_far, lt_far, ↓Wd0, Wr0, Wr1, opnds, ofVal, ofValC, PV.cells, PV.one, PV.fit, partE, setL, pickE, intE, strE, eqC, eqCs, kindOK, aggEqE, binE, unaE, convE, fieldE, faddrE, iaddrE, indexE, loE, sliceE, nilE, fillP, buildE, elemsE, bslE, lenE, appE, stripC, strip1, strip1L, strip, tupV, resV, convT, convN, sliceB, sliceA, sliceO, convB, clearE, appB, lookE, insE, keyOK, rangeE, reduceCtorEq, ↓reduceIte, Nat.reduceAdd, Nat.reduceMul, Nat.reduceSub, Nat.reduceEqDiff, Nat.reduceLeDiff, Nat.reduceBEq, Int.reduceToNat, Nat.reduceLT, Int.reduceBEq, Int.reduceBNe, Int.reduceLT, Int.reduceLE, Int.reduceGT, Int.reduceGE, UInt8.reduceToNat, Int.reduceNeg, Int.reduceAdd, Int.reduceSub, Wt]
            exact ⟨_, by omega, k + 1, _, _, by omega, ew, rfl, ⟨_, rfl, h16⟩, by rw [hs'], ⟨rfl, by rw [hs'] <;> exact congrArg (List.map GLine.cs) (hpo.trans hcl.2).symm⟩, by omega, by omega, by (repeat rw [if_neg (by omega : ¬ nm = 8)]); rw [hs']; exact htok.trans (congrArg (fun o => some (HObj.tok 37 2 (List.length o))) (hpo.trans hcl.2).symm)⟩
      | true =>
        have hc1 : crS most s = putS most s 13 := if_pos hcr
        have h10 : (c == 10) = false := by
          cases h : (c == 10) with
          | false => rfl
          | true => have := (noend he h).1; rw [hcr] at this; cases this
        try simp (disch := omega) only [hf', h8, hf10, e, byteE, List.length_map, c10, h10, hcr, ne_far, ne_far', ne_at, ne_at', far_far, far_at, at_far, lt_far, ↓Wd0, Wr0, Wr1, opnds, ofVal, ofValC, PV.cells, PV.one, PV.fit, partE, setL, pickE, intE, strE, eqC, eqCs, kindOK, aggEqE, binE, unaE, convE, fieldE, faddrE, iaddrE, indexE, loE, sliceE, nilE, fillP, buildE, elemsE, bslE, lenE, appE, stripC, strip1, strip1L, strip, tupV, resV, convT, convN, sliceB, sliceA, sliceO, convB, clearE, appB, lookE, insE, keyOK, rangeE, reduceCtorEq, ↓reduceIte, Nat.reduceAdd, Nat.reduceMul, Nat.reduceSub, Nat.reduceEqDiff, Nat.reduceLeDiff, Nat.reduceBEq, Int.reduceToNat, Nat.reduceLT, Int.reduceBEq, Int.reduceBNe, Int.reduceLT, Int.reduceLE, Int.reduceGT, Int.reduceGE, UInt8.reduceToNat, Int.reduceNeg, Int.reduceAdd, Int.reduceSub, Wt]
        have hr : CallsTo Try.prog 20 [.agg [.sl 1 (s.b.map byteE), .bool true, .bool s.skip], .int .u8 13, .int .i64 most] (crS most s).fr [] := by
          have h := refput_to s 13 most (by omega)
          rw [Rd.fr, hcr, ← hc1] at h
          exact h
        refine calD hr ?_
        cases h13 : (c == 13) with
        | true =>
          rw [h13, if_pos rfl] at hs'
          try simp (disch := omega) only [hf', h8, hf10, htok, c13, h13, hcr, Rd.fr, ne_far, ne_far', ne_at, ne_at', far_far, far_at, at_far, lt_far, ↓Wd0, Wr0, Wr1, opnds, ofVal, ofValC, PV.cells, PV.one, PV.fit, partE, setL, pickE, intE, strE, eqC, eqCs, kindOK, aggEqE, binE, unaE, convE, fieldE, faddrE, iaddrE, indexE, loE, sliceE, nilE, fillP, buildE, elemsE, bslE, lenE, appE, stripC, strip1, strip1L, strip, tupV, resV, convT, convN, sliceB, sliceA, sliceO, convB, clearE, appB, lookE, insE, keyOK, rangeE, reduceCtorEq, ↓reduceIte, Nat.reduceAdd, Nat.reduceMul, Nat.reduceSub, Nat.reduceEqDiff, Nat.reduceLeDiff, Nat.reduceBEq, Int.reduceToNat, Nat.reduceLT, Int.reduceBEq, Int.reduceBNe, Int.reduceLT, Int.reduceLE, Int.reduceGT, Int.reduceGE, UInt8.reduceToNat, Int.reduceNeg, Int.reduceAdd, Int.reduceSub, Wt]
          exact ⟨_, by omega, k + 1, _, _, by omega, ew, rfl, ⟨_, rfl, h16⟩, by rw [hs'], ⟨rfl, by rw [hs'] <;> exact congrArg (List.map GLine.cs) hcl.2.symm⟩, by omega, by omega, by (repeat rw [if_neg (by omega : ¬ nm = 8)]); rw [hs']; exact htok.trans (congrArg (fun o => some (HObj.tok 37 2 (List.length o))) hcl.2.symm)⟩
        | false =>
          rw [h13, if_neg (by simp)] at hs'
          try simp (disch := omega) only [hf', h8, hf10, htok, c13, h13, hcr, Rd.fr, ne_far, ne_far', ne_at, ne_at', far_far, far_at, at_far, lt_far, ↓Wd0, Wr0, Wr1, opnds, ofVal, ofValC, PV.cells, PV.one, PV.fit, partE, setL, pickE, intE, strE, eqC, eqCs, kindOK, aggEqE, binE, unaE, convE, fieldE, faddrE, iaddrE, indexE, loE, sliceE, nilE, fillP, buildE, elemsE, bslE, lenE, appE, stripC, strip1, strip1L, strip, tupV, resV, convT, convN, sliceB, sliceA, sliceO, convB, clearE, appB, lookE, insE, keyOK, rangeE, reduceCtorEq, ↓reduceIte, Nat.reduceAdd, Nat.reduceMul, Nat.reduceSub, Nat.reduceEqDiff, Nat.reduceLeDiff, Nat.reduceBEq, Int.reduceToNat, Nat.reduceLT, Int.reduceBEq, Int.reduceBNe, Int.reduceLT, Int.reduceLE, Int.reduceGT, Int.reduceGE, UInt8.reduceToNat, Int.reduceNeg, Int.reduceAdd, Int.reduceSub, Wt]
          refine calD (refput_to ⟨(crS most s).b, false, (crS most s).skip, (crS most s).out⟩ c most (by simp only; omega)) ?_
          have hpo := (put_len most ⟨(crS most s).b, false, (crS most s).skip, (crS most s).out⟩ c).2
          try simp (disch := omega) only [hf', h8, hf10, htok, c13, h13, Rd.fr, ne_far, ne_far', ne_at, ne_at', far_far, far_at, at_far, lt_far, ↓Wd0, Wr0, Wr1, opnds, ofVal, ofValC, PV.cells, PV.one, PV.fit, partE, setL, pickE, intE, strE, eqC, eqCs, kindOK, aggEqE, binE, unaE, convE, fieldE, faddrE, iaddrE, indexE, loE, sliceE, nilE, fillP, buildE, elemsE, bslE, lenE, appE, stripC, strip1, strip1L, strip, tupV, resV, convT, convN, sliceB, sliceA, sliceO, convB, clearE, appB, lookE, insE, keyOK, rangeE, reduceCtorEq, ↓reduceIte, Nat.reduceAdd, Nat.reduceMul, Nat.reduceSub, Nat.reduceEqDiff, Nat.reduceLeDiff, Nat.reduceBEq, Int.reduceToNat, Nat.reduceLT, Int.reduceBEq, Int.reduceBNe, Int.reduceLT, Int.reduceLE, Int.reduceGT, Int.reduceGE, UInt8.reduceToNat, Int.reduceNeg, Int.reduceAdd, Int.reduceSub, Wt]
          exact ⟨_, by omega, k + 1, _, _, by omega, ew, rfl, ⟨_, rfl, h16⟩, by rw [hs'], ⟨rfl, by rw [hs'] <;> exact congrArg (List.map GLine.cs) (hpo.trans hcl.2).symm⟩, by omega, by omega, by (repeat rw [if_neg (by omega : ¬ nm = 8)]); rw [hs']; exact htok.trans (congrArg (fun o => some (HObj.tok 37 2 (List.length o))) (hpo.trans hcl.2).symm)⟩
  · have hkn : k = bs.length := by have := of_decide_eq_false hb'; omega
    subst hkn
    rw [List.take_length] at h8 hf10
    try simp (disch := omega) only [hf', h8, hf10, h16, ne_far, ne_far', ne_at, ne_at', far_far, far_at, at_far, lt_far, ↓Wd0, Wr0, Wr1, opnds, ofVal, ofValC, PV.cells, PV.one, PV.fit, partE, setL, pickE, intE, strE, eqC, eqCs, kindOK, aggEqE, binE, unaE, convE, fieldE, faddrE, iaddrE, indexE, loE, sliceE, nilE, fillP, buildE, elemsE, bslE, lenE, appE, stripC, strip1, strip1L, strip, tupV, resV, convT, convN, sliceB, sliceA, sliceO, convB, clearE, appB, lookE, insE, keyOK, rangeE, reduceCtorEq, ↓reduceIte, Nat.reduceAdd, Nat.reduceMul, Nat.reduceSub, Nat.reduceEqDiff, Nat.reduceLeDiff, Nat.reduceBEq, Int.reduceToNat, Nat.reduceLT, Int.reduceBEq, Int.reduceBNe, Int.reduceLT, Int.reduceLE, Int.reduceGT, Int.reduceGE, UInt8.reduceToNat, Int.reduceNeg, Int.reduceAdd, Int.reduceSub, Wt]
    rfl
end Go.Proofs.Ytemlofepmphgiaa
