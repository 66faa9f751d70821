import Derived.Test.YtlapmahiabcbmaaJe
/-! VerbFinds. -/
set_option linter.unusedSimpArgs false
set_option linter.unusedVariables false
set_option maxHeartbeats 4000000
set_option maxRecDepth 100000
namespace Go.Proofs.Ytlapmahiabcbmaa
open Go.RowKit

/-- A name with some of its letters as small ones. -/
def lowL : List UInt8 → Nat → List UInt8
  | [], _ => []
  | c :: cs, m => (if m % 2 = 1 then c + 32 else c) :: lowL cs (m / 2)
def lowK : List UInt8 → Nat → Nat → List UInt8
  | [], _, _ => []
  | cs, _, 0 => cs
  | c :: cs, m, k + 1 => (if m % 2 = 1 then c + 32 else c) :: lowK cs (m / 2) k
theorem lowL_len : ∀ (l : List UInt8) (m : Nat), (lowL l m).length = l.length
  | [], _ => rfl
  | c :: cs, m => by rw [lowL, List.length_cons, List.length_cons, lowL_len cs]
theorem lowK_len : ∀ (l : List UInt8) (m k : Nat), (lowK l m k).length = l.length
  | [], _, _ => rfl
  | c :: cs, m, 0 => rfl
  | c :: cs, m, k + 1 => by rw [lowK, List.length_cons, List.length_cons, lowK_len cs]
theorem lowK_zero (l : List UInt8) (m : Nat) : lowK l m 0 = l := by cases l <;> rfl
theorem lowK_end : ∀ (l : List UInt8) (m : Nat), lowK l m l.length = lowL l m
  | [], _ => rfl
  | c :: cs, m => by rw [List.length_cons, lowK, lowL, lowK_end cs]
theorem lowK_get : ∀ (l : List UInt8) (m k : Nat), (lowK l m k)[k]? = l[k]?
  | [], _, _ => rfl
  | c :: cs, m, 0 => rfl
  | c :: cs, m, k + 1 => by rw [lowK, List.getElem?_cons_succ, List.getElem?_cons_succ, lowK_get cs]
theorem lowK_succ : ∀ (l : List UInt8) (m k : Nat), k < l.length → lowK l m (k + 1) = (lowK l m k).set k (if m / 2 ^ k % 2 = 1 then l.getD k 0 + 32 else l.getD k 0)
  | [], _, _, h => by simp at h
  | c :: cs, m, 0, h => by simp [lowK, lowK_zero]
  | c :: cs, m, k + 1, h => by
    have ih := lowK_succ cs (m / 2) k (by simpa using h)
    rw [lowK, ih, lowK, List.set_cons_succ, List.getD_cons_succ, Nat.div_div_eq_div_mul, ← Nat.pow_succ']
theorem plus32 : ∀ n : Fin 256, IntKind.u8.wrap ((n.val : Int) + 32) = ((UInt8.ofNat n.val + 32).toNat : Int) := by decide +kernel
theorem plus_32 (c : UInt8) : IntKind.u8.wrap ((c.toNat : Int) + 32) = ((c + 32).toNat : Int) := by
  have := plus32 ⟨c.toNat, c.toNat_lt⟩
  simp only [UInt8.ofNat_toNat] at this
  exact this
theorem low_up : ∀ v ∈ verbs, ∀ m : Fin 32, upB (lowL v.name m.val) = v.name := by decide +kernel
theorem verb_ok : ∀ v ∈ verbs, findG v.name = v ∧ findIs v.name = true ∧ (v.path = true → v.arg ≠ 0) ∧ 0 ≤ v.arg ∧ v.arg ≤ 2 ∧ 0 ≤ v.kind ∧ v.kind < 11 ∧ v.name.length ≤ 4 := by decide +kernel
theorem verbs_less : ∀ k : Fin 36, 0 < k.val → Op.bytesLess (verbs.getD (k.val - 1) default).name (verbs.getD k.val default).name = true := by decide +kernel
theorem verbs_ne : ∀ k i : Fin 36, k ≠ i → ((verbs.getD k.val default).name == (verbs.getD i.val default).name) = false := by decide +kernel
theorem finds_to (i : Int) (small : Int) (ki : -9223372036854775808 ≤ i ∧ i ≤ 9223372036854775807) (ks : -9223372036854775808 ≤ small ∧ small ≤ 9223372036854775807) : CallsTo Try.prog 4 [.int .i64 i, .int .i64 small] (.bool true) [] := by
  refine callsTo_of mixed Try.func4 rfl Try.ntmps4 Try.results4 (by kernel_rfl) (by kernel_rfl) (by simp) [40] ?_
  simp only [↓Wd0, Wr0, Wr1, opnds, ofVal, ofValC, PV.cells, PV.one, PV.fit, partE, setL, pickE, intE, strE, eqC, eqCs, kindOK, aggEqE, binE, unaE, convE, fieldE, faddrE, iaddrE, indexE, loE, sliceE, nilE, fillP, buildE, elemsE, bslE, lenE, appE, stripC, strip1, strip1L, strip, tupV, resV, convT, convN, sliceB, sliceA, sliceO, convB, clearE, appB, lookE, insE, keyOK, rangeE, reduceCtorEq, ↓reduceIte, Nat.reduceAdd, Nat.reduceMul, Nat.reduceSub, Nat.reduceEqDiff, Nat.reduceLeDiff, Nat.reduceBEq, Int.reduceToNat, Nat.reduceLT, Int.reduceBEq, Int.reduceBNe, Int.reduceLT, Int.reduceLE, Int.reduceGT, Int.reduceGE, UInt8.reduceToNat, Int.reduceNeg, Int.reduceAdd, Int.reduceSub, Wt]
  refine calD awake_to ?_
  try simp only [↓Wd0, Wr0, Wr1, opnds, ofVal, ofValC, PV.cells, PV.one, PV.fit, partE, setL, pickE, intE, strE, eqC, eqCs, kindOK, aggEqE, binE, unaE, convE, fieldE, faddrE, iaddrE, indexE, loE, sliceE, nilE, fillP, buildE, elemsE, bslE, lenE, appE, stripC, strip1, strip1L, strip, tupV, resV, convT, convN, sliceB, sliceA, sliceO, convB, clearE, appB, lookE, insE, keyOK, rangeE, reduceCtorEq, ↓reduceIte, Nat.reduceAdd, Nat.reduceMul, Nat.reduceSub, Nat.reduceEqDiff, Nat.reduceLeDiff, Nat.reduceBEq, Int.reduceToNat, Nat.reduceLT, Int.reduceBEq, Int.reduceBNe, Int.reduceLT, Int.reduceLE, Int.reduceGT, Int.reduceGE, UInt8.reduceToNat, Int.reduceNeg, Int.reduceAdd, Int.reduceSub, Wt]
  refine calD all_to ?_
  generalize hvv : verbs = vv
  have hlen : vv.length = 36 := by rw [← hvv]; rfl
  try simp only [List.length_map, hlen, ↓Wd0, Wr0, Wr1, opnds, ofVal, ofValC, PV.cells, PV.one, PV.fit, partE, setL, pickE, intE, strE, eqC, eqCs, kindOK, aggEqE, binE, unaE, convE, fieldE, faddrE, iaddrE, indexE, loE, sliceE, nilE, fillP, buildE, elemsE, bslE, lenE, appE, stripC, strip1, strip1L, strip, tupV, resV, convT, convN, sliceB, sliceA, sliceO, convB, clearE, appB, lookE, insE, keyOK, rangeE, reduceCtorEq, ↓reduceIte, Nat.reduceAdd, Nat.reduceMul, Nat.reduceSub, Nat.reduceEqDiff, Nat.reduceLeDiff, Nat.reduceBEq, Int.reduceToNat, Nat.reduceLT, Int.reduceBEq, Int.reduceBNe, Int.reduceLT, Int.reduceLE, Int.reduceGT, Int.reduceGE, UInt8.reduceToNat, Int.reduceNeg, Int.reduceAdd, Int.reduceSub, Wt]
  refine ifD (fun hb1 => ?_) (fun hb1 => ?_)
  · try simp only [↓Wd0, Wr0, Wr1, opnds, ofVal, ofValC, PV.cells, PV.one, PV.fit, partE, setL, pickE, intE, strE, eqC, eqCs, kindOK, aggEqE, binE, unaE, convE, fieldE, faddrE, iaddrE, indexE, loE, sliceE, nilE, fillP, buildE, elemsE, bslE, lenE, appE, stripC, strip1, strip1L, strip, tupV, resV, convT, convN, sliceB, sliceA, sliceO, convB, clearE, appB, lookE, insE, keyOK, rangeE, reduceCtorEq, ↓reduceIte, Nat.reduceAdd, Nat.reduceMul, Nat.reduceSub, Nat.reduceEqDiff, Nat.reduceLeDiff, Nat.reduceBEq, Int.reduceToNat, Nat.reduceLT, Int.reduceBEq, Int.reduceBNe, Int.reduceLT, Int.reduceLE, Int.reduceGT, Int.reduceGE, UInt8.reduceToNat, Int.reduceNeg, Int.reduceAdd, Int.reduceSub, Wt]
  try simp only [List.length_map, hlen, ↓Wd0, Wr0, Wr1, opnds, ofVal, ofValC, PV.cells, PV.one, PV.fit, partE, setL, pickE, intE, strE, eqC, eqCs, kindOK, aggEqE, binE, unaE, convE, fieldE, faddrE, iaddrE, indexE, loE, sliceE, nilE, fillP, buildE, elemsE, bslE, lenE, appE, stripC, strip1, strip1L, strip, tupV, resV, convT, convN, sliceB, sliceA, sliceO, convB, clearE, appB, lookE, insE, keyOK, rangeE, reduceCtorEq, ↓reduceIte, Nat.reduceAdd, Nat.reduceMul, Nat.reduceSub, Nat.reduceEqDiff, Nat.reduceLeDiff, Nat.reduceBEq, Int.reduceToNat, Nat.reduceLT, Int.reduceBEq, Int.reduceBNe, Int.reduceLT, Int.reduceLE, Int.reduceGT, Int.reduceGE, UInt8.reduceToNat, Int.reduceNeg, Int.reduceAdd, Int.reduceSub, Wt]
  refine ifD (fun hb2 => ?_) (fun hb2 => ?_)
  · try simp only [↓Wd0, Wr0, Wr1, opnds, ofVal, ofValC, PV.cells, PV.one, PV.fit, partE, setL, pickE, intE, strE, eqC, eqCs, kindOK, aggEqE, binE, unaE, convE, fieldE, faddrE, iaddrE, indexE, loE, sliceE, nilE, fillP, buildE, elemsE, bslE, lenE, appE, stripC, strip1, strip1L, strip, tupV, resV, convT, convN, sliceB, sliceA, sliceO, convB, clearE, appB, lookE, insE, keyOK, rangeE, reduceCtorEq, ↓reduceIte, Nat.reduceAdd, Nat.reduceMul, Nat.reduceSub, Nat.reduceEqDiff, Nat.reduceLeDiff, Nat.reduceBEq, Int.reduceToNat, Nat.reduceLT, Int.reduceBEq, Int.reduceBNe, Int.reduceLT, Int.reduceLE, Int.reduceGT, Int.reduceGE, UInt8.reduceToNat, Int.reduceNeg, Int.reduceAdd, Int.reduceSub, Wt]
  try simp only [List.length_map, hlen, ↓Wd0, Wr0, Wr1, opnds, ofVal, ofValC, PV.cells, PV.one, PV.fit, partE, setL, pickE, intE, strE, eqC, eqCs, kindOK, aggEqE, binE, unaE, convE, fieldE, faddrE, iaddrE, indexE, loE, sliceE, nilE, fillP, buildE, elemsE, bslE, lenE, appE, stripC, strip1, strip1L, strip, tupV, resV, convT, convN, sliceB, sliceA, sliceO, convB, clearE, appB, lookE, insE, keyOK, rangeE, reduceCtorEq, ↓reduceIte, Nat.reduceAdd, Nat.reduceMul, Nat.reduceSub, Nat.reduceEqDiff, Nat.reduceLeDiff, Nat.reduceBEq, Int.reduceToNat, Nat.reduceLT, Int.reduceBEq, Int.reduceBNe, Int.reduceLT, Int.reduceLE, Int.reduceGT, Int.reduceGE, UInt8.reduceToNat, Int.reduceNeg, Int.reduceAdd, Int.reduceSub, Wt]
  refine ifD (fun hb3 => ?_) (fun hb3 => ?_)
  · try simp only [↓Wd0, Wr0, Wr1, opnds, ofVal, ofValC, PV.cells, PV.one, PV.fit, partE, setL, pickE, intE, strE, eqC, eqCs, kindOK, aggEqE, binE, unaE, convE, fieldE, faddrE, iaddrE, indexE, loE, sliceE, nilE, fillP, buildE, elemsE, bslE, lenE, appE, stripC, strip1, strip1L, strip, tupV, resV, convT, convN, sliceB, sliceA, sliceO, convB, clearE, appB, lookE, insE, keyOK, rangeE, reduceCtorEq, ↓reduceIte, Nat.reduceAdd, Nat.reduceMul, Nat.reduceSub, Nat.reduceEqDiff, Nat.reduceLeDiff, Nat.reduceBEq, Int.reduceToNat, Nat.reduceLT, Int.reduceBEq, Int.reduceBNe, Int.reduceLT, Int.reduceLE, Int.reduceGT, Int.reduceGE, UInt8.reduceToNat, Int.reduceNeg, Int.reduceAdd, Int.reduceSub, Wt]
  try simp only [List.length_map, hlen, ↓Wd0, Wr0, Wr1, opnds, ofVal, ofValC, PV.cells, PV.one, PV.fit, partE, setL, pickE, intE, strE, eqC, eqCs, kindOK, aggEqE, binE, unaE, convE, fieldE, faddrE, iaddrE, indexE, loE, sliceE, nilE, fillP, buildE, elemsE, bslE, lenE, appE, stripC, strip1, strip1L, strip, tupV, resV, convT, convN, sliceB, sliceA, sliceO, convB, clearE, appB, lookE, insE, keyOK, rangeE, reduceCtorEq, ↓reduceIte, Nat.reduceAdd, Nat.reduceMul, Nat.reduceSub, Nat.reduceEqDiff, Nat.reduceLeDiff, Nat.reduceBEq, Int.reduceToNat, Nat.reduceLT, Int.reduceBEq, Int.reduceBNe, Int.reduceLT, Int.reduceLE, Int.reduceGT, Int.reduceGE, UInt8.reduceToNat, Int.reduceNeg, Int.reduceAdd, Int.reduceSub, Wt]
  refine ifD (fun hb4 => ?_) (fun hb4 => ?_)
  · try simp only [↓Wd0, Wr0, Wr1, opnds, ofVal, ofValC, PV.cells, PV.one, PV.fit, partE, setL, pickE, intE, strE, eqC, eqCs, kindOK, aggEqE, binE, unaE, convE, fieldE, faddrE, iaddrE, indexE, loE, sliceE, nilE, fillP, buildE, elemsE, bslE, lenE, appE, stripC, strip1, strip1L, strip, tupV, resV, convT, convN, sliceB, sliceA, sliceO, convB, clearE, appB, lookE, insE, keyOK, rangeE, reduceCtorEq, ↓reduceIte, Nat.reduceAdd, Nat.reduceMul, Nat.reduceSub, Nat.reduceEqDiff, Nat.reduceLeDiff, Nat.reduceBEq, Int.reduceToNat, Nat.reduceLT, Int.reduceBEq, Int.reduceBNe, Int.reduceLT, Int.reduceLE, Int.reduceGT, Int.reduceGE, UInt8.reduceToNat, Int.reduceNeg, Int.reduceAdd, Int.reduceSub, Wt]
  have l1 : 0 ≤ i := by have := of_decide_eq_false hb1; omega
  have l2 : i < 36 := by have := of_decide_eq_false hb2; omega
  have l3 : 0 ≤ small := by have := of_decide_eq_false hb3; omega
  have l4 : small < 32 := by have := of_decide_eq_false hb4; omega
  obtain ⟨j, rfl⟩ : ∃ k : Nat, i = k := ⟨i.toNat, by omega⟩
  obtain ⟨m, rfl⟩ : ∃ k : Nat, small = k := ⟨small.toNat, by omega⟩
  have e := getD_map' (l := vv) (k := j) GVerb.cs default [] (by omega)
  have hm : vv.getD j default ∈ verbs := by rw [hvv, List.getD_eq_getElem?_getD, List.getElem?_eq_getElem (by omega)]; exact List.getElem_mem _
  have hv := verb_ok _ hm
  have hup := low_up _ hm ⟨m, by omega⟩
  have hne : ∀ k : Nat, k < 36 → k ≠ j → ((vv.getD k default).name == (vv.getD j default).name) = false := fun k hk hne => by
    have := verbs_ne ⟨k, hk⟩ ⟨j, by omega⟩ (fun e => hne (by simpa using e))
    rw [← hvv]
    exact this
  have hls : ∀ k : Nat, k < 36 → 0 < k → Op.bytesLess (vv.getD (k - 1) default).name (vv.getD k default).name = true := fun k hk h0 => by
    have := verbs_less ⟨k, hk⟩ h0
    rw [← hvv]
    exact this
  generalize vv.getD j default = v at e hv hup hne
  obtain ⟨hv1, hv2, hv3, hv4, hv5, hv6, hv7, hv8⟩ := hv
  obtain ⟨vn, vk, va, vp⟩ := v
  simp only at hv1 hv2 hv3 hv4 hv5 hv6 hv7 hv8 hup hne
  try simp only [e, GVerb.cs, List.length_map, hlen, ↓Wd0, Wr0, Wr1, opnds, ofVal, ofValC, PV.cells, PV.one, PV.fit, partE, setL, pickE, intE, strE, eqC, eqCs, kindOK, aggEqE, binE, unaE, convE, fieldE, faddrE, iaddrE, indexE, loE, sliceE, nilE, fillP, buildE, elemsE, bslE, lenE, appE, stripC, strip1, strip1L, strip, tupV, resV, convT, convN, sliceB, sliceA, sliceO, convB, clearE, appB, lookE, insE, keyOK, rangeE, reduceCtorEq, ↓reduceIte, Nat.reduceAdd, Nat.reduceMul, Nat.reduceSub, Nat.reduceEqDiff, Nat.reduceLeDiff, Nat.reduceBEq, Int.reduceToNat, Nat.reduceLT, Int.reduceBEq, Int.reduceBNe, Int.reduceLT, Int.reduceLE, Int.reduceGT, Int.reduceGE, UInt8.reduceToNat, Int.reduceNeg, Int.reduceAdd, Int.reduceSub, Wt]
  refine ⟨by omega, by omega, ?_⟩
  have hk0 : ∀ k, (lowK vn m k).length = vn.length := lowK_len vn m
  refine loopD (M := []) mixed (by kernel_rfl) [1, 8, 41, 42, 43, 44, 45, 46, 47, 48, 49, 50, 51, 52, 53, 54, 55, 56, 57, 58, 59] (by kernel_rfl) (fun n f H N => ∃ k : Nat, k ≤ vn.length ∧ f 8 = .int .i64 k ∧ f 1 = .int .i64 ((m / 2 ^ k : Nat) : Int) ∧ n = vn.length - k ∧ 248 < N ∧ H 248 = some (.box ((lowK vn m k).map cellU))) ⟨_, 0, by omega, rfl, by simp; rfl, rfl, by omega, by rw [lowK_zero]; rfl⟩ ?_
  rintro n f H N ⟨k, hk, hf, hf1, rfl, hN, hH⟩
  have ew := wrap_succ (k := k) (by omega)
  try simp (disch := omega) only [hf, hf1, hH, List.length_map, hk0, ne_far, ne_far', ne_at, ne_at', far_far, far_at, at_far, lt_far, ↓Wd0, Wr0, Wr1, opnds, ofVal, ofValC, PV.cells, PV.one, PV.fit, partE, setL, pickE, intE, strE, eqC, eqCs, kindOK, aggEqE, binE, unaE, convE, fieldE, faddrE, iaddrE, indexE, loE, sliceE, nilE, fillP, buildE, elemsE, bslE, lenE, appE, stripC, strip1, strip1L, strip, tupV, resV, convT, convN, sliceB, sliceA, sliceO, convB, clearE, appB, lookE, insE, keyOK, rangeE, reduceCtorEq, ↓reduceIte, Nat.reduceAdd, Nat.reduceMul, Nat.reduceSub, Nat.reduceEqDiff, Nat.reduceLeDiff, Nat.reduceBEq, Int.reduceToNat, Nat.reduceLT, Int.reduceBEq, Int.reduceBNe, Int.reduceLT, Int.reduceLE, Int.reduceGT, Int.reduceGE, UInt8.reduceToNat, Int.reduceNeg, Int.reduceAdd, Int.reduceSub, Wt]
  refine ifD (fun hb => ?_) (fun hb => ?_)
  · have hb' : (k : Int) < vn.length := of_decide_eq_true hb
    have er : ((m / 2 ^ k : Nat) : Int).tmod 2 = ((m / 2 ^ k % 2 : Nat) : Int) := (Int.ofNat_tmod _ 2).symm
    have eq : IntKind.i64.wrap (((m / 2 ^ k : Nat) : Int).tdiv 2) = ((m / 2 ^ (k + 1) : Nat) : Int) := by
      rw [show ((m / 2 ^ k : Nat) : Int).tdiv 2 = ((m / 2 ^ k / 2 : Nat) : Int) from (Int.ofNat_tdiv _ 2).symm, Nat.div_div_eq_div_mul, ← Nat.pow_succ]
      have h1 : m / 2 ^ (k + 1) ≤ m := Nat.div_le_self _ _
      generalize m / 2 ^ (k + 1) = z at h1 ⊢
      exact IntWalk.i64_in _ (by omega)
    have eg : ((lowK vn m k).map cellU)[k]? = some (cellU (vn.getD k 0)) := by
      rw [List.getElem?_map, lowK_get, List.getD_eq_getElem?_getD, List.getElem?_eq_getElem (by omega)]
      rfl
    have es := lowK_succ vn m k (by omega)
    have ek : 0 + k * 1 = k := by omega
    have en : ¬ ((2 : Int) = 0) := by omega
    try simp (disch := omega) only [hf, hf1, hH, List.length_map, hk0, er, eg, ne_far, ne_far', ne_at, ne_at', far_far, far_at, at_far, lt_far, ↓Wd0, Wr0, Wr1, opnds, ofVal, ofValC, PV.cells, PV.one, PV.fit, partE, setL, pickE, intE, strE, eqC, eqCs, kindOK, aggEqE, binE, unaE, convE, fieldE, faddrE, iaddrE, indexE, loE, sliceE, nilE, fillP, buildE, elemsE, bslE, lenE, appE, stripC, strip1, strip1L, strip, tupV, resV, convT, convN, sliceB, sliceA, sliceO, convB, clearE, appB, lookE, insE, keyOK, rangeE, reduceCtorEq, ↓reduceIte, Nat.reduceAdd, Nat.reduceMul, Nat.reduceSub, Nat.reduceEqDiff, Nat.reduceLeDiff, Nat.reduceBEq, Int.reduceToNat, Nat.reduceLT, Int.reduceBEq, Int.reduceBNe, Int.reduceLT, Int.reduceLE, Int.reduceGT, Int.reduceGE, UInt8.reduceToNat, Int.reduceNeg, Int.reduceAdd, Int.reduceSub, Wt]
    refine ⟨by omega, ?_⟩
    refine ifD (fun hbo => ?_) (fun hbo => ?_)
    · have ho : m / 2 ^ k % 2 = 1 := by have := eq_of_beq hbo; omega
      rw [if_pos ho] at es
      have ep := plus_32 (vn.getD k 0)
      have e2 : (k + 1 ≤ vn.length) = True := eq_true (by omega)
      try simp (disch := omega) only [hf, hf1, hH, List.length_map, hk0, er, eg, ek, cellU, ep, eq, e2, if_true, ne_far, ne_far', ne_at, ne_at', far_far, far_at, at_far, lt_far, ↓Wd0, Wr0, Wr1, opnds, ofVal, ofValC, PV.cells, PV.one, PV.fit, partE, setL, pickE, intE, strE, eqC, eqCs, kindOK, aggEqE, binE, unaE, convE, fieldE, faddrE, iaddrE, indexE, loE, sliceE, nilE, fillP, buildE, elemsE, bslE, lenE, appE, stripC, strip1, strip1L, strip, tupV, resV, convT, convN, sliceB, sliceA, sliceO, convB, clearE, appB, lookE, insE, keyOK, rangeE, reduceCtorEq, ↓reduceIte, Nat.reduceAdd, Nat.reduceMul, Nat.reduceSub, Nat.reduceEqDiff, Nat.reduceLeDiff, Nat.reduceBEq, Int.reduceToNat, Nat.reduceLT, Int.reduceBEq, Int.reduceBNe, Int.reduceLT, Int.reduceLE, Int.reduceGT, Int.reduceGE, UInt8.reduceToNat, Int.reduceNeg, Int.reduceAdd, Int.reduceSub, Wt]
      refine ⟨by omega, by omega, by omega, _, by omega, k + 1, by omega, ew, rfl, rfl, ?_⟩
      rw [es, List.map_set]
      rfl
    · have ho : ¬ m / 2 ^ k % 2 = 1 := fun h => by rw [h] at hbo; cases hbo
      rw [if_neg ho] at es
      try simp (disch := omega) only [hf, hf1, hH, List.length_map, hk0, er, eg, ek, cellU, eq, ne_far, ne_far', ne_at, ne_at', far_far, far_at, at_far, lt_far, ↓Wd0, Wr0, Wr1, opnds, ofVal, ofValC, PV.cells, PV.one, PV.fit, partE, setL, pickE, intE, strE, eqC, eqCs, kindOK, aggEqE, binE, unaE, convE, fieldE, faddrE, iaddrE, indexE, loE, sliceE, nilE, fillP, buildE, elemsE, bslE, lenE, appE, stripC, strip1, strip1L, strip, tupV, resV, convT, convN, sliceB, sliceA, sliceO, convB, clearE, appB, lookE, insE, keyOK, rangeE, reduceCtorEq, ↓reduceIte, Nat.reduceAdd, Nat.reduceMul, Nat.reduceSub, Nat.reduceEqDiff, Nat.reduceLeDiff, Nat.reduceBEq, Int.reduceToNat, Nat.reduceLT, Int.reduceBEq, Int.reduceBNe, Int.reduceLT, Int.reduceLE, Int.reduceGT, Int.reduceGE, UInt8.reduceToNat, Int.reduceNeg, Int.reduceAdd, Int.reduceSub, Wt]
      refine ⟨by omega, _, by omega, k + 1, by omega, ew, rfl, rfl, ?_⟩
      rw [es]
      congr 2
      apply List.ext_getElem?
      intro i
      rw [List.getElem?_set]
      split
      · rename_i e2
        subst e2
        rw [if_pos (by rw [hk0]; omega), lowK_get, List.getD_eq_getElem?_getD, List.getElem?_eq_getElem (by omega)]
        rfl
      · rfl
  · have hkn : k = vn.length := by have := of_decide_eq_false hb; omega
    subst hkn
    try simp (disch := omega) only [hf, hf1, hH, List.length_map, hk0, ne_far, ne_far', ne_at, ne_at', far_far, far_at, at_far, lt_far, ↓Wd0, Wr0, Wr1, opnds, ofVal, ofValC, PV.cells, PV.one, PV.fit, partE, setL, pickE, intE, strE, eqC, eqCs, kindOK, aggEqE, binE, unaE, convE, fieldE, faddrE, iaddrE, indexE, loE, sliceE, nilE, fillP, buildE, elemsE, bslE, lenE, appE, stripC, strip1, strip1L, strip, tupV, resV, convT, convN, sliceB, sliceA, sliceO, convB, clearE, appB, lookE, insE, keyOK, rangeE, reduceCtorEq, ↓reduceIte, Nat.reduceAdd, Nat.reduceMul, Nat.reduceSub, Nat.reduceEqDiff, Nat.reduceLeDiff, Nat.reduceBEq, Int.reduceToNat, Nat.reduceLT, Int.reduceBEq, Int.reduceBNe, Int.reduceLT, Int.reduceLE, Int.reduceGT, Int.reduceGE, UInt8.reduceToNat, Int.reduceNeg, Int.reduceAdd, Int.reduceSub, Wt]
    have et : List.map unP (List.take vn.length (List.map cellU (lowK vn m vn.length))) = lowL vn m := by
      rw [List.take_of_length_le (by rw [List.length_map, hk0]; exact Nat.le_refl _), unP_cell, lowK_end]
    have ef : findP (lowL vn m) = .tup [.agg [.str vn, .int .i64 vk, .int .i64 va, .bool vp], .bool true] := by
      rw [← findP_up, hup, findP_eq, hv1, hv2]
    rw [et]
    refine ⟨⟨by omega, fun p hp => ?_⟩, ?_⟩
    · obtain ⟨c, _, rfl⟩ := List.mem_map.1 (List.mem_of_mem_take hp)
      exact ⟨c, rfl⟩
    refine calD (find_to (lowL vn m) (by rw [lowL_len]; omega)) ?_
    try simp (disch := omega) only [hf, hf1, hH, List.length_map, hk0, ef, e, GVerb.cs, ne_far, ne_far', ne_at, ne_at', far_far, far_at, at_far, lt_far, ↓Wd0, Wr0, Wr1, opnds, ofVal, ofValC, PV.cells, PV.one, PV.fit, partE, setL, pickE, intE, strE, eqC, eqCs, kindOK, aggEqE, binE, unaE, convE, fieldE, faddrE, iaddrE, indexE, loE, sliceE, nilE, fillP, buildE, elemsE, bslE, lenE, appE, stripC, strip1, strip1L, strip, tupV, resV, convT, convN, sliceB, sliceA, sliceO, convB, clearE, appB, lookE, insE, keyOK, rangeE, reduceCtorEq, ↓reduceIte, Nat.reduceAdd, Nat.reduceMul, Nat.reduceSub, Nat.reduceEqDiff, Nat.reduceLeDiff, Nat.reduceBEq, Int.reduceToNat, Nat.reduceLT, Int.reduceBEq, Int.reduceBNe, Int.reduceLT, Int.reduceLE, Int.reduceGT, Int.reduceGE, UInt8.reduceToNat, Int.reduceNeg, Int.reduceAdd, Int.reduceSub, Wt]
    refine ⟨by omega, ?_⟩
    have d1 : decide (va < 0) = false := decide_eq_false (by omega)
    have d2 : decide (va > 2) = false := decide_eq_false (by omega)
    have d3 : decide (vk < 0) = false := decide_eq_false (by omega)
    have d4 : decide (vk ≥ 11) = false := decide_eq_false (by omega)
    have d5 : vp = true → (va == 0) = false := fun h => beq_eq_false_iff_ne.2 (hv3 h)
    cases vp with
    | false =>
      try simp (disch := omega) only [hf, hf1, hH, List.length_map, hlen, d1, d2, d3, d4, ne_far, ne_far', ne_at, ne_at', far_far, far_at, at_far, lt_far, ↓Wd0, Wr0, Wr1, opnds, ofVal, ofValC, PV.cells, PV.one, PV.fit, partE, setL, pickE, intE, strE, eqC, eqCs, kindOK, aggEqE, binE, unaE, convE, fieldE, faddrE, iaddrE, indexE, loE, sliceE, nilE, fillP, buildE, elemsE, bslE, lenE, appE, stripC, strip1, strip1L, strip, tupV, resV, convT, convN, sliceB, sliceA, sliceO, convB, clearE, appB, lookE, insE, keyOK, rangeE, reduceCtorEq, ↓reduceIte, Nat.reduceAdd, Nat.reduceMul, Nat.reduceSub, Nat.reduceEqDiff, Nat.reduceLeDiff, Nat.reduceBEq, Int.reduceToNat, Nat.reduceLT, Int.reduceBEq, Int.reduceBNe, Int.reduceLT, Int.reduceLE, Int.reduceGT, Int.reduceGE, UInt8.reduceToNat, Int.reduceNeg, Int.reduceAdd, Int.reduceSub, Wt]
      refine loopD (M := []) mixed (by kernel_rfl) [4, 11, 105, 106, 107, 108, 109, 110, 111, 112, 113, 114, 115, 116, 117, 118, 119, 120, 121, 122, 123, 124, 125, 126, 127, 128, 129, 130, 131, 132, 133, 134, 135, 136, 137, 138, 139, 140, 141] (by kernel_rfl) (fun n f H N2 => ∃ k : Nat, k ≤ 36 ∧ f 11 = .int .i64 k ∧ n = 36 - k ∧ N + 80 < N2 ∧ H (N + 80) = some (.box [.str vn, .int .i64 vk, .int .i64 va, .bool false])) ⟨_, 0, by omega, rfl, rfl, by omega, upd_same _ _ _⟩ ?_
      rintro n f2 H2 N2 ⟨k, hk, hf2, rfl, hN2, hH2⟩
      try simp (disch := omega) only [hf2, hH2, List.length_map, hlen, ne_far, ne_far', ne_at, ne_at', far_far, far_at, at_far, lt_far, ↓Wd0, Wr0, Wr1, opnds, ofVal, ofValC, PV.cells, PV.one, PV.fit, partE, setL, pickE, intE, strE, eqC, eqCs, kindOK, aggEqE, binE, unaE, convE, fieldE, faddrE, iaddrE, indexE, loE, sliceE, nilE, fillP, buildE, elemsE, bslE, lenE, appE, stripC, strip1, strip1L, strip, tupV, resV, convT, convN, sliceB, sliceA, sliceO, convB, clearE, appB, lookE, insE, keyOK, rangeE, reduceCtorEq, ↓reduceIte, Nat.reduceAdd, Nat.reduceMul, Nat.reduceSub, Nat.reduceEqDiff, Nat.reduceLeDiff, Nat.reduceBEq, Int.reduceToNat, Nat.reduceLT, Int.reduceBEq, Int.reduceBNe, Int.reduceLT, Int.reduceLE, Int.reduceGT, Int.reduceGE, UInt8.reduceToNat, Int.reduceNeg, Int.reduceAdd, Int.reduceSub, Wt]
      refine ifD (fun hb => ?_) (fun hb => ?_)
      · have hb' : (k : Int) < 36 := of_decide_eq_true hb
        have ew := wrap_succ (k := k) (by omega)
        have e1 := getD_map' (l := vv) (k := k) GVerb.cs default [] (by omega)
        by_cases hj : k = j
        · have c1 : ((k : Int) != j) = false := by simp; omega
          by_cases h0 : k = 0
          · have c2 : decide ((k : Int) > 0) = false := decide_eq_false (by omega)
            try simp (disch := omega) only [hf2, hH2, List.length_map, hlen, e1, GVerb.cs, c1, c2, ne_far, ne_far', ne_at, ne_at', far_far, far_at, at_far, lt_far, ↓Wd0, Wr0, Wr1, opnds, ofVal, ofValC, PV.cells, PV.one, PV.fit, partE, setL, pickE, intE, strE, eqC, eqCs, kindOK, aggEqE, binE, unaE, convE, fieldE, faddrE, iaddrE, indexE, loE, sliceE, nilE, fillP, buildE, elemsE, bslE, lenE, appE, stripC, strip1, strip1L, strip, tupV, resV, convT, convN, sliceB, sliceA, sliceO, convB, clearE, appB, lookE, insE, keyOK, rangeE, reduceCtorEq, ↓reduceIte, Nat.reduceAdd, Nat.reduceMul, Nat.reduceSub, Nat.reduceEqDiff, Nat.reduceLeDiff, Nat.reduceBEq, Int.reduceToNat, Nat.reduceLT, Int.reduceBEq, Int.reduceBNe, Int.reduceLT, Int.reduceLE, Int.reduceGT, Int.reduceGE, UInt8.reduceToNat, Int.reduceNeg, Int.reduceAdd, Int.reduceSub, Wt]
            exact ⟨_, by omega, k + 1, by omega, ew, rfl⟩
          · have c2 : decide ((k : Int) > 0) = true := decide_eq_true (by omega)
            have c3 : IntKind.i64.wrap ((k : Int) - 1) = ((k - 1 : Nat) : Int) := by
              rw [IntWalk.i64_in _ (by omega)]
              omega
            have e0 := getD_map' (l := vv) (k := k - 1) GVerb.cs default [] (by omega)
            have c4 := hls k (by omega) (by omega)
            try simp (disch := omega) only [hf2, hH2, List.length_map, hlen, e1, e0, GVerb.cs, c1, c2, c3, c4, ne_far, ne_far', ne_at, ne_at', far_far, far_at, at_far, lt_far, ↓Wd0, Wr0, Wr1, opnds, ofVal, ofValC, PV.cells, PV.one, PV.fit, partE, setL, pickE, intE, strE, eqC, eqCs, kindOK, aggEqE, binE, unaE, convE, fieldE, faddrE, iaddrE, indexE, loE, sliceE, nilE, fillP, buildE, elemsE, bslE, lenE, appE, stripC, strip1, strip1L, strip, tupV, resV, convT, convN, sliceB, sliceA, sliceO, convB, clearE, appB, lookE, insE, keyOK, rangeE, reduceCtorEq, ↓reduceIte, Nat.reduceAdd, Nat.reduceMul, Nat.reduceSub, Nat.reduceEqDiff, Nat.reduceLeDiff, Nat.reduceBEq, Int.reduceToNat, Nat.reduceLT, Int.reduceBEq, Int.reduceBNe, Int.reduceLT, Int.reduceLE, Int.reduceGT, Int.reduceGE, UInt8.reduceToNat, Int.reduceNeg, Int.reduceAdd, Int.reduceSub, Wt]
            exact ⟨by omega, by omega, _, by omega, k + 1, by omega, ew, rfl⟩
        · have c1 : ((k : Int) != j) = true := by simp; omega
          have c5 := hne k (by omega) hj
          by_cases h0 : k = 0
          · have c2 : decide ((k : Int) > 0) = false := decide_eq_false (by omega)
            try simp (disch := omega) only [hf2, hH2, List.length_map, hlen, e1, GVerb.cs, c1, c2, c5, ne_far, ne_far', ne_at, ne_at', far_far, far_at, at_far, lt_far, ↓Wd0, Wr0, Wr1, opnds, ofVal, ofValC, PV.cells, PV.one, PV.fit, partE, setL, pickE, intE, strE, eqC, eqCs, kindOK, aggEqE, binE, unaE, convE, fieldE, faddrE, iaddrE, indexE, loE, sliceE, nilE, fillP, buildE, elemsE, bslE, lenE, appE, stripC, strip1, strip1L, strip, tupV, resV, convT, convN, sliceB, sliceA, sliceO, convB, clearE, appB, lookE, insE, keyOK, rangeE, reduceCtorEq, ↓reduceIte, Nat.reduceAdd, Nat.reduceMul, Nat.reduceSub, Nat.reduceEqDiff, Nat.reduceLeDiff, Nat.reduceBEq, Int.reduceToNat, Nat.reduceLT, Int.reduceBEq, Int.reduceBNe, Int.reduceLT, Int.reduceLE, Int.reduceGT, Int.reduceGE, UInt8.reduceToNat, Int.reduceNeg, Int.reduceAdd, Int.reduceSub, Wt]
            exact ⟨by omega, _, by omega, k + 1, by omega, ew, rfl⟩
          · have c2 : decide ((k : Int) > 0) = true := decide_eq_true (by omega)
            have c3 : IntKind.i64.wrap ((k : Int) - 1) = ((k - 1 : Nat) : Int) := by
              rw [IntWalk.i64_in _ (by omega)]
              omega
            have e0 := getD_map' (l := vv) (k := k - 1) GVerb.cs default [] (by omega)
            have c4 := hls k (by omega) (by omega)
            try simp (disch := omega) only [hf2, hH2, List.length_map, hlen, e1, e0, GVerb.cs, c1, c2, c3, c4, c5, ne_far, ne_far', ne_at, ne_at', far_far, far_at, at_far, lt_far, ↓Wd0, Wr0, Wr1, opnds, ofVal, ofValC, PV.cells, PV.one, PV.fit, partE, setL, pickE, intE, strE, eqC, eqCs, kindOK, aggEqE, binE, unaE, convE, fieldE, faddrE, iaddrE, indexE, loE, sliceE, nilE, fillP, buildE, elemsE, bslE, lenE, appE, stripC, strip1, strip1L, strip, tupV, resV, convT, convN, sliceB, sliceA, sliceO, convB, clearE, appB, lookE, insE, keyOK, rangeE, reduceCtorEq, ↓reduceIte, Nat.reduceAdd, Nat.reduceMul, Nat.reduceSub, Nat.reduceEqDiff, Nat.reduceLeDiff, Nat.reduceBEq, Int.reduceToNat, Nat.reduceLT, Int.reduceBEq, Int.reduceBNe, Int.reduceLT, Int.reduceLE, Int.reduceGT, Int.reduceGE, UInt8.reduceToNat, Int.reduceNeg, Int.reduceAdd, Int.reduceSub, Wt]
            exact ⟨by omega, by omega, by omega, _, by omega, k + 1, by omega, ew, rfl⟩
      · try simp (disch := omega) only [hf2, hH2, List.length_map, hlen, ne_far, ne_far', ne_at, ne_at', far_far, far_at, at_far, lt_far, ↓Wd0, Wr0, Wr1, opnds, ofVal, ofValC, PV.cells, PV.one, PV.fit, partE, setL, pickE, intE, strE, eqC, eqCs, kindOK, aggEqE, binE, unaE, convE, fieldE, faddrE, iaddrE, indexE, loE, sliceE, nilE, fillP, buildE, elemsE, bslE, lenE, appE, stripC, strip1, strip1L, strip, tupV, resV, convT, convN, sliceB, sliceA, sliceO, convB, clearE, appB, lookE, insE, keyOK, rangeE, reduceCtorEq, ↓reduceIte, Nat.reduceAdd, Nat.reduceMul, Nat.reduceSub, Nat.reduceEqDiff, Nat.reduceLeDiff, Nat.reduceBEq, Int.reduceToNat, Nat.reduceLT, Int.reduceBEq, Int.reduceBNe, Int.reduceLT, Int.reduceLE, Int.reduceGT, Int.reduceGE, UInt8.reduceToNat, Int.reduceNeg, Int.reduceAdd, Int.reduceSub, Wt]
    | true =>
      have d6 := d5 rfl
      try simp (disch := omega) only [hf, hf1, hH, List.length_map, hlen, d1, d2, d3, d4, d6, ne_far, ne_far', ne_at, ne_at', far_far, far_at, at_far, lt_far, ↓Wd0, Wr0, Wr1, opnds, ofVal, ofValC, PV.cells, PV.one, PV.fit, partE, setL, pickE, intE, strE, eqC, eqCs, kindOK, aggEqE, binE, unaE, convE, fieldE, faddrE, iaddrE, indexE, loE, sliceE, nilE, fillP, buildE, elemsE, bslE, lenE, appE, stripC, strip1, strip1L, strip, tupV, resV, convT, convN, sliceB, sliceA, sliceO, convB, clearE, appB, lookE, insE, keyOK, rangeE, reduceCtorEq, ↓reduceIte, Nat.reduceAdd, Nat.reduceMul, Nat.reduceSub, Nat.reduceEqDiff, Nat.reduceLeDiff, Nat.reduceBEq, Int.reduceToNat, Nat.reduceLT, Int.reduceBEq, Int.reduceBNe, Int.reduceLT, Int.reduceLE, Int.reduceGT, Int.reduceGE, UInt8.reduceToNat, Int.reduceNeg, Int.reduceAdd, Int.reduceSub, Wt]
      refine loopD (M := []) mixed (by kernel_rfl) [4, 11, 105, 106, 107, 108, 109, 110, 111, 112, 113, 114, 115, 116, 117, 118, 119, 120, 121, 122, 123, 124, 125, 126, 127, 128, 129, 130, 131, 132, 133, 134, 135, 136, 137, 138, 139, 140, 141] (by kernel_rfl) (fun n f H N2 => ∃ k : Nat, k ≤ 36 ∧ f 11 = .int .i64 k ∧ n = 36 - k ∧ N + 80 < N2 ∧ H (N + 80) = some (.box [.str vn, .int .i64 vk, .int .i64 va, .bool true])) ⟨_, 0, by omega, rfl, rfl, by omega, upd_same _ _ _⟩ ?_
      rintro n f2 H2 N2 ⟨k, hk, hf2, rfl, hN2, hH2⟩
      try simp (disch := omega) only [hf2, hH2, List.length_map, hlen, ne_far, ne_far', ne_at, ne_at', far_far, far_at, at_far, lt_far, ↓Wd0, Wr0, Wr1, opnds, ofVal, ofValC, PV.cells, PV.one, PV.fit, partE, setL, pickE, intE, strE, eqC, eqCs, kindOK, aggEqE, binE, unaE, convE, fieldE, faddrE, iaddrE, indexE, loE, sliceE, nilE, fillP, buildE, elemsE, bslE, lenE, appE, stripC, strip1, strip1L, strip, tupV, resV, convT, convN, sliceB, sliceA, sliceO, convB, clearE, appB, lookE, insE, keyOK, rangeE, reduceCtorEq, ↓reduceIte, Nat.reduceAdd, Nat.reduceMul, Nat.reduceSub, Nat.reduceEqDiff, Nat.reduceLeDiff, Nat.reduceBEq, Int.reduceToNat, Nat.reduceLT, Int.reduceBEq, Int.reduceBNe, Int.reduceLT, Int.reduceLE, Int.reduceGT, Int.reduceGE, UInt8.reduceToNat, Int.reduceNeg, Int.reduceAdd, Int.reduceSub, Wt]
      refine ifD (fun hb => ?_) (fun hb => ?_)
      · have hb' : (k : Int) < 36 := of_decide_eq_true hb
        have ew := wrap_succ (k := k) (by omega)
        have e1 := getD_map' (l := vv) (k := k) GVerb.cs default [] (by omega)
        by_cases hj : k = j
        · have c1 : ((k : Int) != j) = false := by simp; omega
          by_cases h0 : k = 0
          · have c2 : decide ((k : Int) > 0) = false := decide_eq_false (by omega)
            try simp (disch := omega) only [hf2, hH2, List.length_map, hlen, e1, GVerb.cs, c1, c2, ne_far, ne_far', ne_at, ne_at', far_far, far_at, at_far, lt_far, ↓Wd0, Wr0, Wr1, opnds, ofVal, ofValC, PV.cells, PV.one, PV.fit, partE, setL, pickE, intE, strE, eqC, eqCs, kindOK, aggEqE, binE, unaE, convE, fieldE, faddrE, iaddrE, indexE, loE, sliceE, nilE, fillP, buildE, elemsE, bslE, lenE, appE, stripC, strip1, strip1L, strip, tupV, resV, convT, convN, sliceB, sliceA, sliceO, convB, clearE, appB, lookE, insE, keyOK, rangeE, reduceCtorEq, ↓reduceIte, Nat.reduceAdd, Nat.reduceMul, Nat.reduceSub, Nat.reduceEqDiff, Nat.reduceLeDiff, Nat.reduceBEq, Int.reduceToNat, Nat.reduceLT, Int.reduceBEq, Int.reduceBNe, Int.reduceLT, Int.reduceLE, Int.reduceGT, Int.reduceGE, UInt8.reduceToNat, Int.reduceNeg, Int.reduceAdd, Int.reduceSub, Wt]
            exact ⟨_, by omega, k + 1, by omega, ew, rfl⟩
          · have c2 : decide ((k : Int) > 0) = true := decide_eq_true (by omega)
            have c3 : IntKind.i64.wrap ((k : Int) - 1) = ((k - 1 : Nat) : Int) := by
              rw [IntWalk.i64_in _ (by omega)]
              omega
            have e0 := getD_map' (l := vv) (k := k - 1) GVerb.cs default [] (by omega)
            have c4 := hls k (by omega) (by omega)
            try simp (disch := omega) only [hf2, hH2, List.length_map, hlen, e1, e0, GVerb.cs, c1, c2, c3, c4, ne_far, ne_far', ne_at, ne_at', far_far, far_at, at_far, lt_far, ↓Wd0, Wr0, Wr1, opnds, ofVal, ofValC, PV.cells, PV.one, PV.fit, partE, setL, pickE, intE, strE, eqC, eqCs, kindOK, aggEqE, binE, unaE, convE, fieldE, faddrE, iaddrE, indexE, loE, sliceE, nilE, fillP, buildE, elemsE, bslE, lenE, appE, stripC, strip1, strip1L, strip, tupV, resV, convT, convN, sliceB, sliceA, sliceO, convB, clearE, appB, lookE, insE, keyOK, rangeE, reduceCtorEq, ↓reduceIte, Nat.reduceAdd, Nat.reduceMul, Nat.reduceSub, Nat.reduceEqDiff, Nat.reduceLeDiff, Nat.reduceBEq, Int.reduceToNat, Nat.reduceLT, Int.reduceBEq, Int.reduceBNe, Int.reduceLT, Int.reduceLE, Int.reduceGT, Int.reduceGE, UInt8.reduceToNat, Int.reduceNeg, Int.reduceAdd, Int.reduceSub, Wt]
            exact ⟨by omega, by omega, _, by omega, k + 1, by omega, ew, rfl⟩
        · have c1 : ((k : Int) != j) = true := by simp; omega
          have c5 := hne k (by omega) hj
          by_cases h0 : k = 0
          · have c2 : decide ((k : Int) > 0) = false := decide_eq_false (by omega)
            try simp (disch := omega) only [hf2, hH2, List.length_map, hlen, e1, GVerb.cs, c1, c2, c5, ne_far, ne_far', ne_at, ne_at', far_far, far_at, at_far, lt_far, ↓Wd0, Wr0, Wr1, opnds, ofVal, ofValC, PV.cells, PV.one, PV.fit, partE, setL, pickE, intE, strE, eqC, eqCs, kindOK, aggEqE, binE, unaE, convE, fieldE, faddrE, iaddrE, indexE, loE, sliceE, nilE, fillP, buildE, elemsE, bslE, lenE, appE, stripC, strip1, strip1L, strip, tupV, resV, convT, convN, sliceB, sliceA, sliceO, convB, clearE, appB, lookE, insE, keyOK, rangeE, reduceCtorEq, ↓reduceIte, Nat.reduceAdd, Nat.reduceMul, Nat.reduceSub, Nat.reduceEqDiff, Nat.reduceLeDiff, Nat.reduceBEq, Int.reduceToNat, Nat.reduceLT, Int.reduceBEq, Int.reduceBNe, Int.reduceLT, Int.reduceLE, Int.reduceGT, Int.reduceGE, UInt8.reduceToNat, Int.reduceNeg, Int.reduceAdd, Int.reduceSub, Wt]
            exact ⟨by omega, _, by omega, k + 1, by omega, ew, rfl⟩
          · have c2 : decide ((k : Int) > 0) = true := decide_eq_true (by omega)
            have c3 : IntKind.i64.wrap ((k : Int) - 1) = ((k - 1 : Nat) : Int) := by
              rw [IntWalk.i64_in _ (by omega)]
              omega
            have e0 := getD_map' (l := vv) (k := k - 1) GVerb.cs default [] (by omega)
            have c4 := hls k (by omega) (by omega)
            try simp (disch := omega) only [hf2, hH2, List.length_map, hlen, e1, e0, GVerb.cs, c1, c2, c3, c4, c5, ne_far, ne_far', ne_at, ne_at', far_far, far_at, at_far, lt_far, ↓Wd0, Wr0, Wr1, opnds, ofVal, ofValC, PV.cells, PV.one, PV.fit, partE, setL, pickE, intE, strE, eqC, eqCs, kindOK, aggEqE, binE, unaE, convE, fieldE, faddrE, iaddrE, indexE, loE, sliceE, nilE, fillP, buildE, elemsE, bslE, lenE, appE, stripC, strip1, strip1L, strip, tupV, resV, convT, convN, sliceB, sliceA, sliceO, convB, clearE, appB, lookE, insE, keyOK, rangeE, reduceCtorEq, ↓reduceIte, Nat.reduceAdd, Nat.reduceMul, Nat.reduceSub, Nat.reduceEqDiff, Nat.reduceLeDiff, Nat.reduceBEq, Int.reduceToNat, Nat.reduceLT, Int.reduceBEq, Int.reduceBNe, Int.reduceLT, Int.reduceLE, Int.reduceGT, Int.reduceGE, UInt8.reduceToNat, Int.reduceNeg, Int.reduceAdd, Int.reduceSub, Wt]
            exact ⟨by omega, by omega, by omega, _, by omega, k + 1, by omega, ew, rfl⟩
      · try simp (disch := omega) only [hf2, hH2, List.length_map, hlen, ne_far, ne_far', ne_at, ne_at', far_far, far_at, at_far, lt_far, ↓Wd0, Wr0, Wr1, opnds, ofVal, ofValC, PV.cells, PV.one, PV.fit, partE, setL, pickE, intE, strE, eqC, eqCs, kindOK, aggEqE, binE, unaE, convE, fieldE, faddrE, iaddrE, indexE, loE, sliceE, nilE, fillP, buildE, elemsE, bslE, lenE, appE, stripC, strip1, strip1L, strip, tupV, resV, convT, convN, sliceB, sliceA, sliceO, convB, clearE, appB, lookE, insE, keyOK, rangeE, reduceCtorEq, ↓reduceIte, Nat.reduceAdd, Nat.reduceMul, Nat.reduceSub, Nat.reduceEqDiff, Nat.reduceLeDiff, Nat.reduceBEq, Int.reduceToNat, Nat.reduceLT, Int.reduceBEq, Int.reduceBNe, Int.reduceLT, Int.reduceLE, Int.reduceGT, Int.reduceGE, UInt8.reduceToNat, Int.reduceNeg, Int.reduceAdd, Int.reduceSub, Wt]
end Go.Proofs.Ytlapmahiabcbmaa
