import Derived.Test.YtbpagmhhjbcceaaTab
import Derived.Test.YtbpagmhhjbcceaaDec
import Derived.Test.YtbpagmhhjbcceaaLb
import Derived.Lib.IndexAny
/-! What the functions of Go's library come to here. -/
set_option linter.unusedSimpArgs false
set_option linter.unusedVariables false
namespace Go.Proofs.Ytbpagmhhjbcceaa
open Go.RowKit

set_option maxHeartbeats 1000000 in
set_option maxRecDepth 100000 in
theorem lite_byte (s : ByteArray) (c : Int) (w : World) : Calls Try.prog 35 #[.string s, .int .u8 c] w fun e w' => e = .returned (.int .i64 (Lib.indexByte s.data.toList c.toNat.toUInt8)) ∧ w' = w := by
  go_enter Try.func35, Try.ntmps35
  go_wp2
  rw [run_callFunc_extern Try.func37 (by kernel_rfl) (by kernel_rfl) (by kernel_rfl) (e := Extern.BytealgIndexByte.indexByte) (by kernel_rfl), Lib.run_indexByteString]
  simp only [Result.andThen]
  rw [Oper.upon_value]
  go_wp2
  go_ret
  exact ⟨rfl, rfl⟩
set_option maxHeartbeats 1000000 in
theorem byte_calls (s : ByteArray) (c : Int) (w : World) : Calls Try.prog 33 #[.string s, .int .u8 c] w fun e w' => e = .returned (.int .i64 (Lib.indexByte s.data.toList c.toNat.toUInt8)) ∧ w' = w := by
  go_enter Try.func33, Try.ntmps33
  go_wp2_with (go_at_call 35; refine (lite_byte _ _ _).mono ?_; rintro e w' ⟨rfl, rfl⟩)
  go_ret
  exact ⟨rfl, rfl⟩
theorem indexByte_to (l : List UInt8) (c : UInt8) : CallsTo Try.prog 33 [.str l, .int .u8 c.toNat] (.int .i64 (Lib.indexByte l c)) [] :=
  callsTo_same (by kernel_rfl) rfl rfl fun w => by
    have := byte_calls ⟨l.toArray⟩ (c.toNat : Int) w
    simpa using this
theorem clone_none_calls (A : Option Addr) (c : Nat) (w : World) (hA : A = none → c = 0) :
    Calls Try.prog 20 #[.slice A 0 c] w fun e w' => ∃ v', e = .returned v' ∧ w'.ownsRow w.heap.size 9 1 v' 0 [] ∧ Below w.heap.size w w' := by
  have q22 : ∀ (w : World) (a : Option Addr) (n c n' c' : Nat), (binOp .eql 22 (.slice a n c) (.slice none n' c')).run Try.prog w = .ok (.bool a.isNone) w := fun w a n c n' c' => Lib.run_eql_slice_nil w _ _ a n c n' c' Try.underlying22
  cases A with
  | none =>
    obtain rfl := hA rfl
    clear hA
    go_enter Try.func20, Try.ntmps20
    go_wp2
    go_ret
    exact ⟨_, rfl, World.ownsRow_nil w w.heap.size _ 1, Below.refl _ _⟩
  | some a =>
    clear hA
    go_enter Try.func20, Try.ntmps20
    go_wp2
    go_ret
    exact ⟨_, rfl, World.ownsRow_made w #[] 0 (Nat.le_refl _) (Nat.zero_le _) rfl, (Below.refl _ _).alloc (Nat.le_refl _) _⟩
theorem clone_tok_none : CallsTo Try.prog 20 [.sl 1 []] (.sl 2 []) [(2, 9, 1, 0)] := by
  refine ⟨by kernel_rfl, fun w S vs hS hlen hrel => ?_⟩
  obtain ⟨v, rfl⟩ := List.length_eq_one_iff.1 hlen
  have h := hrel 0 _ rfl
  simp only [List.getD_cons_zero] at h
  cases h with
  | sl _ _ A c k u ht h0 hn hc hm hk hone hcell hr =>
    refine (clone_none_calls A c w (fun hA => (hn hA).2)).mono ?_
    rintro e w' ⟨v', rfl, ho, hb⟩
    have hcr := own_rel (S := S) (xs := ([] : List (List PV))) (u := fun _ _ => .bool false) ho (by simp) (fun x hx => by simp at hx) (fun _ _ => rfl) (fun i j x p hx hp => by simp at hx)
    have hS0 : (fun a => S a ∨ ownS v' (0 * 1) a) = S := funext fun a => propext ⟨(fun h => h.elim id (fun h => by simp [ownS] at h)), .inl⟩
    rw [hS0] at hcr
    refine ⟨v', S, fun _ => v', rfl, hb, fun a ha => Iff.rfl, fun a hs => ⟨Nat.lt_of_lt_of_le (hS a hs).1 hb.size, (hS a hs).2⟩, .tok 2 [] v' (by omega) (show 2 < 8 by omega) rfl hcr, (fun h => by simp at h), fun t e k n hm => ?_, fun x hx y hy hne => ?_⟩
    · simp only [List.mem_singleton, Prod.mk.injEq] at hm
      obtain ⟨rfl, rfl, rfl, rfl⟩ := hm
      refine ⟨by omega, [], by omega, ho, fun a ha _ hs => ?_⟩
      rcases ho.2 with ⟨h, _⟩ | ⟨g, c2, cur, h, hB, _⟩
      · simp only [h] at ha
        cases ha
      · simp only [h] at ha
        have := (hS a hs).1
        have e : g = a.block := by simpa [blk] using ha
        omega
    · simp only [List.mem_singleton] at hx hy
      exact absurd (hx.trans hy.symm) hne
theorem clone_some (l : List (List UInt8)) (hne : l ≠ []) (hl : l.length ≤ 1000000) : CallsTo Try.prog 20 [.sl 1 (l.map textE)] (.sl 2 (l.map textE)) [(2, 9, 1, l.length)] := by
  have h1 : l.map textE ≠ [] := by simpa using hne
  refine callsTo_ofT mixed Try.func20 rfl Try.ntmps20 Try.results20 (by kernel_rfl) (by kernel_rfl) (by simp) (by simp) [5] ?_
  simp only [↓Wd0, Wr0, Wr1, opnds, ofVal, ofValC, PV.cells, PV.one, PV.fit, partE, setL, pickE, intE, strE, eqC, eqCs, kindOK, aggEqE, binE, unaE, convE, fieldE, faddrE, iaddrE, indexE, loE, sliceE, nilE, fillP, buildE, elemsE, bslE, lenE, appE, stripC, strip1, strip1L, strip, tupV, resV, convT, convN, sliceB, sliceA, sliceO, convB, clearE, appB, lookE, insE, keyOK, reduceCtorEq, ↓reduceIte, Nat.reduceAdd, Nat.reduceMul, Nat.reduceSub, Nat.reduceEqDiff, Nat.reduceLeDiff, Nat.reduceBEq, Int.reduceToNat, Nat.reduceLT, Int.reduceBEq, Int.reduceBNe, Int.reduceLT, Int.reduceLE, Int.reduceGT, Int.reduceGE, UInt8.reduceToNat, Int.reduceNeg, Int.reduceAdd, Int.reduceSub, Wt]
  try simp only [h1, ↓Wd0, Wr0, Wr1, opnds, ofVal, ofValC, PV.cells, PV.one, PV.fit, partE, setL, pickE, intE, strE, eqC, eqCs, kindOK, aggEqE, binE, unaE, convE, fieldE, faddrE, iaddrE, indexE, loE, sliceE, nilE, fillP, buildE, elemsE, bslE, lenE, appE, stripC, strip1, strip1L, strip, tupV, resV, convT, convN, sliceB, sliceA, sliceO, convB, clearE, appB, lookE, insE, keyOK, reduceCtorEq, ↓reduceIte, Nat.reduceAdd, Nat.reduceMul, Nat.reduceSub, Nat.reduceEqDiff, Nat.reduceLeDiff, Nat.reduceBEq, Int.reduceToNat, Nat.reduceLT, Int.reduceBEq, Int.reduceBNe, Int.reduceLT, Int.reduceLE, Int.reduceGT, Int.reduceGE, UInt8.reduceToNat, Int.reduceNeg, Int.reduceAdd, Int.reduceSub, Wt]
  refine ⟨⟨by omega, by omega⟩, fun _ => 48, ?_, ?_, id⟩
  · simp [finE, fin1, finL, finC]
  · simp
theorem clone_tok (l : List (List UInt8)) (hl : l.length ≤ 1000000) : CallsTo Try.prog 20 [.sl 1 (l.map textE)] (.sl 2 (l.map textE)) [(2, 9, 1, l.length)] := by
  by_cases hne : l = []
  · subst hne
    exact clone_tok_none
  · exact clone_some l hne hl
theorem len_ne {α : Type} [BEq α] [LawfulBEq α] {l m : List α} (h : ¬ l.length = m.length) : (l == m) = false := by
  rw [beq_eq_false_iff_ne]
  exact fun e => h (by rw [e])
theorem equal_to (l m : List (List UInt8)) (hl : l.length ≤ 1000000) : CallsTo Try.prog 24 [.sl 1 (l.map textE), .sl 1 (m.map textE)] (.bool (l == m)) [] := by
  refine callsTo_of mixed Try.func24 rfl Try.ntmps24 Try.results24 (by kernel_rfl) (by kernel_rfl) (by simp) [] ?_
  simp only [↓Wd0, Wr0, Wr1, opnds, ofVal, ofValC, PV.cells, PV.one, PV.fit, partE, setL, pickE, intE, strE, eqC, eqCs, kindOK, aggEqE, binE, unaE, convE, fieldE, faddrE, iaddrE, indexE, loE, sliceE, nilE, fillP, buildE, elemsE, bslE, lenE, appE, stripC, strip1, strip1L, strip, tupV, resV, convT, convN, sliceB, sliceA, sliceO, convB, clearE, appB, lookE, insE, keyOK, reduceCtorEq, ↓reduceIte, Nat.reduceAdd, Nat.reduceMul, Nat.reduceSub, Nat.reduceEqDiff, Nat.reduceLeDiff, Nat.reduceBEq, Int.reduceToNat, Nat.reduceLT, Int.reduceBEq, Int.reduceBNe, Int.reduceLT, Int.reduceLE, Int.reduceGT, Int.reduceGE, UInt8.reduceToNat, Int.reduceNeg, Int.reduceAdd, Int.reduceSub, Wt]
  try simp only [List.length_map, ↓Wd0, Wr0, Wr1, opnds, ofVal, ofValC, PV.cells, PV.one, PV.fit, partE, setL, pickE, intE, strE, eqC, eqCs, kindOK, aggEqE, binE, unaE, convE, fieldE, faddrE, iaddrE, indexE, loE, sliceE, nilE, fillP, buildE, elemsE, bslE, lenE, appE, stripC, strip1, strip1L, strip, tupV, resV, convT, convN, sliceB, sliceA, sliceO, convB, clearE, appB, lookE, insE, keyOK, reduceCtorEq, ↓reduceIte, Nat.reduceAdd, Nat.reduceMul, Nat.reduceSub, Nat.reduceEqDiff, Nat.reduceLeDiff, Nat.reduceBEq, Int.reduceToNat, Nat.reduceLT, Int.reduceBEq, Int.reduceBNe, Int.reduceLT, Int.reduceLE, Int.reduceGT, Int.reduceGE, UInt8.reduceToNat, Int.reduceNeg, Int.reduceAdd, Int.reduceSub, Wt]
  refine ifD (fun hb => ?_) (fun hb => ?_)
  · try simp only [List.length_map, ↓Wd0, Wr0, Wr1, opnds, ofVal, ofValC, PV.cells, PV.one, PV.fit, partE, setL, pickE, intE, strE, eqC, eqCs, kindOK, aggEqE, binE, unaE, convE, fieldE, faddrE, iaddrE, indexE, loE, sliceE, nilE, fillP, buildE, elemsE, bslE, lenE, appE, stripC, strip1, strip1L, strip, tupV, resV, convT, convN, sliceB, sliceA, sliceO, convB, clearE, appB, lookE, insE, keyOK, reduceCtorEq, ↓reduceIte, Nat.reduceAdd, Nat.reduceMul, Nat.reduceSub, Nat.reduceEqDiff, Nat.reduceLeDiff, Nat.reduceBEq, Int.reduceToNat, Nat.reduceLT, Int.reduceBEq, Int.reduceBNe, Int.reduceLT, Int.reduceLE, Int.reduceGT, Int.reduceGE, UInt8.reduceToNat, Int.reduceNeg, Int.reduceAdd, Int.reduceSub, Wt]
    exact (len_ne (by have := bne_iff_ne.1 hb; omega)).symm
  · have hlm : l.length = m.length := by have := bne_eq_false_iff_eq.1 hb; omega
    try simp only [List.length_map, ↓Wd0, Wr0, Wr1, opnds, ofVal, ofValC, PV.cells, PV.one, PV.fit, partE, setL, pickE, intE, strE, eqC, eqCs, kindOK, aggEqE, binE, unaE, convE, fieldE, faddrE, iaddrE, indexE, loE, sliceE, nilE, fillP, buildE, elemsE, bslE, lenE, appE, stripC, strip1, strip1L, strip, tupV, resV, convT, convN, sliceB, sliceA, sliceO, convB, clearE, appB, lookE, insE, keyOK, reduceCtorEq, ↓reduceIte, Nat.reduceAdd, Nat.reduceMul, Nat.reduceSub, Nat.reduceEqDiff, Nat.reduceLeDiff, Nat.reduceBEq, Int.reduceToNat, Nat.reduceLT, Int.reduceBEq, Int.reduceBNe, Int.reduceLT, Int.reduceLE, Int.reduceGT, Int.reduceGE, UInt8.reduceToNat, Int.reduceNeg, Int.reduceAdd, Int.reduceSub, Wt]
    refine loopD (M := []) mixed (by kernel_rfl) [4, 5, 13, 14, 15, 16, 17, 18, 19, 20, 21, 22, 23, 24, 25] (by kernel_rfl) (fun n f H N => ∃ k : Nat, k ≤ l.length ∧ f 13 = .int .i64 k ∧ n = l.length - k ∧ (l == m) = (l.drop k == m.drop k)) ⟨_, 0, by omega, rfl, rfl, rfl⟩ ?_
    rintro n f H N ⟨k, hk, hf, rfl, hc⟩
    try simp (disch := omega) only [hf, List.length_map, ne_far, ne_far', ne_at, ne_at', far_far, far_at, at_far, lt_far, ↓Wd0, Wr0, Wr1, opnds, ofVal, ofValC, PV.cells, PV.one, PV.fit, partE, setL, pickE, intE, strE, eqC, eqCs, kindOK, aggEqE, binE, unaE, convE, fieldE, faddrE, iaddrE, indexE, loE, sliceE, nilE, fillP, buildE, elemsE, bslE, lenE, appE, stripC, strip1, strip1L, strip, tupV, resV, convT, convN, sliceB, sliceA, sliceO, convB, clearE, appB, lookE, insE, keyOK, reduceCtorEq, ↓reduceIte, Nat.reduceAdd, Nat.reduceMul, Nat.reduceSub, Nat.reduceEqDiff, Nat.reduceLeDiff, Nat.reduceBEq, Int.reduceToNat, Nat.reduceLT, Int.reduceBEq, Int.reduceBNe, Int.reduceLT, Int.reduceLE, Int.reduceGT, Int.reduceGE, UInt8.reduceToNat, Int.reduceNeg, Int.reduceAdd, Int.reduceSub, Wt]
    refine ifD (fun hb => ?_) (fun hb => ?_)
    · have hb' : (k : Int) < l.length := of_decide_eq_true hb
      have ew := wrap_succ (k := k) (by omega)
      have e := getD_map' (l := l) (k := k) textE [] [] hb'
      have e' := getD_map' (l := m) (k := k) textE [] [] (by omega)
      rw [drop_eq (l := l) (k := k) [] hb', drop_eq (l := m) (k := k) [] (by omega), List.cons_beq_cons] at hc
      try simp (disch := omega) only [hf, e, e', textE, List.length_map, ne_far, ne_far', ne_at, ne_at', far_far, far_at, at_far, lt_far, ↓Wd0, Wr0, Wr1, opnds, ofVal, ofValC, PV.cells, PV.one, PV.fit, partE, setL, pickE, intE, strE, eqC, eqCs, kindOK, aggEqE, binE, unaE, convE, fieldE, faddrE, iaddrE, indexE, loE, sliceE, nilE, fillP, buildE, elemsE, bslE, lenE, appE, stripC, strip1, strip1L, strip, tupV, resV, convT, convN, sliceB, sliceA, sliceO, convB, clearE, appB, lookE, insE, keyOK, reduceCtorEq, ↓reduceIte, Nat.reduceAdd, Nat.reduceMul, Nat.reduceSub, Nat.reduceEqDiff, Nat.reduceLeDiff, Nat.reduceBEq, Int.reduceToNat, Nat.reduceLT, Int.reduceBEq, Int.reduceBNe, Int.reduceLT, Int.reduceLE, Int.reduceGT, Int.reduceGE, UInt8.reduceToNat, Int.reduceNeg, Int.reduceAdd, Int.reduceSub, Wt]
      refine ⟨by omega, by omega, ?_⟩
      refine ifD (fun hb => ?_) (fun hb => ?_)
      · try simp (disch := omega) only [hf, ne_far, ne_far', ne_at, ne_at', far_far, far_at, at_far, lt_far, ↓Wd0, Wr0, Wr1, opnds, ofVal, ofValC, PV.cells, PV.one, PV.fit, partE, setL, pickE, intE, strE, eqC, eqCs, kindOK, aggEqE, binE, unaE, convE, fieldE, faddrE, iaddrE, indexE, loE, sliceE, nilE, fillP, buildE, elemsE, bslE, lenE, appE, stripC, strip1, strip1L, strip, tupV, resV, convT, convN, sliceB, sliceA, sliceO, convB, clearE, appB, lookE, insE, keyOK, reduceCtorEq, ↓reduceIte, Nat.reduceAdd, Nat.reduceMul, Nat.reduceSub, Nat.reduceEqDiff, Nat.reduceLeDiff, Nat.reduceBEq, Int.reduceToNat, Nat.reduceLT, Int.reduceBEq, Int.reduceBNe, Int.reduceLT, Int.reduceLE, Int.reduceGT, Int.reduceGE, UInt8.reduceToNat, Int.reduceNeg, Int.reduceAdd, Int.reduceSub, Wt]
        rw [hc]
        simp only [Bool.not_eq_true'] at hb
        rw [hb]
        rfl
      · try simp (disch := omega) only [hf, ne_far, ne_far', ne_at, ne_at', far_far, far_at, at_far, lt_far, ↓Wd0, Wr0, Wr1, opnds, ofVal, ofValC, PV.cells, PV.one, PV.fit, partE, setL, pickE, intE, strE, eqC, eqCs, kindOK, aggEqE, binE, unaE, convE, fieldE, faddrE, iaddrE, indexE, loE, sliceE, nilE, fillP, buildE, elemsE, bslE, lenE, appE, stripC, strip1, strip1L, strip, tupV, resV, convT, convN, sliceB, sliceA, sliceO, convB, clearE, appB, lookE, insE, keyOK, reduceCtorEq, ↓reduceIte, Nat.reduceAdd, Nat.reduceMul, Nat.reduceSub, Nat.reduceEqDiff, Nat.reduceLeDiff, Nat.reduceBEq, Int.reduceToNat, Nat.reduceLT, Int.reduceBEq, Int.reduceBNe, Int.reduceLT, Int.reduceLE, Int.reduceGT, Int.reduceGE, UInt8.reduceToNat, Int.reduceNeg, Int.reduceAdd, Int.reduceSub, Wt]
        simp only [Bool.not_eq_false'] at hb
        exact ⟨_, by omega, k + 1, by omega, ew, rfl, by rw [hc, hb, Bool.true_and]⟩
    · try simp (disch := omega) only [hf, ne_far, ne_far', ne_at, ne_at', far_far, far_at, at_far, lt_far, ↓Wd0, Wr0, Wr1, opnds, ofVal, ofValC, PV.cells, PV.one, PV.fit, partE, setL, pickE, intE, strE, eqC, eqCs, kindOK, aggEqE, binE, unaE, convE, fieldE, faddrE, iaddrE, indexE, loE, sliceE, nilE, fillP, buildE, elemsE, bslE, lenE, appE, stripC, strip1, strip1L, strip, tupV, resV, convT, convN, sliceB, sliceA, sliceO, convB, clearE, appB, lookE, insE, keyOK, reduceCtorEq, ↓reduceIte, Nat.reduceAdd, Nat.reduceMul, Nat.reduceSub, Nat.reduceEqDiff, Nat.reduceLeDiff, Nat.reduceBEq, Int.reduceToNat, Nat.reduceLT, Int.reduceBEq, Int.reduceBNe, Int.reduceLT, Int.reduceLE, Int.reduceGT, Int.reduceGE, UInt8.reduceToNat, Int.reduceNeg, Int.reduceAdd, Int.reduceSub, Wt]
      rw [hc, drop_end (by have := of_decide_eq_false hb; omega), drop_end (by have := of_decide_eq_false hb; omega)]
      rfl
/-- Whether a text begins by another. -/
def pre (p s : List UInt8) : Bool := s.take p.length == p
theorem litePre_to (s p : List UInt8) : CallsTo Try.prog 36 [.str s, .str p] (.bool (pre p s)) [] := by
  refine callsTo_of mixed Try.func36 rfl Try.ntmps36 Try.results36 (by kernel_rfl) (by kernel_rfl) (by simp) [] ?_
  simp only [↓Wd0, Wr0, Wr1, opnds, ofVal, ofValC, PV.cells, PV.one, PV.fit, partE, setL, pickE, intE, strE, eqC, eqCs, kindOK, aggEqE, binE, unaE, convE, fieldE, faddrE, iaddrE, indexE, loE, sliceE, nilE, fillP, buildE, elemsE, bslE, lenE, appE, stripC, strip1, strip1L, strip, tupV, resV, convT, convN, sliceB, sliceA, sliceO, convB, clearE, appB, lookE, insE, keyOK, reduceCtorEq, ↓reduceIte, Nat.reduceAdd, Nat.reduceMul, Nat.reduceSub, Nat.reduceEqDiff, Nat.reduceLeDiff, Nat.reduceBEq, Int.reduceToNat, Nat.reduceLT, Int.reduceBEq, Int.reduceBNe, Int.reduceLT, Int.reduceLE, Int.reduceGT, Int.reduceGE, UInt8.reduceToNat, Int.reduceNeg, Int.reduceAdd, Int.reduceSub, Wt]
  repeat' (first | (refine ifD (fun hb => ?_) (fun hb => ?_) <;> (try simp only [decide_eq_true_eq, decide_eq_false_iff_not, Int.not_lt, Int.not_le, Bool.not_eq_true', Bool.not_eq_false', beq_iff_eq, beq_eq_false_iff_ne, bne_iff_ne, ne_eq, not_true_eq_false, not_false_eq_true, reduceCtorEq, eq_self] at hb) <;> (try simp only [↓Wd0, Wr0, Wr1, opnds, ofVal, ofValC, PV.cells, PV.one, PV.fit, partE, setL, pickE, intE, strE, eqC, eqCs, kindOK, aggEqE, binE, unaE, convE, fieldE, faddrE, iaddrE, indexE, loE, sliceE, nilE, fillP, buildE, elemsE, bslE, lenE, appE, stripC, strip1, strip1L, strip, tupV, resV, convT, convN, sliceB, sliceA, sliceO, convB, clearE, appB, lookE, insE, keyOK, reduceCtorEq, ↓reduceIte, Nat.reduceAdd, Nat.reduceMul, Nat.reduceSub, Nat.reduceEqDiff, Nat.reduceLeDiff, Nat.reduceBEq, Int.reduceToNat, Nat.reduceLT, Int.reduceBEq, Int.reduceBNe, Int.reduceLT, Int.reduceLE, Int.reduceGT, Int.reduceGE, UInt8.reduceToNat, Int.reduceNeg, Int.reduceAdd, Int.reduceSub, Wt])) | (with_reducible apply And.intro)) <;> (try (first | omega | (exfalso; omega) | exact cmp_r (by first | (simp; done) | (simp; omega)) | exact cmp_l (by kernel_rfl)))
  · rfl
  · unfold pre
    symm
    rw [beq_eq_false_iff_ne]
    intro e
    have := congrArg List.length e
    simp at this
    omega
def cutB (p s : List UInt8) : List UInt8 × Bool := if pre p s = true then (s.drop p.length, true) else (s, false)
def cutP (p s : List UInt8) : PV := .tup [.str (cutB p s).1, .bool (cutB p s).2]
theorem pre_len {p s : List UInt8} (h : pre p s = true) : p.length ≤ s.length := by
  have := congrArg List.length (beq_iff_eq.1 h)
  simp at this
  omega
theorem liteCut_to (s p : List UInt8) : CallsTo Try.prog 34 [.str s, .str p] (cutP p s) [] := by
  refine callsTo_of mixed Try.func34 rfl Try.ntmps34 Try.results34 (by kernel_rfl) (by kernel_rfl) (by simp) [] ?_
  simp only [↓Wd0, Wr0, Wr1, opnds, ofVal, ofValC, PV.cells, PV.one, PV.fit, partE, setL, pickE, intE, strE, eqC, eqCs, kindOK, aggEqE, binE, unaE, convE, fieldE, faddrE, iaddrE, indexE, loE, sliceE, nilE, fillP, buildE, elemsE, bslE, lenE, appE, stripC, strip1, strip1L, strip, tupV, resV, convT, convN, sliceB, sliceA, sliceO, convB, clearE, appB, lookE, insE, keyOK, reduceCtorEq, ↓reduceIte, Nat.reduceAdd, Nat.reduceMul, Nat.reduceSub, Nat.reduceEqDiff, Nat.reduceLeDiff, Nat.reduceBEq, Int.reduceToNat, Nat.reduceLT, Int.reduceBEq, Int.reduceBNe, Int.reduceLT, Int.reduceLE, Int.reduceGT, Int.reduceGE, UInt8.reduceToNat, Int.reduceNeg, Int.reduceAdd, Int.reduceSub, Wt]
  try simp only [↓Wd0, Wr0, Wr1, opnds, ofVal, ofValC, PV.cells, PV.one, PV.fit, partE, setL, pickE, intE, strE, eqC, eqCs, kindOK, aggEqE, binE, unaE, convE, fieldE, faddrE, iaddrE, indexE, loE, sliceE, nilE, fillP, buildE, elemsE, bslE, lenE, appE, stripC, strip1, strip1L, strip, tupV, resV, convT, convN, sliceB, sliceA, sliceO, convB, clearE, appB, lookE, insE, keyOK, reduceCtorEq, ↓reduceIte, Nat.reduceAdd, Nat.reduceMul, Nat.reduceSub, Nat.reduceEqDiff, Nat.reduceLeDiff, Nat.reduceBEq, Int.reduceToNat, Nat.reduceLT, Int.reduceBEq, Int.reduceBNe, Int.reduceLT, Int.reduceLE, Int.reduceGT, Int.reduceGE, UInt8.reduceToNat, Int.reduceNeg, Int.reduceAdd, Int.reduceSub, Wt]
  refine calD (litePre_to s p) ?_
  unfold cutP cutB
  cases h : pre p s with
  | false => try simp only [↓Wd0, Wr0, Wr1, opnds, ofVal, ofValC, PV.cells, PV.one, PV.fit, partE, setL, pickE, intE, strE, eqC, eqCs, kindOK, aggEqE, binE, unaE, convE, fieldE, faddrE, iaddrE, indexE, loE, sliceE, nilE, fillP, buildE, elemsE, bslE, lenE, appE, stripC, strip1, strip1L, strip, tupV, resV, convT, convN, sliceB, sliceA, sliceO, convB, clearE, appB, lookE, insE, keyOK, reduceCtorEq, ↓reduceIte, Nat.reduceAdd, Nat.reduceMul, Nat.reduceSub, Nat.reduceEqDiff, Nat.reduceLeDiff, Nat.reduceBEq, Int.reduceToNat, Nat.reduceLT, Int.reduceBEq, Int.reduceBNe, Int.reduceLT, Int.reduceLE, Int.reduceGT, Int.reduceGE, UInt8.reduceToNat, Int.reduceNeg, Int.reduceAdd, Int.reduceSub, Wt]
  | true =>
    have := pre_len h
    have e : List.drop p.length (List.take s.length s) = s.drop p.length := by rw [List.take_length]
    try simp only [e, ↓Wd0, Wr0, Wr1, opnds, ofVal, ofValC, PV.cells, PV.one, PV.fit, partE, setL, pickE, intE, strE, eqC, eqCs, kindOK, aggEqE, binE, unaE, convE, fieldE, faddrE, iaddrE, indexE, loE, sliceE, nilE, fillP, buildE, elemsE, bslE, lenE, appE, stripC, strip1, strip1L, strip, tupV, resV, convT, convN, sliceB, sliceA, sliceO, convB, clearE, appB, lookE, insE, keyOK, reduceCtorEq, ↓reduceIte, Nat.reduceAdd, Nat.reduceMul, Nat.reduceSub, Nat.reduceEqDiff, Nat.reduceLeDiff, Nat.reduceBEq, Int.reduceToNat, Nat.reduceLT, Int.reduceBEq, Int.reduceBNe, Int.reduceLT, Int.reduceLE, Int.reduceGT, Int.reduceGE, UInt8.reduceToNat, Int.reduceNeg, Int.reduceAdd, Int.reduceSub, Wt]
    exact ⟨⟨by omega, by omega⟩, by omega⟩
theorem cutPrefix_to (s p : List UInt8) : CallsTo Try.prog 32 [.str s, .str p] (cutP p s) [] := by
  refine callsTo_of mixed Try.func32 rfl Try.ntmps32 Try.results32 (by kernel_rfl) (by kernel_rfl) (by simp) [] ?_
  simp only [↓Wd0, Wr0, Wr1, opnds, ofVal, ofValC, PV.cells, PV.one, PV.fit, partE, setL, pickE, intE, strE, eqC, eqCs, kindOK, aggEqE, binE, unaE, convE, fieldE, faddrE, iaddrE, indexE, loE, sliceE, nilE, fillP, buildE, elemsE, bslE, lenE, appE, stripC, strip1, strip1L, strip, tupV, resV, convT, convN, sliceB, sliceA, sliceO, convB, clearE, appB, lookE, insE, keyOK, reduceCtorEq, ↓reduceIte, Nat.reduceAdd, Nat.reduceMul, Nat.reduceSub, Nat.reduceEqDiff, Nat.reduceLeDiff, Nat.reduceBEq, Int.reduceToNat, Nat.reduceLT, Int.reduceBEq, Int.reduceBNe, Int.reduceLT, Int.reduceLE, Int.reduceGT, Int.reduceGE, UInt8.reduceToNat, Int.reduceNeg, Int.reduceAdd, Int.reduceSub, Wt]
  try simp only [↓Wd0, Wr0, Wr1, opnds, ofVal, ofValC, PV.cells, PV.one, PV.fit, partE, setL, pickE, intE, strE, eqC, eqCs, kindOK, aggEqE, binE, unaE, convE, fieldE, faddrE, iaddrE, indexE, loE, sliceE, nilE, fillP, buildE, elemsE, bslE, lenE, appE, stripC, strip1, strip1L, strip, tupV, resV, convT, convN, sliceB, sliceA, sliceO, convB, clearE, appB, lookE, insE, keyOK, reduceCtorEq, ↓reduceIte, Nat.reduceAdd, Nat.reduceMul, Nat.reduceSub, Nat.reduceEqDiff, Nat.reduceLeDiff, Nat.reduceBEq, Int.reduceToNat, Nat.reduceLT, Int.reduceBEq, Int.reduceBNe, Int.reduceLT, Int.reduceLE, Int.reduceGT, Int.reduceGE, UInt8.reduceToNat, Int.reduceNeg, Int.reduceAdd, Int.reduceSub, Wt]
  refine calD (liteCut_to s p) ?_
  try simp only [cutP, ↓Wd0, Wr0, Wr1, opnds, ofVal, ofValC, PV.cells, PV.one, PV.fit, partE, setL, pickE, intE, strE, eqC, eqCs, kindOK, aggEqE, binE, unaE, convE, fieldE, faddrE, iaddrE, indexE, loE, sliceE, nilE, fillP, buildE, elemsE, bslE, lenE, appE, stripC, strip1, strip1L, strip, tupV, resV, convT, convN, sliceB, sliceA, sliceO, convB, clearE, appB, lookE, insE, keyOK, reduceCtorEq, ↓reduceIte, Nat.reduceAdd, Nat.reduceMul, Nat.reduceSub, Nat.reduceEqDiff, Nat.reduceLeDiff, Nat.reduceBEq, Int.reduceToNat, Nat.reduceLT, Int.reduceBEq, Int.reduceBNe, Int.reduceLT, Int.reduceLE, Int.reduceGT, Int.reduceGE, UInt8.reduceToNat, Int.reduceNeg, Int.reduceAdd, Int.reduceSub, Wt]
end Go.Proofs.Ytbpagmhhjbcceaa
