import Derived.Test.YtemlofepmphgiaaTab
import Derived.Test.YtemlofepmphgiaaDec
import Derived.Test.YtemlofepmphgiaaLb
import Derived.Lib.IndexAny
/-! What the functions of Go's library come to here. -/
set_option linter.unusedSimpArgs false
set_option linter.unusedVariables false
namespace Go.Proofs.Ytemlofepmphgiaa
open Go.RowKit

set_option maxHeartbeats 1000000 in
set_option maxRecDepth 100000 in
theorem lite_byte (s : ByteArray) (c : Int) (w : World) : Calls Try.prog 34 #[.string s, .int .u8 c] w fun e w' => e = .returned (.int .i64 (Lib.indexByte s.data.toList c.toNat.toUInt8)) ∧ w' = w := by
  go_enter Try.func34, Try.ntmps34
  go_wp2
  rw [run_callFunc_extern Try.func35 (by kernel_rfl) (by kernel_rfl) (by kernel_rfl) (e := Extern.BytealgIndexByte.indexByte) (by kernel_rfl), Lib.run_indexByteString]
  simp only [Result.andThen]
  rw [Oper.upon_value]
  go_wp2
  go_ret
  exact ⟨rfl, rfl⟩
set_option maxHeartbeats 1000000 in
theorem byte_calls (s : ByteArray) (c : Int) (w : World) : Calls Try.prog 30 #[.string s, .int .u8 c] w fun e w' => e = .returned (.int .i64 (Lib.indexByte s.data.toList c.toNat.toUInt8)) ∧ w' = w := by
  go_enter Try.func30, Try.ntmps30
  go_wp2_with (go_at_call 34; refine (lite_byte _ _ _).mono ?_; rintro e w' ⟨rfl, rfl⟩)
  go_ret
  exact ⟨rfl, rfl⟩
theorem indexByte_to (l : List UInt8) (c : UInt8) : CallsTo Try.prog 30 [.str l, .int .u8 c.toNat] (.int .i64 (Lib.indexByte l c)) [] :=
  callsTo_same (by kernel_rfl) rfl rfl fun w => by
    have := byte_calls ⟨l.toArray⟩ (c.toNat : Int) w
    simpa using this
/-! Runes of a text. -/
theorem get_byte (s : List UInt8) (i : Nat) : (⟨s.toArray⟩ : ByteArray).get! i = s.getD i 0 := by
  show s.toArray[i]! = _
  simp [List.getD_eq_getElem?_getD]
  rfl
theorem size_byte (s : List UInt8) : (⟨s.toArray⟩ : ByteArray).size = s.length := by simp [ByteArray.size]
theorem decode_lo {s : List UInt8} {pos : Nat} (hb : (s.getD pos 0).toNat < 128) : Utf8.decode ⟨s.toArray⟩ pos = ((s.getD pos 0).toNat, 1) := by
  unfold Utf8.decode
  simp only [get_byte, Nat.add_zero]
  rw [if_pos hb]
theorem decode_hi {s : List UInt8} {pos : Nat} (h : pos < s.length) (hb : 128 ≤ (s.getD pos 0).toNat) :
    (128 ≤ (Utf8.decode ⟨s.toArray⟩ pos).1 ∧ Utf8.valid ((Utf8.decode ⟨s.toArray⟩ pos).1 : Int) = true) ∧ (1 ≤ (Utf8.decode ⟨s.toArray⟩ pos).2 ∧ pos + (Utf8.decode ⟨s.toArray⟩ pos).2 ≤ s.length) ∧ ∀ j, pos < j → j < pos + (Utf8.decode ⟨s.toArray⟩ pos).2 → 128 ≤ (s.getD j 0).toNat := by
  have err : (128 ≤ Utf8.runeError ∧ Utf8.valid (Utf8.runeError : Int) = true) ∧ (1 ≤ 1 ∧ pos + 1 ≤ s.length) ∧ ∀ j, pos < j → j < pos + 1 → 128 ≤ (s.getD j 0).toNat := ⟨⟨by decide, by decide⟩, ⟨by omega, by omega⟩, fun j h1 h2 => by omega⟩
  unfold Utf8.decode
  simp only [get_byte, Nat.add_zero, size_byte]
  rw [if_neg (by omega)]
  split
  · rename_i h1
    simp only [Bool.and_eq_true, decide_eq_true_eq, beq_iff_eq] at h1
    split
    · rename_i h2
      refine ⟨⟨h2, ?_⟩, ⟨by omega, by omega⟩, fun j a b => ?_⟩
      · unfold Utf8.valid
        simp only [Bool.or_eq_true, Bool.and_eq_true, decide_eq_true_eq]
        omega
      · have : j = pos + 1 := by omega
        subst this
        omega
    · exact err
  · split
    · rename_i h1
      simp only [Bool.and_eq_true, decide_eq_true_eq, beq_iff_eq] at h1
      split
      · rename_i h2
        simp only [Bool.and_eq_true, decide_eq_true_eq] at h2
        refine ⟨⟨by omega, h2.2⟩, ⟨by omega, by omega⟩, fun j a b => ?_⟩
        obtain rfl | rfl : j = pos + 1 ∨ j = pos + 2 := by omega
        · omega
        · omega
      · exact err
    · split
      · rename_i h1
        simp only [Bool.and_eq_true, decide_eq_true_eq, beq_iff_eq] at h1
        split
        · rename_i h2
          simp only [Bool.and_eq_true, decide_eq_true_eq] at h2
          refine ⟨⟨by omega, h2.2⟩, ⟨by omega, by omega⟩, fun j a b => ?_⟩
          obtain rfl | rfl | rfl : j = pos + 1 ∨ j = pos + 2 ∨ j = pos + 3 := by omega
          · omega
          · omega
          · omega
        · exact err
      · exact err
theorem low_six (m : Nat) : 128 ≤ (UInt8.ofNat (128 + m % 64)).toNat := by
  simp
  omega
/-- A rune from 128 on is written by two bytes or more, the last of which is from 128 on. -/
theorem encode_hi {n : Nat} (h : 128 ≤ n) (hv : Utf8.valid (n : Int) = true) : ∃ k, (Utf8.encode (n : Int)).data.toList.length = k + 2 ∧ k + 2 ≤ 4 ∧ 128 ≤ ((Utf8.encode (n : Int)).data.toList.getD (k + 1) 0).toNat := by
  have b := low_six n
  simp only [Utf8.encode, hv, if_true, Int.toNat_natCast]
  rw [if_neg (by omega)]
  generalize UInt8.ofNat (128 + n % 64) = x at b ⊢
  split
  · exact ⟨0, by simp, by omega, by simpa using b⟩
  · split
    · exact ⟨1, by simp, by omega, by simpa using b⟩
    · exact ⟨2, by simp, by omega, by simpa using b⟩
theorem clone_none_calls (A : Option Addr) (c : Nat) (w : World) (hA : A = none → c = 0) :
    Calls Try.prog 17 #[.slice A 0 c] w fun e w' => ∃ v', e = .returned v' ∧ w'.ownsRow w.heap.size 5 1 v' 0 [] ∧ Below w.heap.size w w' := by
  have q22 : ∀ (w : World) (a : Option Addr) (n c n' c' : Nat), (binOp .eql 22 (.slice a n c) (.slice none n' c')).run Try.prog w = .ok (.bool a.isNone) w := fun w a n c n' c' => Lib.run_eql_slice_nil w _ _ a n c n' c' Try.underlying22
  cases A with
  | none =>
    obtain rfl := hA rfl
    clear hA
    go_enter Try.func17, Try.ntmps17
    go_wp2
    go_ret
    exact ⟨_, rfl, World.ownsRow_nil w w.heap.size _ 1, Below.refl _ _⟩
  | some a =>
    clear hA
    go_enter Try.func17, Try.ntmps17
    go_wp2
    go_ret
    exact ⟨_, rfl, World.ownsRow_made w #[] 0 (Nat.le_refl _) (Nat.zero_le _) rfl, (Below.refl _ _).alloc (Nat.le_refl _) _⟩
theorem clone_tok_none : CallsTo Try.prog 17 [.sl 1 []] (.sl 2 []) [(2, 5, 1, 0)] := by
  refine ⟨by kernel_rfl, fun w S vs hS hlen hrel => ?_⟩
  obtain ⟨v, rfl⟩ := List.length_eq_one_iff.1 hlen
  have h := hrel 0 _ rfl
  simp only [List.getD_cons_zero] at h
  cases h with
  | sl _ _ A c k u ht h0 hn hc hm hk hone hcell hr =>
    refine (clone_none_calls A c w (fun hA => (hn hA).2)).mono ?_
    rintro e w' ⟨v', rfl, ho, hb⟩
    have hcr := own_rel (S := S) (xs := ([] : List (List PV))) (u := fun _ _ => .bool false) ho (by simp) (fun x hx => by simp at hx) (fun _ _ => rfl) (fun i j x p hx hp => by simp at hx)
    have hS0 : (fun a => S a ∨ ownS v' (0 * 1) a) = S := funext fun a => propext ⟨(fun h => h.elim id (fun h => by simp [ownS] at h)), .inl⟩
    rw [hS0] at hcr
    refine ⟨v', S, fun _ => v', rfl, hb, fun a ha => Iff.rfl, fun a hs => ⟨Nat.lt_of_lt_of_le (hS a hs).1 hb.size, (hS a hs).2⟩, .tok 2 [] v' (by omega) (show 2 < 8 by omega) rfl hcr, (fun h => by simp at h), fun t e k n hm => ?_, fun x hx y hy hne => ?_⟩
    · simp only [List.mem_singleton, Prod.mk.injEq] at hm
      obtain ⟨rfl, rfl, rfl, rfl⟩ := hm
      refine ⟨by omega, [], by omega, ho, fun a ha _ hs => ?_⟩
      rcases ho.2 with ⟨h, _⟩ | ⟨g, c2, cur, h, hB, _⟩
      · simp only [h] at ha
        cases ha
      · simp only [h] at ha
        have := (hS a hs).1
        have e : g = a.block := by simpa [blk] using ha
        omega
    · simp only [List.mem_singleton] at hx hy
      exact absurd (hx.trans hy.symm) hne
theorem clone_some (l : List UInt8) (hne : l ≠ []) (hl : l.length ≤ 1000000) : CallsTo Try.prog 17 [.sl 1 (l.map byteE)] (.sl 2 (l.map byteE)) [(2, 5, 1, l.length)] := by
  have h1 : l.map byteE ≠ [] := by simpa using hne
  refine callsTo_ofT mixed Try.func17 rfl Try.ntmps17 Try.results17 (by kernel_rfl) (by kernel_rfl) (by simp) (by simp) [5] ?_
  simp only [↓Wd0, Wr0, Wr1, opnds, ofVal, ofValC, PV.cells, PV.one, PV.fit, partE, setL, pickE, intE, strE, eqC, eqCs, kindOK, aggEqE, binE, unaE, convE, fieldE, faddrE, iaddrE, indexE, loE, sliceE, nilE, fillP, buildE, elemsE, bslE, lenE, appE, stripC, strip1, strip1L, strip, tupV, resV, convT, convN, sliceB, sliceA, sliceO, convB, clearE, appB, lookE, insE, keyOK, rangeE, reduceCtorEq, ↓reduceIte, Nat.reduceAdd, Nat.reduceMul, Nat.reduceSub, Nat.reduceEqDiff, Nat.reduceLeDiff, Nat.reduceBEq, Int.reduceToNat, Nat.reduceLT, Int.reduceBEq, Int.reduceBNe, Int.reduceLT, Int.reduceLE, Int.reduceGT, Int.reduceGE, UInt8.reduceToNat, Int.reduceNeg, Int.reduceAdd, Int.reduceSub, Wt]
  try simp only [h1, Nat.zero_add, ↓Wd0, Wr0, Wr1, opnds, ofVal, ofValC, PV.cells, PV.one, PV.fit, partE, setL, pickE, intE, strE, eqC, eqCs, kindOK, aggEqE, binE, unaE, convE, fieldE, faddrE, iaddrE, indexE, loE, sliceE, nilE, fillP, buildE, elemsE, bslE, lenE, appE, stripC, strip1, strip1L, strip, tupV, resV, convT, convN, sliceB, sliceA, sliceO, convB, clearE, appB, lookE, insE, keyOK, rangeE, reduceCtorEq, ↓reduceIte, Nat.reduceAdd, Nat.reduceMul, Nat.reduceSub, Nat.reduceEqDiff, Nat.reduceLeDiff, Nat.reduceBEq, Int.reduceToNat, Nat.reduceLT, Int.reduceBEq, Int.reduceBNe, Int.reduceLT, Int.reduceLE, Int.reduceGT, Int.reduceGE, UInt8.reduceToNat, Int.reduceNeg, Int.reduceAdd, Int.reduceSub, Wt]
  refine ⟨⟨by omega, by omega⟩, fun _ => 48, ?_, ?_, id⟩
  · simp [finE, fin1, finL, finC]
  · simp
theorem clone_tok (l : List UInt8) (hl : l.length ≤ 1000000) : CallsTo Try.prog 17 [.sl 1 (l.map byteE)] (.sl 2 (l.map byteE)) [(2, 5, 1, l.length)] := by
  by_cases hne : l = []
  · subst hne
    exact clone_tok_none
  · exact clone_some l hne hl
theorem equal_to (a b : List UInt8) : CallsTo Try.prog 22 [.sl 1 (a.map byteE), .sl 1 (b.map byteE)] (.bool (a == b)) [] := by
  refine callsTo_of mixed Try.func22 rfl Try.ntmps22 Try.results22 (by kernel_rfl) (by kernel_rfl) (by simp) [] ?_
  simp only [↓Wd0, Wr0, Wr1, opnds, ofVal, ofValC, PV.cells, PV.one, PV.fit, partE, setL, pickE, intE, strE, eqC, eqCs, kindOK, aggEqE, binE, unaE, convE, fieldE, faddrE, iaddrE, indexE, loE, sliceE, nilE, fillP, buildE, elemsE, bslE, lenE, appE, stripC, strip1, strip1L, strip, tupV, resV, convT, convN, sliceB, sliceA, sliceO, convB, clearE, appB, lookE, insE, keyOK, rangeE, reduceCtorEq, ↓reduceIte, Nat.reduceAdd, Nat.reduceMul, Nat.reduceSub, Nat.reduceEqDiff, Nat.reduceLeDiff, Nat.reduceBEq, Int.reduceToNat, Nat.reduceLT, Int.reduceBEq, Int.reduceBNe, Int.reduceLT, Int.reduceLE, Int.reduceGT, Int.reduceGE, UInt8.reduceToNat, Int.reduceNeg, Int.reduceAdd, Int.reduceSub, Wt]
  try simp only [unE_bytes, ↓Wd0, Wr0, Wr1, opnds, ofVal, ofValC, PV.cells, PV.one, PV.fit, partE, setL, pickE, intE, strE, eqC, eqCs, kindOK, aggEqE, binE, unaE, convE, fieldE, faddrE, iaddrE, indexE, loE, sliceE, nilE, fillP, buildE, elemsE, bslE, lenE, appE, stripC, strip1, strip1L, strip, tupV, resV, convT, convN, sliceB, sliceA, sliceO, convB, clearE, appB, lookE, insE, keyOK, rangeE, reduceCtorEq, ↓reduceIte, Nat.reduceAdd, Nat.reduceMul, Nat.reduceSub, Nat.reduceEqDiff, Nat.reduceLeDiff, Nat.reduceBEq, Int.reduceToNat, Nat.reduceLT, Int.reduceBEq, Int.reduceBNe, Int.reduceLT, Int.reduceLE, Int.reduceGT, Int.reduceGE, UInt8.reduceToNat, Int.reduceNeg, Int.reduceAdd, Int.reduceSub, Wt]
end Go.Proofs.Ytemlofepmphgiaa
