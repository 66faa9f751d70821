import Derived.Test.YtmdijfchljgdaaaLb
import Derived.Test.YtmdijfchljgdaaaTab
import Derived.Test.YtmdijfchljgdaaaDec
/-! What Clone comes to here. -/
set_option linter.unusedSimpArgs false
set_option linter.unusedVariables false
set_option maxHeartbeats 4000000
namespace Go.Proofs.Ytmdijfchljgdaaa
open Go.RowKit
theorem clone_none_calls (A : Option Addr) (c : Nat) (w : World) (hA : A = none → c = 0) :
    Calls Try.prog 29 #[.slice A 0 c] w fun e w' => ∃ v', e = .returned v' ∧ w'.ownsRow w.heap.size 28 13 v' 0 [] ∧ Below w.heap.size w w' := by
  have q22 : ∀ (w : World) (a : Option Addr) (n c n' c' : Nat), (binOp .eql 22 (.slice a n c) (.slice none n' c')).run Try.prog w = .ok (.bool a.isNone) w := fun w a n c n' c' => Lib.run_eql_slice_nil w _ _ a n c n' c' Try.underlying22
  cases A with
  | none =>
    obtain rfl := hA rfl
    clear hA
    go_enter Try.func29, Try.ntmps29
    go_wp2
    go_ret
    exact ⟨_, rfl, World.ownsRow_nil w w.heap.size _ 13, Below.refl _ _⟩
  | some a =>
    clear hA
    go_enter Try.func29, Try.ntmps29
    go_wp2
    go_ret
    exact ⟨_, rfl, World.ownsRow_made w #[] 0 (Nat.le_refl _) (Nat.zero_le _) rfl, (Below.refl _ _).alloc (Nat.le_refl _) _⟩
theorem clone_none : CallsTo Try.prog 29 [.sl 1 []] (.sl 1 []) [] := by
  refine ⟨by kernel_rfl, fun w S vs hS hlen hrel => ?_⟩
  obtain ⟨v, rfl⟩ := List.length_eq_one_iff.1 hlen
  have h := hrel 0 _ rfl
  simp only [List.getD_cons_zero] at h
  cases h with
  | sl _ _ A c k u ht h0 hn hc hm hk hone hcell hr =>
    refine (clone_none_calls A c w (fun hA => (hn hA).2)).mono ?_
    rintro e w' ⟨v', rfl, ho, hb⟩
    refine row_ends hS ho hb 0 ?_
    have := own_rel (S := S) (xs := ([] : List (List PV))) (u := fun _ _ => .bool false) ho (by simp) (fun x hx => by simp at hx) (fun _ _ => rfl) (fun i j x p hx hp => by simp at hx)
    exact this
theorem clone_some (l : List GHole) (hne : l ≠ []) (hl : l.length ≤ 1000000) : CallsTo Try.prog 29 [.sl 1 (l.map GHole.cs)] (.sl 2 (l.map GHole.cs)) [(2, 28, 13, l.length)] := by
  have h1 : l.map GHole.cs ≠ [] := by simpa using hne
  refine callsTo_ofT mixed Try.func29 rfl Try.ntmps29 Try.results29 (by kernel_rfl) (by kernel_rfl) (by simp) (by simp) [5] ?_
  simp only [↓Wd0, Wr0, Wr1, opnds, ofVal, ofValC, PV.cells, PV.one, PV.fit, partE, setL, pickE, intE, strE, eqC, eqCs, kindOK, aggEqE, binE, unaE, convE, fieldE, faddrE, iaddrE, indexE, loE, sliceE, nilE, fillP, buildE, elemsE, bslE, lenE, appE, stripC, strip1, strip1L, strip, tupV, resV, convT, convN, sliceB, sliceA, sliceO, convB, clearE, appB, lookE, insE, keyOK, reduceCtorEq, ↓reduceIte, Nat.reduceAdd, Nat.reduceMul, Nat.reduceSub, Nat.reduceEqDiff, Nat.reduceLeDiff, Nat.reduceBEq, Int.reduceToNat, Nat.reduceLT, Int.reduceBEq, Int.reduceBNe, Int.reduceLT, Int.reduceLE, Int.reduceGT, Int.reduceGE, UInt8.reduceToNat, Int.reduceNeg, Int.reduceAdd, Int.reduceSub, Wt]
  try simp only [h1, ↓Wd0, Wr0, Wr1, opnds, ofVal, ofValC, PV.cells, PV.one, PV.fit, partE, setL, pickE, intE, strE, eqC, eqCs, kindOK, aggEqE, binE, unaE, convE, fieldE, faddrE, iaddrE, indexE, loE, sliceE, nilE, fillP, buildE, elemsE, bslE, lenE, appE, stripC, strip1, strip1L, strip, tupV, resV, convT, convN, sliceB, sliceA, sliceO, convB, clearE, appB, lookE, insE, keyOK, reduceCtorEq, ↓reduceIte, Nat.reduceAdd, Nat.reduceMul, Nat.reduceSub, Nat.reduceEqDiff, Nat.reduceLeDiff, Nat.reduceBEq, Int.reduceToNat, Nat.reduceLT, Int.reduceBEq, Int.reduceBNe, Int.reduceLT, Int.reduceLE, Int.reduceGT, Int.reduceGE, UInt8.reduceToNat, Int.reduceNeg, Int.reduceAdd, Int.reduceSub, Wt]
  refine ⟨⟨fun y hy => by obtain ⟨x, _, rfl⟩ := List.mem_map.1 hy; rfl, by omega, by omega⟩, fun _ => 48, ?_, ?_, id⟩
  · simp [finE, fin1, finL, finC]
  · simp
end Go.Proofs.Ytmdijfchljgdaaa
