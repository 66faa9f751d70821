import Derived.Test.YtbpagmhhjbcceaaJd
/-! What gathers a reply. -/
set_option linter.unusedSimpArgs false
set_option linter.unusedVariables false
set_option maxHeartbeats 4000000
set_option maxRecDepth 100000
namespace Go.Proofs.Ytbpagmhhjbcceaa
open Go.RowKit

def calmC : PV → Bool
  | .int _ _ => true
  | .bool _ => true
  | .str _ => true
  | .sl t _ => decide (t < 2)
  | _ => false
theorem calm_map {p : PV} (h : calmC p = true) (φ : Nat → Nat) : mapC φ p = p := by
  cases p with
  | sl t xs => exact if_pos (of_decide_eq_true h)
  | int k n => rfl
  | bool b => rfl
  | str l => rfl
  | _ => cases h
theorem calm_ok {p : PV} (h : calmC p = true) (Q : Nat → Prop) : okC Q p := by
  cases p with
  | sl t xs => exact fun h2 => absurd (of_decide_eq_true h) (by omega)
  | int k n => trivial
  | bool b => trivial
  | str l => trivial
  | _ => cases h
theorem calm_box {cs : List PV} (h : cs.all calmC = true) (φ : Nat → Nat) : mapO φ (.box cs) = .box cs := by
  have : cs.map (mapC φ) = cs := by
    conv => rhs; rw [← List.map_id cs]
    exact List.map_congr_left fun p hp => calm_map (List.all_eq_true.1 h p hp) φ
  show HObj.box (cs.map (mapC φ)) = .box cs
  rw [this]
theorem calm_okO {cs : List PV} (h : cs.all calmC = true) (Q : Nat → Prop) : okO Q (.box cs) := fun p hp => calm_ok (List.all_eq_true.1 h p hp) Q
theorem endI_box {nb N0 g : Nat} {H0 H : Nat → Option HObj} {hn : List Nat} {ps : List PV} {r : PV} {cs : List PV} (hr : r = tupV ps) (hm : ∀ φ, mapT φ r = r) (hok : ∀ Q, okT Q r) (hc : cs.all calmC = true) (hg : ¬ (nb ≤ g ∧ g < nb + 8)) (h1 : H g = some (.box cs)) (hold : ∀ x, x < N0 → x ≠ g → H x = H0 x) : EndI (some ps) r [(g, some (.box cs))] H0 H nb N0 hn := by
  refine ⟨_, fun _ => 0, rfl, (hm _).trans hr, hok _, fun x hx hw hxn => ?_, fun x hx o ho => ?_, fun x hx y hy _ _ h1 h2 _ _ hne => ?_⟩
  · exact hold x hx (fun e => hw _ (List.mem_singleton.2 rfl) e.symm)
  · simp only [List.mem_singleton] at hx
    subst hx
    cases ho
    exact ⟨by rw [phi_old hg, calm_box hc]; exact h1, calm_okO hc _⟩
  · simp only [List.mem_singleton] at hx
    subst hx
    exact absurd ⟨h1, h2⟩ hg
theorem fail_in (g : Nat) (e : Int) (x0 x1 x2 y0 y1 y2 : PV) (hy : [y0, y1, y2].all calmC = true) : InTo Try.prog 26 [.ptr g 0, .int .i64 e] [(g, .box [x0, x1, x2, y0, y1, y2])] (fun _ => .int .i64 e) (fun _ => [(g, some (.box [.int .i64 0, .sl 0 [], .bool false, y0, y1, y2]))]) := by
  refine inTo_of mixed Try.func26 rfl Try.ntmps26 Try.results26 (by kernel_rfl) (by kernel_rfl) (by simp) (by simp) [] (fun H0 N0 nb hH0 hN0 => ?_)
  have hbox := (hH0 (g, .box [x0, x1, x2, y0, y1, y2]) (by simp)).1
  have hgN := (hH0 (g, .box [x0, x1, x2, y0, y1, y2]) (by simp)).2.1
  have hgb := (hH0 (g, .box [x0, x1, x2, y0, y1, y2]) (by simp)).2.2
  simp only at hbox hgN hgb
  try simp only [hbox, ↓Wd0, Wr0, Wr1, opnds, ofVal, ofValC, PV.cells, PV.one, PV.fit, partE, setL, pickE, intE, strE, eqC, eqCs, kindOK, aggEqE, binE, unaE, convE, fieldE, faddrE, iaddrE, indexE, loE, sliceE, nilE, fillP, buildE, elemsE, bslE, lenE, appE, stripC, strip1, strip1L, strip, tupV, resV, convT, convN, sliceB, sliceA, sliceO, convB, clearE, appB, lookE, insE, keyOK, reduceCtorEq, ↓reduceIte, Nat.reduceAdd, Nat.reduceMul, Nat.reduceSub, Nat.reduceEqDiff, Nat.reduceLeDiff, Nat.reduceBEq, Int.reduceToNat, Nat.reduceLT, Int.reduceBEq, Int.reduceBNe, Int.reduceLT, Int.reduceLE, Int.reduceGT, Int.reduceGE, UInt8.reduceToNat, Int.reduceNeg, Int.reduceAdd, Int.reduceSub, Wt]
  refine endI_box rfl (fun _ => rfl) (fun _ => trivial) (by simpa [calmC] using hy) hgb ?_ ?_
  · rw [upd_same]
  · exact fun x hx hxn => upd_ne _ _ hxn
def failC : List PV := [.int .i64 0, .sl 0 [], .bool false, .int .i64 0, .sl 0 [], .bool false]
def doneC (code : Int) (L : PV) : List PV := [.int .i64 0, .sl 0 [], .bool false, .int .i64 code, L, .bool true]
def openC (code : Int) (L : PV) : List PV := [.int .i64 code, L, .bool true, .int .i64 0, .sl 0 [], .bool false]
theorem end_in (g : Nat) (code : Int) (ls : List (List PV)) (x0 x1 x2 y0 y1 y2 : PV) : InTo Try.prog 30 [.ptr g 0, .int .i64 code, .sl 1 ls] [(g, .box [x0, x1, x2, y0, y1, y2])] (fun _ => .tup []) (fun _ => [(g, some (.box (doneC code (.sl 1 ls))))]) := by
  refine inTo_of mixed Try.func30 rfl Try.ntmps30 Try.results30 (by kernel_rfl) (by kernel_rfl) (by simp) (by simp) [] (fun H0 N0 nb hH0 hN0 => ?_)
  have hbox := (hH0 (g, .box [x0, x1, x2, y0, y1, y2]) (by simp)).1
  have hgN := (hH0 (g, .box [x0, x1, x2, y0, y1, y2]) (by simp)).2.1
  have hgb := (hH0 (g, .box [x0, x1, x2, y0, y1, y2]) (by simp)).2.2
  simp only at hbox hgN hgb
  try simp only [hbox, ↓Wd0, Wr0, Wr1, opnds, ofVal, ofValC, PV.cells, PV.one, PV.fit, partE, setL, pickE, intE, strE, eqC, eqCs, kindOK, aggEqE, binE, unaE, convE, fieldE, faddrE, iaddrE, indexE, loE, sliceE, nilE, fillP, buildE, elemsE, bslE, lenE, appE, stripC, strip1, strip1L, strip, tupV, resV, convT, convN, sliceB, sliceA, sliceO, convB, clearE, appB, lookE, insE, keyOK, reduceCtorEq, ↓reduceIte, Nat.reduceAdd, Nat.reduceMul, Nat.reduceSub, Nat.reduceEqDiff, Nat.reduceLeDiff, Nat.reduceBEq, Int.reduceToNat, Nat.reduceLT, Int.reduceBEq, Int.reduceBNe, Int.reduceLT, Int.reduceLE, Int.reduceGT, Int.reduceGE, UInt8.reduceToNat, Int.reduceNeg, Int.reduceAdd, Int.reduceSub, Wt]
  refine endI_box rfl (fun _ => rfl) (fun _ => by simp [okT, ok1, okC]) (by rfl) hgb ?_ ?_
  · rw [upd_same]; rfl
  · exact fun x hx hxn => by rw [upd_ne _ _ hxn, upd_ne _ _ hxn, upd_ne _ _ hxn]
def firstC (s : List UInt8) : Int × List PV :=
  if s.length < 3 then (2, failC) else
  if (getB (s.take 3) 599).2 = false ∨ (getB (s.take 3) 599).1 < 100 then (2, failC) else
  if lastB (dig (getB (s.take 3) 599).1) s = true then (0, doneC (getB (s.take 3) 599).1 (.sl 1 [textE (endsB (dig (getB (s.take 3) 599).1) s).1])) else
  if s.getD 3 0 ≠ 45 then (2, failC) else (0, openC (getB (s.take 3) 599).1 (.sl 1 [textE (s.drop 4)]))
/-- A code that was read of three bytes is written as they are. -/
theorem get_dig {t : List UInt8} {most : Int} (h : (getB t most).2 = true) : dig (getB t most).1 = t ∧ 0 ≤ (getB t most).1 ∧ (getB t most).1 ≤ most := by
  unfold getB at h ⊢
  split at h
  · cases h
  · rename_i hn
    rw [if_neg hn]
    simp only [not_or] at hn
    obtain ⟨h1, h2, h3, h4, h5⟩ := hn
    refine ⟨?_, by simp, by simp at h5 ⊢; omega⟩
    show digs ((valN t : Int).toNat) = t
    rw [Int.toNat_natCast]
    exact digs_val _ t rfl h1 (by simpa using h4) h3
theorem get_three {s : List UInt8} (hl : ¬ s.length < 3) (h : (getB (s.take 3) 599).2 = true) (hn : lastB (dig (getB (s.take 3) 599).1) s = false) : 3 < s.length := by
  rcases Nat.lt_or_ge 3 s.length with h3 | h3
  · exact h3
  · exfalso
    have e : s.take 3 = s := List.take_of_length_le h3
    rw [(get_dig h).1, e, lastB_is, beq_self_eq_true] at hn
    cases hn
theorem first_in (g : Nat) (s : List UInt8) (x0 x1 x2 : PV) (hs : s.length ≤ 9223372036854775807) : InTo Try.prog 28 [.ptr g 0, .str s] [(g, .box [x0, x1, x2, .int .i64 0, .sl 0 [], .bool false])] (fun _ => .int .i64 (firstC s).1) (fun _ => [(g, some (.box (firstC s).2))]) := by
  refine inTo_of mixed Try.func28 rfl Try.ntmps28 Try.results28 (by kernel_rfl) (by kernel_rfl) (by simp) (by simp) [] (fun H0 N0 nb hH0 hN0 => ?_)
  have hbox := (hH0 (g, .box [x0, x1, x2, .int .i64 0, .sl 0 [], .bool false]) (by simp)).1
  have hgN := (hH0 (g, .box [x0, x1, x2, .int .i64 0, .sl 0 [], .bool false]) (by simp)).2.1
  have hgb := (hH0 (g, .box [x0, x1, x2, .int .i64 0, .sl 0 [], .bool false]) (by simp)).2.2
  simp only at hbox hgN hgb
  try simp only [hbox, ↓Wd0, Wr0, Wr1, opnds, ofVal, ofValC, PV.cells, PV.one, PV.fit, partE, setL, pickE, intE, strE, eqC, eqCs, kindOK, aggEqE, binE, unaE, convE, fieldE, faddrE, iaddrE, indexE, loE, sliceE, nilE, fillP, buildE, elemsE, bslE, lenE, appE, stripC, strip1, strip1L, strip, tupV, resV, convT, convN, sliceB, sliceA, sliceO, convB, clearE, appB, lookE, insE, keyOK, reduceCtorEq, ↓reduceIte, Nat.reduceAdd, Nat.reduceMul, Nat.reduceSub, Nat.reduceEqDiff, Nat.reduceLeDiff, Nat.reduceBEq, Int.reduceToNat, Nat.reduceLT, Int.reduceBEq, Int.reduceBNe, Int.reduceLT, Int.reduceLE, Int.reduceGT, Int.reduceGE, UInt8.reduceToNat, Int.reduceNeg, Int.reduceAdd, Int.reduceSub, Wt]
  refine ifD (fun hb => ?_) (fun hb => ?_)
  · have hlt : s.length < 3 := by have := of_decide_eq_true hb; omega
    have hf : firstC s = (2, failC) := by unfold firstC; rw [if_pos hlt]
    rw [hf]
    try simp only [hbox, ↓Wd0, Wr0, Wr1, opnds, ofVal, ofValC, PV.cells, PV.one, PV.fit, partE, setL, pickE, intE, strE, eqC, eqCs, kindOK, aggEqE, binE, unaE, convE, fieldE, faddrE, iaddrE, indexE, loE, sliceE, nilE, fillP, buildE, elemsE, bslE, lenE, appE, stripC, strip1, strip1L, strip, tupV, resV, convT, convN, sliceB, sliceA, sliceO, convB, clearE, appB, lookE, insE, keyOK, reduceCtorEq, ↓reduceIte, Nat.reduceAdd, Nat.reduceMul, Nat.reduceSub, Nat.reduceEqDiff, Nat.reduceLeDiff, Nat.reduceBEq, Int.reduceToNat, Nat.reduceLT, Int.reduceBEq, Int.reduceBNe, Int.reduceLT, Int.reduceLE, Int.reduceGT, Int.reduceGE, UInt8.reduceToNat, Int.reduceNeg, Int.reduceAdd, Int.reduceSub, Wt]
    refine inD (fail_in g 2 x0 x1 x2 (.int .i64 0) (.sl 0 []) (.bool false) rfl) (fun x hx => ?_) ?_
    · simp only [List.mem_singleton] at hx
      subst hx
      exact hbox
    try simp only [hbox, ↓Wd0, Wr0, Wr1, opnds, ofVal, ofValC, PV.cells, PV.one, PV.fit, partE, setL, pickE, intE, strE, eqC, eqCs, kindOK, aggEqE, binE, unaE, convE, fieldE, faddrE, iaddrE, indexE, loE, sliceE, nilE, fillP, buildE, elemsE, bslE, lenE, appE, stripC, strip1, strip1L, strip, tupV, resV, convT, convN, sliceB, sliceA, sliceO, convB, clearE, appB, lookE, insE, keyOK, reduceCtorEq, ↓reduceIte, Nat.reduceAdd, Nat.reduceMul, Nat.reduceSub, Nat.reduceEqDiff, Nat.reduceLeDiff, Nat.reduceBEq, Int.reduceToNat, Nat.reduceLT, Int.reduceBEq, Int.reduceBNe, Int.reduceLT, Int.reduceLE, Int.reduceGT, Int.reduceGE, UInt8.reduceToNat, Int.reduceNeg, Int.reduceAdd, Int.reduceSub, Wt]
    refine endI_box rfl (fun _ => rfl) (fun _ => trivial) (by rfl) hgb ?_ ?_
    · rw [upd_same]; rfl
    · exact fun x hx hxn => upd_ne _ _ hxn
  have hlt : ¬ s.length < 3 := by have := of_decide_eq_false hb; omega
  have et : List.drop 0 (List.take 3 s) = s.take 3 := rfl
  try simp only [hbox, et, ↓Wd0, Wr0, Wr1, opnds, ofVal, ofValC, PV.cells, PV.one, PV.fit, partE, setL, pickE, intE, strE, eqC, eqCs, kindOK, aggEqE, binE, unaE, convE, fieldE, faddrE, iaddrE, indexE, loE, sliceE, nilE, fillP, buildE, elemsE, bslE, lenE, appE, stripC, strip1, strip1L, strip, tupV, resV, convT, convN, sliceB, sliceA, sliceO, convB, clearE, appB, lookE, insE, keyOK, reduceCtorEq, ↓reduceIte, Nat.reduceAdd, Nat.reduceMul, Nat.reduceSub, Nat.reduceEqDiff, Nat.reduceLeDiff, Nat.reduceBEq, Int.reduceToNat, Nat.reduceLT, Int.reduceBEq, Int.reduceBNe, Int.reduceLT, Int.reduceLE, Int.reduceGT, Int.reduceGE, UInt8.reduceToNat, Int.reduceNeg, Int.reduceAdd, Int.reduceSub, Wt]
  refine ⟨by omega, ?_⟩
  refine calD (get_to (s.take 3) 599 (by simp; omega)) ?_
  have hf0 : firstC s = if (getB (s.take 3) 599).2 = false ∨ (getB (s.take 3) 599).1 < 100 then (2, failC) else
      if lastB (dig (getB (s.take 3) 599).1) s = true then (0, doneC (getB (s.take 3) 599).1 (.sl 1 [textE (endsB (dig (getB (s.take 3) 599).1) s).1])) else
      if s.getD 3 0 ≠ 45 then (2, failC) else (0, openC (getB (s.take 3) 599).1 (.sl 1 [textE (s.drop 4)])) := by unfold firstC; rw [if_neg hlt]
  have hgd := get_dig (t := s.take 3) (most := 599)
  have hg3 := get_three (s := s) hlt
  obtain ⟨G, hG⟩ : ∃ G, G = getB (s.take 3) 599 := ⟨_, rfl⟩
  rw [← hG] at hf0 hgd hg3
  have hgp : getP (s.take 3) 599 = .tup [.int .i64 G.1, .bool G.2] := by unfold getP; rw [← hG]
  rw [hgp]
  cases hG2 : G.2 with
  | false =>
    rw [if_pos (.inl hG2)] at hf0
    rw [hf0]
    try simp only [hbox, ↓Wd0, Wr0, Wr1, opnds, ofVal, ofValC, PV.cells, PV.one, PV.fit, partE, setL, pickE, intE, strE, eqC, eqCs, kindOK, aggEqE, binE, unaE, convE, fieldE, faddrE, iaddrE, indexE, loE, sliceE, nilE, fillP, buildE, elemsE, bslE, lenE, appE, stripC, strip1, strip1L, strip, tupV, resV, convT, convN, sliceB, sliceA, sliceO, convB, clearE, appB, lookE, insE, keyOK, reduceCtorEq, ↓reduceIte, Nat.reduceAdd, Nat.reduceMul, Nat.reduceSub, Nat.reduceEqDiff, Nat.reduceLeDiff, Nat.reduceBEq, Int.reduceToNat, Nat.reduceLT, Int.reduceBEq, Int.reduceBNe, Int.reduceLT, Int.reduceLE, Int.reduceGT, Int.reduceGE, UInt8.reduceToNat, Int.reduceNeg, Int.reduceAdd, Int.reduceSub, Wt]
    refine inD (fail_in g 2 x0 x1 x2 (.int .i64 0) (.sl 0 []) (.bool false) rfl) (fun x hx => ?_) ?_
    · simp only [List.mem_singleton] at hx
      subst hx
      exact hbox
    try simp only [hbox, ↓Wd0, Wr0, Wr1, opnds, ofVal, ofValC, PV.cells, PV.one, PV.fit, partE, setL, pickE, intE, strE, eqC, eqCs, kindOK, aggEqE, binE, unaE, convE, fieldE, faddrE, iaddrE, indexE, loE, sliceE, nilE, fillP, buildE, elemsE, bslE, lenE, appE, stripC, strip1, strip1L, strip, tupV, resV, convT, convN, sliceB, sliceA, sliceO, convB, clearE, appB, lookE, insE, keyOK, reduceCtorEq, ↓reduceIte, Nat.reduceAdd, Nat.reduceMul, Nat.reduceSub, Nat.reduceEqDiff, Nat.reduceLeDiff, Nat.reduceBEq, Int.reduceToNat, Nat.reduceLT, Int.reduceBEq, Int.reduceBNe, Int.reduceLT, Int.reduceLE, Int.reduceGT, Int.reduceGE, UInt8.reduceToNat, Int.reduceNeg, Int.reduceAdd, Int.reduceSub, Wt]
    refine endI_box rfl (fun _ => rfl) (fun _ => trivial) (by rfl) hgb ?_ ?_
    · rw [upd_same]; rfl
    · exact fun x hx hxn => upd_ne _ _ hxn
  | true =>
    obtain ⟨hd1, hd2, hd3⟩ := hgd hG2
    try simp only [hbox, ↓Wd0, Wr0, Wr1, opnds, ofVal, ofValC, PV.cells, PV.one, PV.fit, partE, setL, pickE, intE, strE, eqC, eqCs, kindOK, aggEqE, binE, unaE, convE, fieldE, faddrE, iaddrE, indexE, loE, sliceE, nilE, fillP, buildE, elemsE, bslE, lenE, appE, stripC, strip1, strip1L, strip, tupV, resV, convT, convN, sliceB, sliceA, sliceO, convB, clearE, appB, lookE, insE, keyOK, reduceCtorEq, ↓reduceIte, Nat.reduceAdd, Nat.reduceMul, Nat.reduceSub, Nat.reduceEqDiff, Nat.reduceLeDiff, Nat.reduceBEq, Int.reduceToNat, Nat.reduceLT, Int.reduceBEq, Int.reduceBNe, Int.reduceLT, Int.reduceLE, Int.reduceGT, Int.reduceGE, UInt8.reduceToNat, Int.reduceNeg, Int.reduceAdd, Int.reduceSub, Wt]
    refine ifD (fun hb => ?_) (fun hb => ?_)
    · have hlt2 := of_decide_eq_true hb
      rw [if_pos (.inr hlt2)] at hf0
      rw [hf0]
      try simp only [hbox, ↓Wd0, Wr0, Wr1, opnds, ofVal, ofValC, PV.cells, PV.one, PV.fit, partE, setL, pickE, intE, strE, eqC, eqCs, kindOK, aggEqE, binE, unaE, convE, fieldE, faddrE, iaddrE, indexE, loE, sliceE, nilE, fillP, buildE, elemsE, bslE, lenE, appE, stripC, strip1, strip1L, strip, tupV, resV, convT, convN, sliceB, sliceA, sliceO, convB, clearE, appB, lookE, insE, keyOK, reduceCtorEq, ↓reduceIte, Nat.reduceAdd, Nat.reduceMul, Nat.reduceSub, Nat.reduceEqDiff, Nat.reduceLeDiff, Nat.reduceBEq, Int.reduceToNat, Nat.reduceLT, Int.reduceBEq, Int.reduceBNe, Int.reduceLT, Int.reduceLE, Int.reduceGT, Int.reduceGE, UInt8.reduceToNat, Int.reduceNeg, Int.reduceAdd, Int.reduceSub, Wt]
      refine inD (fail_in g 2 x0 x1 x2 (.int .i64 0) (.sl 0 []) (.bool false) rfl) (fun x hx => ?_) ?_
      · simp only [List.mem_singleton] at hx
        subst hx
        exact hbox
      try simp only [hbox, ↓Wd0, Wr0, Wr1, opnds, ofVal, ofValC, PV.cells, PV.one, PV.fit, partE, setL, pickE, intE, strE, eqC, eqCs, kindOK, aggEqE, binE, unaE, convE, fieldE, faddrE, iaddrE, indexE, loE, sliceE, nilE, fillP, buildE, elemsE, bslE, lenE, appE, stripC, strip1, strip1L, strip, tupV, resV, convT, convN, sliceB, sliceA, sliceO, convB, clearE, appB, lookE, insE, keyOK, reduceCtorEq, ↓reduceIte, Nat.reduceAdd, Nat.reduceMul, Nat.reduceSub, Nat.reduceEqDiff, Nat.reduceLeDiff, Nat.reduceBEq, Int.reduceToNat, Nat.reduceLT, Int.reduceBEq, Int.reduceBNe, Int.reduceLT, Int.reduceLE, Int.reduceGT, Int.reduceGE, UInt8.reduceToNat, Int.reduceNeg, Int.reduceAdd, Int.reduceSub, Wt]
      refine endI_box rfl (fun _ => rfl) (fun _ => trivial) (by rfl) hgb ?_ ?_
      · rw [upd_same]; rfl
      · exact fun x hx hxn => upd_ne _ _ hxn
    have hlt2 := of_decide_eq_false hb
    rw [if_neg (by rw [hG2]; simp; omega)] at hf0
    try simp only [hbox, ↓Wd0, Wr0, Wr1, opnds, ofVal, ofValC, PV.cells, PV.one, PV.fit, partE, setL, pickE, intE, strE, eqC, eqCs, kindOK, aggEqE, binE, unaE, convE, fieldE, faddrE, iaddrE, indexE, loE, sliceE, nilE, fillP, buildE, elemsE, bslE, lenE, appE, stripC, strip1, strip1L, strip, tupV, resV, convT, convN, sliceB, sliceA, sliceO, convB, clearE, appB, lookE, insE, keyOK, reduceCtorEq, ↓reduceIte, Nat.reduceAdd, Nat.reduceMul, Nat.reduceSub, Nat.reduceEqDiff, Nat.reduceLeDiff, Nat.reduceBEq, Int.reduceToNat, Nat.reduceLT, Int.reduceBEq, Int.reduceBNe, Int.reduceLT, Int.reduceLE, Int.reduceGT, Int.reduceGE, UInt8.reduceToNat, Int.reduceNeg, Int.reduceAdd, Int.reduceSub, Wt]
    refine calD (ends_to G.1 (by omega) s) ?_
    have hlb : (endsB (dig G.1) s).2 = lastB (dig G.1) s := rfl
    cases hl : lastB (dig G.1) s with
    | true =>
      rw [if_pos hl] at hf0
      rw [hf0]
      try simp only [endsP, hlb, hl, ↓Wd0, Wr0, Wr1, opnds, ofVal, ofValC, PV.cells, PV.one, PV.fit, partE, setL, pickE, intE, strE, eqC, eqCs, kindOK, aggEqE, binE, unaE, convE, fieldE, faddrE, iaddrE, indexE, loE, sliceE, nilE, fillP, buildE, elemsE, bslE, lenE, appE, stripC, strip1, strip1L, strip, tupV, resV, convT, convN, sliceB, sliceA, sliceO, convB, clearE, appB, lookE, insE, keyOK, reduceCtorEq, ↓reduceIte, Nat.reduceAdd, Nat.reduceMul, Nat.reduceSub, Nat.reduceEqDiff, Nat.reduceLeDiff, Nat.reduceBEq, Int.reduceToNat, Nat.reduceLT, Int.reduceBEq, Int.reduceBNe, Int.reduceLT, Int.reduceLE, Int.reduceGT, Int.reduceGE, UInt8.reduceToNat, Int.reduceNeg, Int.reduceAdd, Int.reduceSub, Wt]
      refine inD (end_in g G.1 [textE (endsB (dig G.1) s).1] x0 x1 x2 (.int .i64 0) (.sl 0 []) (.bool false)) (fun x hx => ?_) ?_
      · simp only [List.mem_singleton] at hx
        subst hx
        exact hbox
      try simp only [hbox, ↓Wd0, Wr0, Wr1, opnds, ofVal, ofValC, PV.cells, PV.one, PV.fit, partE, setL, pickE, intE, strE, eqC, eqCs, kindOK, aggEqE, binE, unaE, convE, fieldE, faddrE, iaddrE, indexE, loE, sliceE, nilE, fillP, buildE, elemsE, bslE, lenE, appE, stripC, strip1, strip1L, strip, tupV, resV, convT, convN, sliceB, sliceA, sliceO, convB, clearE, appB, lookE, insE, keyOK, reduceCtorEq, ↓reduceIte, Nat.reduceAdd, Nat.reduceMul, Nat.reduceSub, Nat.reduceEqDiff, Nat.reduceLeDiff, Nat.reduceBEq, Int.reduceToNat, Nat.reduceLT, Int.reduceBEq, Int.reduceBNe, Int.reduceLT, Int.reduceLE, Int.reduceGT, Int.reduceGE, UInt8.reduceToNat, Int.reduceNeg, Int.reduceAdd, Int.reduceSub, Wt]
      refine endI_box rfl (fun _ => rfl) (fun _ => trivial) (by rfl) hgb ?_ ?_
      · rw [upd_same]
      · exact fun x hx hxn => upd_ne _ _ hxn
    | false =>
      rw [if_neg (by rw [hl]; simp)] at hf0
      have h3 := hg3 hG2 hl
      try simp only [endsP, hlb, hl, ↓Wd0, Wr0, Wr1, opnds, ofVal, ofValC, PV.cells, PV.one, PV.fit, partE, setL, pickE, intE, strE, eqC, eqCs, kindOK, aggEqE, binE, unaE, convE, fieldE, faddrE, iaddrE, indexE, loE, sliceE, nilE, fillP, buildE, elemsE, bslE, lenE, appE, stripC, strip1, strip1L, strip, tupV, resV, convT, convN, sliceB, sliceA, sliceO, convB, clearE, appB, lookE, insE, keyOK, reduceCtorEq, ↓reduceIte, Nat.reduceAdd, Nat.reduceMul, Nat.reduceSub, Nat.reduceEqDiff, Nat.reduceLeDiff, Nat.reduceBEq, Int.reduceToNat, Nat.reduceLT, Int.reduceBEq, Int.reduceBNe, Int.reduceLT, Int.reduceLE, Int.reduceGT, Int.reduceGE, UInt8.reduceToNat, Int.reduceNeg, Int.reduceAdd, Int.reduceSub, Wt]
      refine ⟨by omega, ?_⟩
      refine ifD (fun hb => ?_) (fun hb => ?_)
      · have hne : s.getD 3 0 ≠ 45 := fun e => by rw [e] at hb; cases hb
        rw [if_pos hne] at hf0
        rw [hf0]
        try simp only [hbox, ↓Wd0, Wr0, Wr1, opnds, ofVal, ofValC, PV.cells, PV.one, PV.fit, partE, setL, pickE, intE, strE, eqC, eqCs, kindOK, aggEqE, binE, unaE, convE, fieldE, faddrE, iaddrE, indexE, loE, sliceE, nilE, fillP, buildE, elemsE, bslE, lenE, appE, stripC, strip1, strip1L, strip, tupV, resV, convT, convN, sliceB, sliceA, sliceO, convB, clearE, appB, lookE, insE, keyOK, reduceCtorEq, ↓reduceIte, Nat.reduceAdd, Nat.reduceMul, Nat.reduceSub, Nat.reduceEqDiff, Nat.reduceLeDiff, Nat.reduceBEq, Int.reduceToNat, Nat.reduceLT, Int.reduceBEq, Int.reduceBNe, Int.reduceLT, Int.reduceLE, Int.reduceGT, Int.reduceGE, UInt8.reduceToNat, Int.reduceNeg, Int.reduceAdd, Int.reduceSub, Wt]
        refine inD (fail_in g 2 x0 x1 x2 (.int .i64 0) (.sl 0 []) (.bool false) rfl) (fun x hx => ?_) ?_
        · simp only [List.mem_singleton] at hx
          subst hx
          exact hbox
        try simp only [hbox, ↓Wd0, Wr0, Wr1, opnds, ofVal, ofValC, PV.cells, PV.one, PV.fit, partE, setL, pickE, intE, strE, eqC, eqCs, kindOK, aggEqE, binE, unaE, convE, fieldE, faddrE, iaddrE, indexE, loE, sliceE, nilE, fillP, buildE, elemsE, bslE, lenE, appE, stripC, strip1, strip1L, strip, tupV, resV, convT, convN, sliceB, sliceA, sliceO, convB, clearE, appB, lookE, insE, keyOK, reduceCtorEq, ↓reduceIte, Nat.reduceAdd, Nat.reduceMul, Nat.reduceSub, Nat.reduceEqDiff, Nat.reduceLeDiff, Nat.reduceBEq, Int.reduceToNat, Nat.reduceLT, Int.reduceBEq, Int.reduceBNe, Int.reduceLT, Int.reduceLE, Int.reduceGT, Int.reduceGE, UInt8.reduceToNat, Int.reduceNeg, Int.reduceAdd, Int.reduceSub, Wt]
        refine endI_box rfl (fun _ => rfl) (fun _ => trivial) (by rfl) hgb ?_ ?_
        · rw [upd_same]; rfl
        · exact fun x hx hxn => upd_ne _ _ hxn
      · have hne : ¬ s.getD 3 0 ≠ 45 := by
          have h1 : ((s.getD 3 0).toNat : Int) = 45 := bne_eq_false_iff_eq.1 hb
          have h2 : s.getD 3 0 = 45 := UInt8.toNat_inj.1 (by have : (45 : UInt8).toNat = 45 := rfl; omega)
          exact fun h => h h2
        rw [if_neg hne] at hf0
        rw [hf0]
        try simp only [hbox, List.take_length, ↓Wd0, Wr0, Wr1, opnds, ofVal, ofValC, PV.cells, PV.one, PV.fit, partE, setL, pickE, intE, strE, eqC, eqCs, kindOK, aggEqE, binE, unaE, convE, fieldE, faddrE, iaddrE, indexE, loE, sliceE, nilE, fillP, buildE, elemsE, bslE, lenE, appE, stripC, strip1, strip1L, strip, tupV, resV, convT, convN, sliceB, sliceA, sliceO, convB, clearE, appB, lookE, insE, keyOK, reduceCtorEq, ↓reduceIte, Nat.reduceAdd, Nat.reduceMul, Nat.reduceSub, Nat.reduceEqDiff, Nat.reduceLeDiff, Nat.reduceBEq, Int.reduceToNat, Nat.reduceLT, Int.reduceBEq, Int.reduceBNe, Int.reduceLT, Int.reduceLE, Int.reduceGT, Int.reduceGE, UInt8.reduceToNat, Int.reduceNeg, Int.reduceAdd, Int.reduceSub, Wt]
        repeat' (first | (refine ifD (fun hb => ?_) (fun hb => ?_) <;> (try simp only [decide_eq_true_eq, decide_eq_false_iff_not, Int.not_lt, Int.not_le, Bool.not_eq_true', Bool.not_eq_false', beq_iff_eq, beq_eq_false_iff_ne, bne_iff_ne, ne_eq, not_true_eq_false, not_false_eq_true, reduceCtorEq, eq_self] at hb) <;> (try simp only [hbox, List.take_length, ↓Wd0, Wr0, Wr1, opnds, ofVal, ofValC, PV.cells, PV.one, PV.fit, partE, setL, pickE, intE, strE, eqC, eqCs, kindOK, aggEqE, binE, unaE, convE, fieldE, faddrE, iaddrE, indexE, loE, sliceE, nilE, fillP, buildE, elemsE, bslE, lenE, appE, stripC, strip1, strip1L, strip, tupV, resV, convT, convN, sliceB, sliceA, sliceO, convB, clearE, appB, lookE, insE, keyOK, reduceCtorEq, ↓reduceIte, Nat.reduceAdd, Nat.reduceMul, Nat.reduceSub, Nat.reduceEqDiff, Nat.reduceLeDiff, Nat.reduceBEq, Int.reduceToNat, Nat.reduceLT, Int.reduceBEq, Int.reduceBNe, Int.reduceLT, Int.reduceLE, Int.reduceGT, Int.reduceGE, UInt8.reduceToNat, Int.reduceNeg, Int.reduceAdd, Int.reduceSub, Wt])) | (with_reducible apply And.intro)) <;> (try (first | omega | (exfalso; omega) | exact cmp_r (by first | (simp; done) | (simp; omega)) | exact cmp_l (by kernel_rfl)))
        refine endI_box rfl (fun _ => rfl) (fun _ => trivial) (by rfl) hgb ?_ ?_
        · rw [upd_same]; rfl
        · exact fun x hx hxn => by rw [upd_ne _ _ hxn, upd_ne _ _ hxn, upd_ne _ _ hxn]
end Go.Proofs.Ytbpagmhhjbcceaa
