import Derived.Test.YtemlofepmphgiaaJb
/-! take. -/
set_option linter.unusedSimpArgs false
set_option linter.unusedVariables false
set_option maxHeartbeats 4000000
set_option maxRecDepth 100000
namespace Go.Proofs.Ytemlofepmphgiaa
open Go.RowKit

def endC (s : Rd) (alone : Bool) (c : UInt8) : Bool := (c == 10) && (s.cr || alone)
theorem c10 (c : UInt8) : ((c.toNat : Int) == 10) = (c == 10) := u8_beq c 10
theorem c13 (c : UInt8) : ((c.toNat : Int) == 13) = (c == 13) := u8_beq c 13
theorem take_end (s : Rd) (g z y : Nat) (most : Int) (alone : Bool) (c : UInt8) (hn : Nm s g z y) (hl : s.out.length ≤ 1000000) (he : endC s alone c = true) : InTo Try.prog 18 [.ptr g 0, .int .u8 c.toNat] (hsL s g z y most alone) (fun _ => .tup []) (fun nb => (g, some (.box (Rd.cs ⟨[], false, false, s.out ++ [endLn s]⟩ 0 (nb + 2) most alone))) :: (dropL y ++ [(nb + 2, some (.tok 37 2 (s.out ++ [endLn s]).length))])) := by
  refine inTo_of mixed Try.func18 rfl Try.ntmps18 Try.results18 (by kernel_rfl) (by kernel_rfl) (by simp) (fun nb x hx => ?_) [] (fun H0 N0 nb hH0 hN0 => ?_)
  · rcases List.mem_cons.1 hx with rfl | hx
    · exact .inl (hs_g ..)
    · rcases List.mem_append.1 hx with hx | hx
      · rcases hn.y0 with ⟨h0, _⟩ | h2
        · rw [h0, dropL_0] at hx; cases hx
        · have := dropL_none hx; subst this; exact .inl (hs_y h2)
      · simp only [List.mem_singleton] at hx; subst hx; exact .inr ⟨by omega, by omega⟩
  have hbg := beg_of hH0
  have hbox := hbg.box
  have hcz := cell_z hbg hn
  have hcy := cell_y hbg hn
  have hgb := hbg.gb
  have hgN := hbg.gN
  have hz := hbg.hz
  have hy := hbg.hy
  have f1 : 2 ≤ z → (g = z) = False := fun h => eq_false (hn.gz h)
  have f2 : 2 ≤ z → (z = g) = False := fun h => eq_false (fun e => hn.gz h e.symm)
  simp only [Rd.cs] at hbox hcz hcy
  have hc : (c == 10) = true := by unfold endC at he; rw [Bool.and_eq_true] at he; exact he.1
  have ho : (s.cr || alone) = true := by unfold endC at he; rw [Bool.and_eq_true] at he; exact he.2
  try simp (disch := omega) only [hbox, c10, hc, ne_far, ne_far', ne_at, ne_at', far_far, far_at, at_far, lt_far, ↓Wd0, Wr0, Wr1, opnds, ofVal, ofValC, PV.cells, PV.one, PV.fit, partE, setL, pickE, intE, strE, eqC, eqCs, kindOK, aggEqE, binE, unaE, convE, fieldE, faddrE, iaddrE, indexE, loE, sliceE, nilE, fillP, buildE, elemsE, bslE, lenE, appE, stripC, strip1, strip1L, strip, tupV, resV, convT, convN, sliceB, sliceA, sliceO, convB, clearE, appB, lookE, insE, keyOK, rangeE, reduceCtorEq, ↓reduceIte, Nat.reduceAdd, Nat.reduceMul, Nat.reduceSub, Nat.reduceEqDiff, Nat.reduceLeDiff, Nat.reduceBEq, Int.reduceToNat, Nat.reduceLT, Int.reduceBEq, Int.reduceBNe, Int.reduceLT, Int.reduceLE, Int.reduceGT, Int.reduceGE, UInt8.reduceToNat, Int.reduceNeg, Int.reduceAdd, Int.reduceSub, Wt]
  cases hcr : s.cr with
  | true =>
    try simp (disch := omega) only [hbox, c10, hc, hcr, ne_far, ne_far', ne_at, ne_at', far_far, far_at, at_far, lt_far, ↓Wd0, Wr0, Wr1, opnds, ofVal, ofValC, PV.cells, PV.one, PV.fit, partE, setL, pickE, intE, strE, eqC, eqCs, kindOK, aggEqE, binE, unaE, convE, fieldE, faddrE, iaddrE, indexE, loE, sliceE, nilE, fillP, buildE, elemsE, bslE, lenE, appE, stripC, strip1, strip1L, strip, tupV, resV, convT, convN, sliceB, sliceA, sliceO, convB, clearE, appB, lookE, insE, keyOK, rangeE, reduceCtorEq, ↓reduceIte, Nat.reduceAdd, Nat.reduceMul, Nat.reduceSub, Nat.reduceEqDiff, Nat.reduceLeDiff, Nat.reduceBEq, Int.reduceToNat, Nat.reduceLT, Int.reduceBEq, Int.reduceBNe, Int.reduceLT, Int.reduceLE, Int.reduceGT, Int.reduceGE, UInt8.reduceToNat, Int.reduceNeg, Int.reduceAdd, Int.reduceSub, Wt]
    refine inD (end_in s g z y most alone hn hl) hbg.hs ?_
    rcases hn.y0 with ⟨rfl, hy0⟩ | h2
    · have hd := dropL_0
      try simp (disch := omega) only [hd, hbox, ne_far, ne_far', ne_at, ne_at', far_far, far_at, at_far, lt_far, ↓Wd0, Wr0, Wr1, opnds, ofVal, ofValC, PV.cells, PV.one, PV.fit, partE, setL, pickE, intE, strE, eqC, eqCs, kindOK, aggEqE, binE, unaE, convE, fieldE, faddrE, iaddrE, indexE, loE, sliceE, nilE, fillP, buildE, elemsE, bslE, lenE, appE, stripC, strip1, strip1L, strip, tupV, resV, convT, convN, sliceB, sliceA, sliceO, convB, clearE, appB, lookE, insE, keyOK, rangeE, reduceCtorEq, ↓reduceIte, Nat.reduceAdd, Nat.reduceMul, Nat.reduceSub, Nat.reduceEqDiff, Nat.reduceLeDiff, Nat.reduceBEq, Int.reduceToNat, Nat.reduceLT, Int.reduceBEq, Int.reduceBNe, Int.reduceLT, Int.reduceLE, Int.reduceGT, Int.reduceGE, UInt8.reduceToNat, Int.reduceNeg, Int.reduceAdd, Int.reduceSub, Wt]
      refine endI_c1 (z := 0) (a := [.sl 0 [], .bool false, .bool false, .int .i64 most, .bool alone]) (b := []) (xs := (s.out ++ [endLn s]).map GLine.cs) (j := 130) (cells_cons cell_0 (cells_cons cell_b (cells_cons cell_b (cells_cons cell_i (cells_cons cell_b cells_nil))))) cells_nil hN0 hgb ?_ ?_ ?_
      · repeat first | rw [upd_same] | rw [upd_ne _ _ (by omega)]
        rfl
      · repeat first | rw [upd_same] | rw [upd_ne _ _ (by omega)]
      · exact fun x hx hxg hxz => by repeat rw [upd_ne _ _ (by omega)]
    · have hd := dropL_2 h2
      have hyN := (hbg.yN h2).1
      have hgy := hn.gy h2
      try simp (disch := omega) only [hd, hbox, ne_far, ne_far', ne_at, ne_at', far_far, far_at, at_far, lt_far, ↓Wd0, Wr0, Wr1, opnds, ofVal, ofValC, PV.cells, PV.one, PV.fit, partE, setL, pickE, intE, strE, eqC, eqCs, kindOK, aggEqE, binE, unaE, convE, fieldE, faddrE, iaddrE, indexE, loE, sliceE, nilE, fillP, buildE, elemsE, bslE, lenE, appE, stripC, strip1, strip1L, strip, tupV, resV, convT, convN, sliceB, sliceA, sliceO, convB, clearE, appB, lookE, insE, keyOK, rangeE, reduceCtorEq, ↓reduceIte, Nat.reduceAdd, Nat.reduceMul, Nat.reduceSub, Nat.reduceEqDiff, Nat.reduceLeDiff, Nat.reduceBEq, Int.reduceToNat, Nat.reduceLT, Int.reduceBEq, Int.reduceBNe, Int.reduceLT, Int.reduceLE, Int.reduceGT, Int.reduceGE, UInt8.reduceToNat, Int.reduceNeg, Int.reduceAdd, Int.reduceSub, Wt]
      refine (?_ : EndI _ _ ((g, _) :: ([(y, none)] ++ [(nb + 2, _)])) _ _ _ _ _)
      rw [← hd]
      refine endI_c1 (z := y) (a := [.sl 0 [], .bool false, .bool false, .int .i64 most, .bool alone]) (b := []) (xs := (s.out ++ [endLn s]).map GLine.cs) (j := 130) (cells_cons cell_0 (cells_cons cell_b (cells_cons cell_b (cells_cons cell_i (cells_cons cell_b cells_nil))))) cells_nil hN0 hgb ?_ ?_ ?_
      · repeat first | rw [upd_same] | rw [upd_ne _ _ (by omega)]
        rfl
      · repeat first | rw [upd_same] | rw [upd_ne _ _ (by omega)]
      · exact fun x hx hxg hxz => by
          have hxy := hxz h2
          repeat rw [upd_ne _ _ (by omega)]
  | false =>
    rw [hcr, Bool.false_or] at ho
    try simp (disch := omega) only [hbox, c10, hc, hcr, ho, ne_far, ne_far', ne_at, ne_at', far_far, far_at, at_far, lt_far, ↓Wd0, Wr0, Wr1, opnds, ofVal, ofValC, PV.cells, PV.one, PV.fit, partE, setL, pickE, intE, strE, eqC, eqCs, kindOK, aggEqE, binE, unaE, convE, fieldE, faddrE, iaddrE, indexE, loE, sliceE, nilE, fillP, buildE, elemsE, bslE, lenE, appE, stripC, strip1, strip1L, strip, tupV, resV, convT, convN, sliceB, sliceA, sliceO, convB, clearE, appB, lookE, insE, keyOK, rangeE, reduceCtorEq, ↓reduceIte, Nat.reduceAdd, Nat.reduceMul, Nat.reduceSub, Nat.reduceEqDiff, Nat.reduceLeDiff, Nat.reduceBEq, Int.reduceToNat, Nat.reduceLT, Int.reduceBEq, Int.reduceBNe, Int.reduceLT, Int.reduceLE, Int.reduceGT, Int.reduceGE, UInt8.reduceToNat, Int.reduceNeg, Int.reduceAdd, Int.reduceSub, Wt]
    refine inD (end_in s g z y most alone hn hl) hbg.hs ?_
    rcases hn.y0 with ⟨rfl, hy0⟩ | h2
    · have hd := dropL_0
      try simp (disch := omega) only [hd, hbox, ne_far, ne_far', ne_at, ne_at', far_far, far_at, at_far, lt_far, ↓Wd0, Wr0, Wr1, opnds, ofVal, ofValC, PV.cells, PV.one, PV.fit, partE, setL, pickE, intE, strE, eqC, eqCs, kindOK, aggEqE, binE, unaE, convE, fieldE, faddrE, iaddrE, indexE, loE, sliceE, nilE, fillP, buildE, elemsE, bslE, lenE, appE, stripC, strip1, strip1L, strip, tupV, resV, convT, convN, sliceB, sliceA, sliceO, convB, clearE, appB, lookE, insE, keyOK, rangeE, reduceCtorEq, ↓reduceIte, Nat.reduceAdd, Nat.reduceMul, Nat.reduceSub, Nat.reduceEqDiff, Nat.reduceLeDiff, Nat.reduceBEq, Int.reduceToNat, Nat.reduceLT, Int.reduceBEq, Int.reduceBNe, Int.reduceLT, Int.reduceLE, Int.reduceGT, Int.reduceGE, UInt8.reduceToNat, Int.reduceNeg, Int.reduceAdd, Int.reduceSub, Wt]
      refine endI_c1 (z := 0) (a := [.sl 0 [], .bool false, .bool false, .int .i64 most, .bool alone]) (b := []) (xs := (s.out ++ [endLn s]).map GLine.cs) (j := 130) (cells_cons cell_0 (cells_cons cell_b (cells_cons cell_b (cells_cons cell_i (cells_cons cell_b cells_nil))))) cells_nil hN0 hgb ?_ ?_ ?_
      · repeat first | rw [upd_same] | rw [upd_ne _ _ (by omega)]
        rfl
      · repeat first | rw [upd_same] | rw [upd_ne _ _ (by omega)]
      · exact fun x hx hxg hxz => by repeat rw [upd_ne _ _ (by omega)]
    · have hd := dropL_2 h2
      have hyN := (hbg.yN h2).1
      have hgy := hn.gy h2
      try simp (disch := omega) only [hd, hbox, ne_far, ne_far', ne_at, ne_at', far_far, far_at, at_far, lt_far, ↓Wd0, Wr0, Wr1, opnds, ofVal, ofValC, PV.cells, PV.one, PV.fit, partE, setL, pickE, intE, strE, eqC, eqCs, kindOK, aggEqE, binE, unaE, convE, fieldE, faddrE, iaddrE, indexE, loE, sliceE, nilE, fillP, buildE, elemsE, bslE, lenE, appE, stripC, strip1, strip1L, strip, tupV, resV, convT, convN, sliceB, sliceA, sliceO, convB, clearE, appB, lookE, insE, keyOK, rangeE, reduceCtorEq, ↓reduceIte, Nat.reduceAdd, Nat.reduceMul, Nat.reduceSub, Nat.reduceEqDiff, Nat.reduceLeDiff, Nat.reduceBEq, Int.reduceToNat, Nat.reduceLT, Int.reduceBEq, Int.reduceBNe, Int.reduceLT, Int.reduceLE, Int.reduceGT, Int.reduceGE, UInt8.reduceToNat, Int.reduceNeg, Int.reduceAdd, Int.reduceSub, Wt]
      refine (?_ : EndI _ _ ((g, _) :: ([(y, none)] ++ [(nb + 2, _)])) _ _ _ _ _)
      rw [← hd]
      refine endI_c1 (z := y) (a := [.sl 0 [], .bool false, .bool false, .int .i64 most, .bool alone]) (b := []) (xs := (s.out ++ [endLn s]).map GLine.cs) (j := 130) (cells_cons cell_0 (cells_cons cell_b (cells_cons cell_b (cells_cons cell_i (cells_cons cell_b cells_nil))))) cells_nil hN0 hgb ?_ ?_ ?_
      · repeat first | rw [upd_same] | rw [upd_ne _ _ (by omega)]
        rfl
      · repeat first | rw [upd_same] | rw [upd_ne _ _ (by omega)]
      · exact fun x hx hxg hxz => by
          have hxy := hxz h2
          repeat rw [upd_ne _ _ (by omega)]
theorem Hv.set {H : Nat → Option HObj} {s s' : Rd} {g z y : Nat} {most : Int} {alone : Bool} (h : Hv H s g z y most alone) (hn : Nm s g z y) (hb : s'.b = s.b) (ho : s'.out = s.out) {cs : List PV} (hcs : cs = s'.cs z y most alone) : Hv (upd H g (some (.box cs))) s' g z y most alone := by
  subst hcs
  refine ⟨upd_same _ _ _, fun h2 => ?_, fun h2 => ?_⟩
  · rw [upd_ne _ _ (fun e => hn.gz h2 e.symm), h.hz h2, hb]
  · rw [upd_ne _ _ (fun e => hn.gy h2 e.symm), h.hy h2, ho]
theorem Nm.to {s s' : Rd} {g z y : Nat} (h : Nm s g z y) (hb : s'.b = s.b) (ho : s'.out = s.out) : Nm s' g z y := ⟨by rw [hb]; exact h.z0, by rw [ho]; exact h.y0, h.gz, h.gy, h.zy⟩
end Go.Proofs.Ytemlofepmphgiaa
