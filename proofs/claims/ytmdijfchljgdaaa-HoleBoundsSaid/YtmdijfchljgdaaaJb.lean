import Derived.Test.YtmdijfchljgdaaaJa
/-! DeleteFunc upon a box. -/
set_option linter.unusedSimpArgs false
set_option linter.unusedVariables false
set_option maxHeartbeats 4000000
set_option maxRecDepth 100000
namespace Go.Proofs.Ytmdijfchljgdaaa
open Go.RowKit

def intsL (cs : List PV) : Prop := ∀ p ∈ cs, ∃ k n, p = .int k n
theorem plain_cs (x : GHole) : intsL x.cs := by
  intro p hp
  simp only [GHole.cs, List.mem_cons, List.not_mem_nil, or_false] at hp
  rcases hp with rfl | rfl | rfl | rfl | rfl | rfl | rfl | rfl | rfl | rfl | rfl | rfl | rfl <;> exact ⟨_, _, rfl⟩
theorem plain_box (l : List GHole) : intsL (boxH l) := by
  intro p hp
  obtain ⟨c, hc, hp⟩ := List.mem_flatten.1 hp
  obtain ⟨x, _, rfl⟩ := List.mem_map.1 hc
  exact plain_cs x p hp
theorem plain_zeros (n : Nat) : intsL (zerosH n) := by
  intro p hp
  obtain ⟨c, hc, hp⟩ := List.mem_flatten.1 hp
  rw [List.eq_of_mem_replicate hc] at hp
  exact plain_cs _ p hp
theorem plain_app {a b : List PV} (ha : intsL a) (hb : intsL b) : intsL (a ++ b) := fun p hp => (List.mem_append.1 hp).elim (ha p) (hb p)
theorem plain_ren {cs : List PV} (h : intsL cs) (φ : Nat → Nat) : mapO φ (.box cs) = .box cs := by
  have : cs.map (mapC φ) = cs := by
    conv => rhs; rw [← List.map_id cs]
    refine List.map_congr_left fun p hp => ?_
    obtain ⟨k, n, rfl⟩ := h p hp
    rfl
  show HObj.box (cs.map (mapC φ)) = .box cs
  rw [this]
theorem plain_ok {cs : List PV} (h : intsL cs) (Q : Nat → Prop) : okO Q (.box cs) := by
  intro p hp
  obtain ⟨k, n, rfl⟩ := h p hp
  trivial
theorem endI_bs {nb N0 nm off k n m n' : Nat} {H0 H : Nat → Option HObj} {hn : List Nat} {cs : List PV} (hN : nb + 8 ≤ N0) (hnm : nm < N0) (hmem : nm ∈ hn) (hnb : ¬ (nb ≤ nm ∧ nm < nb + 8)) (h1 : H nm = some (.box cs)) (hold : ∀ x, x < N0 → x ≠ nm → H x = H0 x) (hp : intsL cs) (hn' : n = n') : EndI (some [.bs nm off k n m]) (.bs nm off k n' m) [(nm, some (.box cs))] H0 H nb N0 hn := by
  subst hn'
  have ephi : phi nb N0 (fun _ => 0) nm = nm := phi_old hnb
  refine ⟨_, fun _ => 0, rfl, ?_, .inl hmem, fun x hx hw hxn => ?_, fun x hx o ho => ?_, fun x hx y hy _ _ h1 h2 _ _ hne => ?_⟩
  · show PV.bs (phi nb N0 (fun _ => 0) nm) off k n m = .bs nm off k n m
    rw [ephi]
  · exact hold x hx (fun e => hw _ (List.mem_singleton.2 rfl) e.symm)
  · simp only [List.mem_singleton] at hx
    subst hx
    cases ho
    exact ⟨by rw [ephi, plain_ren hp]; exact h1, plain_ok hp _⟩
  · simp only [List.mem_singleton] at hx
    subst hx
    exact absurd ⟨h1, h2⟩ hnb
theorem deleteB (g : Nat) (v : Int) (p : GHole → Bool) (hp : ∀ x, CallsTo Try.prog g [.int .i64 v, .agg x.cs] (.bool (p x)) []) (nm : Nat) (l : List GHole) (hl : l.length ≤ 1000000) : InTo Try.prog 40 [.bs nm 0 13 l.length l.length, .clo (.func g) [.int .i64 v] []] [(nm, .box (boxH l))] (fun _ => .bs nm 0 13 (keep p l).length l.length) (fun _ => [(nm, some (.box (boxH (keep p l) ++ zerosH (l.length - (keep p l).length))))]) := by
  refine inTo_of mixed Try.func40 rfl Try.ntmps40 Try.results40 (by kernel_rfl) (by kernel_rfl) (by simp) (by simp) [] (fun H0 N0 nb hH0 hN0 => ?_)
  have hbox : H0 nm = some (.box (boxH l)) := (hH0 (nm, .box (boxH l)) (by simp)).1
  have hnmN : nm < N0 := (hH0 (nm, .box (boxH l)) (by simp)).2.1
  have hnb : ¬ (nb ≤ nm ∧ nm < nb + 8) := (hH0 (nm, .box (boxH l)) (by simp)).2.2
  have hplain := plain_app (plain_box (keep p l)) (plain_zeros (l.length - (keep p l).length))
  try simp only [hbox, ↓Wd0, Wr0, Wr1, opnds, ofVal, ofValC, PV.cells, PV.one, PV.fit, partE, setL, pickE, intE, strE, eqC, eqCs, kindOK, aggEqE, binE, unaE, convE, fieldE, faddrE, iaddrE, indexE, loE, sliceE, nilE, fillP, buildE, elemsE, bslE, lenE, appE, stripC, strip1, strip1L, strip, tupV, resV, convT, convN, sliceB, sliceA, sliceO, convB, clearE, appB, lookE, insE, keyOK, reduceCtorEq, ↓reduceIte, Nat.reduceAdd, Nat.reduceMul, Nat.reduceSub, Nat.reduceEqDiff, Nat.reduceLeDiff, Nat.reduceBEq, Int.reduceToNat, Nat.reduceLT, Int.reduceBEq, Int.reduceBNe, Int.reduceLT, Int.reduceLE, Int.reduceGT, Int.reduceGE, UInt8.reduceToNat, Int.reduceNeg, Int.reduceAdd, Int.reduceSub, Wt]
  refine inD (indexB g v p hp nm l hl) (fun x hx => ?_) ?_
  · simp only [List.mem_singleton] at hx
    subst hx
    exact hbox
  try simp only [hbox, ↓Wd0, Wr0, Wr1, opnds, ofVal, ofValC, PV.cells, PV.one, PV.fit, partE, setL, pickE, intE, strE, eqC, eqCs, kindOK, aggEqE, binE, unaE, convE, fieldE, faddrE, iaddrE, indexE, loE, sliceE, nilE, fillP, buildE, elemsE, bslE, lenE, appE, stripC, strip1, strip1L, strip, tupV, resV, convT, convN, sliceB, sliceA, sliceO, convB, clearE, appB, lookE, insE, keyOK, reduceCtorEq, ↓reduceIte, Nat.reduceAdd, Nat.reduceMul, Nat.reduceSub, Nat.reduceEqDiff, Nat.reduceLeDiff, Nat.reduceBEq, Int.reduceToNat, Nat.reduceLT, Int.reduceBEq, Int.reduceBNe, Int.reduceLT, Int.reduceLE, Int.reduceGT, Int.reduceGE, UInt8.reduceToNat, Int.reduceNeg, Int.reduceAdd, Int.reduceSub, Wt]
  refine ifD (fun hb => ?_) (fun hb => ?_)
  · have hk : keep p l = l := by
      have := keep_none (p := p) (l := l) (i := l.length) (Nat.le_refl _) (fun j hj => idx_neg l.length 0 (by simpa [idxH] using hb) j (by omega) (by omega))
      simpa using this
    try simp only [hbox, ↓Wd0, Wr0, Wr1, opnds, ofVal, ofValC, PV.cells, PV.one, PV.fit, partE, setL, pickE, intE, strE, eqC, eqCs, kindOK, aggEqE, binE, unaE, convE, fieldE, faddrE, iaddrE, indexE, loE, sliceE, nilE, fillP, buildE, elemsE, bslE, lenE, appE, stripC, strip1, strip1L, strip, tupV, resV, convT, convN, sliceB, sliceA, sliceO, convB, clearE, appB, lookE, insE, keyOK, reduceCtorEq, ↓reduceIte, Nat.reduceAdd, Nat.reduceMul, Nat.reduceSub, Nat.reduceEqDiff, Nat.reduceLeDiff, Nat.reduceBEq, Int.reduceToNat, Nat.reduceLT, Int.reduceBEq, Int.reduceBNe, Int.reduceLT, Int.reduceLE, Int.reduceGT, Int.reduceGE, UInt8.reduceToNat, Int.reduceNeg, Int.reduceAdd, Int.reduceSub, Wt]
    rw [hk] at hplain ⊢
    refine endI_bs hN0 hnmN (by simp) hnb ?_ (fun x hx _ => rfl) hplain rfl
    rw [hbox, Nat.sub_self]
    simp [zerosH]
  · obtain ⟨i0, hi, _, hi2, hi3, hi4⟩ := idx_pos (p := p) (l := l) l.length 0 (by simpa [idxH] using hb)
    have hidx : idxH p l = (i0 : Int) := hi
    have hk0 := keep_none (p := p) (l := l) (i := i0) (by omega) (fun j hj => hi4 j (by omega) hj)
    have ew := wrap_succ (k := i0) (by omega)
    have hr0 := rowJ_hit (p := p) (l := l) (j := i0) (by omega) hi3
    have hrl : rowJ p l (i0 + 1) = l := by
      rw [hr0.2]
      unfold rowJ
      rw [hk0]
      simp [Nat.min_eq_left (show i0 ≤ l.length by omega)]
    have hkl : (keep p (l.take (i0 + 1))).length = i0 := by rw [hr0.1, hk0]; simp; omega
    try simp only [hbox, hidx, ew, ↓Wd0, Wr0, Wr1, opnds, ofVal, ofValC, PV.cells, PV.one, PV.fit, partE, setL, pickE, intE, strE, eqC, eqCs, kindOK, aggEqE, binE, unaE, convE, fieldE, faddrE, iaddrE, indexE, loE, sliceE, nilE, fillP, buildE, elemsE, bslE, lenE, appE, stripC, strip1, strip1L, strip, tupV, resV, convT, convN, sliceB, sliceA, sliceO, convB, clearE, appB, lookE, insE, keyOK, reduceCtorEq, ↓reduceIte, Nat.reduceAdd, Nat.reduceMul, Nat.reduceSub, Nat.reduceEqDiff, Nat.reduceLeDiff, Nat.reduceBEq, Int.reduceToNat, Nat.reduceLT, Int.reduceBEq, Int.reduceBNe, Int.reduceLT, Int.reduceLE, Int.reduceGT, Int.reduceGE, UInt8.reduceToNat, Int.reduceNeg, Int.reduceAdd, Int.reduceSub, Wt]
    refine loopD (M := []) mixed (by kernel_rfl) [5, 6, 7, 16, 17, 18, 19, 20, 21, 22, 23, 24, 25, 26, 27, 28, 29, 30, 31, 32, 33, 34, 35] (by kernel_rfl) (fun n f H N => ∃ j : Nat, j ≤ l.length ∧ i0 < j ∧ f 6 = .int .i64 j ∧ n = l.length - j ∧ f 5 = .int .i64 (keep p (l.take j)).length ∧ N0 ≤ N ∧ H nm = some (.box (boxH (rowJ p l j))) ∧ ∀ x, x < N0 → x ≠ nm → H x = H0 x) ⟨_, i0 + 1, by omega, by omega, rfl, rfl, by rw [hkl, ← hidx]; rfl, by omega, by rw [hrl]; exact hbox, fun _ _ _ => rfl⟩ ?_
    rintro n f H N ⟨j, hj, hij, hf, rfl, hf5, hN, hH, hold⟩
    have hkj := keep_len p l j
    try simp (disch := omega) only [hf, hf5, hH, ne_far, ne_far', ne_at, ne_at', far_far, far_at, at_far, lt_far, ↓Wd0, Wr0, Wr1, opnds, ofVal, ofValC, PV.cells, PV.one, PV.fit, partE, setL, pickE, intE, strE, eqC, eqCs, kindOK, aggEqE, binE, unaE, convE, fieldE, faddrE, iaddrE, indexE, loE, sliceE, nilE, fillP, buildE, elemsE, bslE, lenE, appE, stripC, strip1, strip1L, strip, tupV, resV, convT, convN, sliceB, sliceA, sliceO, convB, clearE, appB, lookE, insE, keyOK, reduceCtorEq, ↓reduceIte, Nat.reduceAdd, Nat.reduceMul, Nat.reduceSub, Nat.reduceEqDiff, Nat.reduceLeDiff, Nat.reduceBEq, Int.reduceToNat, Nat.reduceLT, Int.reduceBEq, Int.reduceBNe, Int.reduceLT, Int.reduceLE, Int.reduceGT, Int.reduceGE, UInt8.reduceToNat, Int.reduceNeg, Int.reduceAdd, Int.reduceSub, Wt]
    refine ifD (fun hb => ?_) (fun hb => ?_)
    · have hb' : (j : Int) < l.length := of_decide_eq_true hb
      have ewj := wrap_succ (k := j) (by omega)
      have e0 : 0 + j * 13 = j * 13 := by omega
      have e0' : 0 + (j * 13 + 13) = j * 13 + 13 := by omega
      have e1 : (j * 13 + 13 ≤ (boxH (rowJ p l j)).length) = True := eq_true (by rw [boxH_len, rowJ_len p hj]; omega)
      have e2 := boxH_at (l := rowJ p l j) (k := j) (by rw [rowJ_len p hj]; omega)
      rw [rowJ_get] at e2
      try simp (disch := omega) only [hf, hf5, hH, e1, e0, e0', e2, if_true, GHole.cs, ne_far, ne_far', ne_at, ne_at', far_far, far_at, at_far, lt_far, ↓Wd0, Wr0, Wr1, opnds, ofVal, ofValC, PV.cells, PV.one, PV.fit, partE, setL, pickE, intE, strE, eqC, eqCs, kindOK, aggEqE, binE, unaE, convE, fieldE, faddrE, iaddrE, indexE, loE, sliceE, nilE, fillP, buildE, elemsE, bslE, lenE, appE, stripC, strip1, strip1L, strip, tupV, resV, convT, convN, sliceB, sliceA, sliceO, convB, clearE, appB, lookE, insE, keyOK, reduceCtorEq, ↓reduceIte, Nat.reduceAdd, Nat.reduceMul, Nat.reduceSub, Nat.reduceEqDiff, Nat.reduceLeDiff, Nat.reduceBEq, Int.reduceToNat, Nat.reduceLT, Int.reduceBEq, Int.reduceBNe, Int.reduceLT, Int.reduceLE, Int.reduceGT, Int.reduceGE, UInt8.reduceToNat, Int.reduceNeg, Int.reduceAdd, Int.reduceSub, Wt]
      refine ⟨by omega, ?_⟩
      refine calD (hp (l.getD j default)) ?_
      try simp (disch := omega) only [hf, hf5, hH, ne_far, ne_far', ne_at, ne_at', far_far, far_at, at_far, lt_far, ↓Wd0, Wr0, Wr1, opnds, ofVal, ofValC, PV.cells, PV.one, PV.fit, partE, setL, pickE, intE, strE, eqC, eqCs, kindOK, aggEqE, binE, unaE, convE, fieldE, faddrE, iaddrE, indexE, loE, sliceE, nilE, fillP, buildE, elemsE, bslE, lenE, appE, stripC, strip1, strip1L, strip, tupV, resV, convT, convN, sliceB, sliceA, sliceO, convB, clearE, appB, lookE, insE, keyOK, reduceCtorEq, ↓reduceIte, Nat.reduceAdd, Nat.reduceMul, Nat.reduceSub, Nat.reduceEqDiff, Nat.reduceLeDiff, Nat.reduceBEq, Int.reduceToNat, Nat.reduceLT, Int.reduceBEq, Int.reduceBNe, Int.reduceLT, Int.reduceLE, Int.reduceGT, Int.reduceGE, UInt8.reduceToNat, Int.reduceNeg, Int.reduceAdd, Int.reduceSub, Wt]
      refine ifD (fun hb => ?_) (fun hb => ?_)
      · have hpj : p (l.getD j default) = false := by simpa using hb
        obtain ⟨m1, m2⟩ := rowJ_miss hb' hpj
        have ewi := wrap_succ (k := (keep p (l.take j)).length) (by omega)
        have e3 : 0 + (keep p (l.take j)).length * 13 = (keep p (l.take j)).length * 13 := by omega
        have e4 : ((keep p (l.take j)).length * 13 + 13 ≤ (boxH (rowJ p l j)).length) = True := eq_true (by rw [boxH_len, rowJ_len p hj]; omega)
        have es := boxH_set (l := rowJ p l j) (k := (keep p (l.take j)).length) (l.getD j default) (by rw [rowJ_len p hj]; omega)
        rw [← m2] at es
        simp only [GHole.cs, setL, Nat.add_assoc, Nat.reduceAdd] at es
        try simp (disch := omega) only [hf, hf5, hH, e3, e4, if_true, es, ne_far, ne_far', ne_at, ne_at', far_far, far_at, at_far, lt_far, ↓Wd0, Wr0, Wr1, opnds, ofVal, ofValC, PV.cells, PV.one, PV.fit, partE, setL, pickE, intE, strE, eqC, eqCs, kindOK, aggEqE, binE, unaE, convE, fieldE, faddrE, iaddrE, indexE, loE, sliceE, nilE, fillP, buildE, elemsE, bslE, lenE, appE, stripC, strip1, strip1L, strip, tupV, resV, convT, convN, sliceB, sliceA, sliceO, convB, clearE, appB, lookE, insE, keyOK, reduceCtorEq, ↓reduceIte, Nat.reduceAdd, Nat.reduceMul, Nat.reduceSub, Nat.reduceEqDiff, Nat.reduceLeDiff, Nat.reduceBEq, Int.reduceToNat, Nat.reduceLT, Int.reduceBEq, Int.reduceBNe, Int.reduceLT, Int.reduceLE, Int.reduceGT, Int.reduceGE, UInt8.reduceToNat, Int.reduceNeg, Int.reduceAdd, Int.reduceSub, Wt]
        refine ⟨by omega, _, by omega, j + 1, by omega, by omega, ewj, rfl, by rw [ewi, m1], by omega, rfl, fun x hx hxn => ?_⟩
        rw [if_neg hxn]
        repeat rw [if_neg (by omega)]
        exact hold x hx hxn
      · have hpj : p (l.getD j default) = true := by simpa using hb
        obtain ⟨m1, m2⟩ := rowJ_hit hb' hpj
        try simp (disch := omega) only [hf, hf5, hH, ne_far, ne_far', ne_at, ne_at', far_far, far_at, at_far, lt_far, ↓Wd0, Wr0, Wr1, opnds, ofVal, ofValC, PV.cells, PV.one, PV.fit, partE, setL, pickE, intE, strE, eqC, eqCs, kindOK, aggEqE, binE, unaE, convE, fieldE, faddrE, iaddrE, indexE, loE, sliceE, nilE, fillP, buildE, elemsE, bslE, lenE, appE, stripC, strip1, strip1L, strip, tupV, resV, convT, convN, sliceB, sliceA, sliceO, convB, clearE, appB, lookE, insE, keyOK, reduceCtorEq, ↓reduceIte, Nat.reduceAdd, Nat.reduceMul, Nat.reduceSub, Nat.reduceEqDiff, Nat.reduceLeDiff, Nat.reduceBEq, Int.reduceToNat, Nat.reduceLT, Int.reduceBEq, Int.reduceBNe, Int.reduceLT, Int.reduceLE, Int.reduceGT, Int.reduceGE, UInt8.reduceToNat, Int.reduceNeg, Int.reduceAdd, Int.reduceSub, Wt]
        refine ⟨_, by omega, j + 1, by omega, by omega, ewj, rfl, by rw [m1], by omega, by rw [m2], fun x hx hxn => ?_⟩
        repeat rw [if_neg (by omega)]
        exact hold x hx hxn
    · have hjl : j = l.length := by have := of_decide_eq_false hb; omega
      subst hjl
      have hkt : keep p (l.take l.length) = keep p l := by simp
      rw [hkt] at hf5 hkj
      try simp (disch := omega) only [hf, hf5, hH, ne_far, ne_far', ne_at, ne_at', far_far, far_at, at_far, lt_far, ↓Wd0, Wr0, Wr1, opnds, ofVal, ofValC, PV.cells, PV.one, PV.fit, partE, setL, pickE, intE, strE, eqC, eqCs, kindOK, aggEqE, binE, unaE, convE, fieldE, faddrE, iaddrE, indexE, loE, sliceE, nilE, fillP, buildE, elemsE, bslE, lenE, appE, stripC, strip1, strip1L, strip, tupV, resV, convT, convN, sliceB, sliceA, sliceO, convB, clearE, appB, lookE, insE, keyOK, reduceCtorEq, ↓reduceIte, Nat.reduceAdd, Nat.reduceMul, Nat.reduceSub, Nat.reduceEqDiff, Nat.reduceLeDiff, Nat.reduceBEq, Int.reduceToNat, Nat.reduceLT, Int.reduceBEq, Int.reduceBNe, Int.reduceLT, Int.reduceLE, Int.reduceGT, Int.reduceGE, UInt8.reduceToNat, Int.reduceNeg, Int.reduceAdd, Int.reduceSub, Wt]
      have hrl2 := rowJ_len p (l := l) (j := l.length) (Nat.le_refl _)
      refine ⟨by omega, by rw [boxH_len, hrl2]; omega, by omega, ?_⟩
      rw [Nat.sub_zero, Nat.sub_zero]
      have hz : setL (boxH (rowJ p l l.length)) (0 + (keep p l).length * 13) (zerosH (l.length - (keep p l).length)) = boxH (keep p l) ++ zerosH (l.length - (keep p l).length) := by
        have hzl : (zerosH (l.length - (keep p l).length)).length = (l.length - (keep p l).length) * 13 := by
          unfold zerosH
          rw [List.length_flatten, List.map_replicate, List.sum_replicate_nat]
          rfl
        rw [setL_eq _ _ _ (by rw [boxH_len, hrl2, hzl]; omega), Nat.zero_add, boxH_take, hzl, List.drop_of_length_le (by rw [boxH_len, hrl2]; omega), List.append_nil]
        unfold rowJ
        rw [hkt, List.take_left' rfl]
      exact endI_bs hN0 hnmN (by simp) hnb (by rw [upd_same]; exact congrArg (fun c => some (HObj.box c)) hz) (fun x hx hxn => by rw [upd_ne _ _ hxn]; exact hold x hx hxn) hplain rfl
end Go.Proofs.Ytmdijfchljgdaaa
