import Derived.Test.YtbpagmhhjbcceaaJe
/-! The next line of a reply. -/
set_option linter.unusedSimpArgs false
set_option linter.unusedVariables false
set_option maxHeartbeats 4000000
set_option maxRecDepth 100000
namespace Go.Proofs.Ytbpagmhhjbcceaa
open Go.RowKit

theorem endI_tok {nb N0 g t : Nat} {H0 H : Nat → Option HObj} {hn : List Nat} {ps : List PV} {r : PV} {a b : List PV} {xs : List (List PV)} {j e k n : Nat} (hr : r = tupV ps) (hm : ∀ φ, mapT φ r = r) (hok : ∀ Q, okT Q r) (ha : a.all calmC = true) (hb : b.all calmC = true) (hN : nb + 8 ≤ N0) (hg : ¬ (nb ≤ g ∧ g < nb + 8))
    (h1 : H g = some (.box (a ++ .sl (N0 + j) xs :: b))) (h2 : H (N0 + j) = some (.tok e k n)) (hold : ∀ x, x < N0 → x ≠ g → x ≠ t → H x = H0 x) : EndI (some ps) r [(g, some (.box (a ++ .sl (nb + 2) xs :: b))), (t, none), (nb + 2, some (.tok e k n))] H0 H nb N0 hn := by
  have hp : phi nb N0 (fun _ => j) (nb + 2) = N0 + j := phi_new (by omega)
  refine ⟨_, fun _ => j, rfl, (hm _).trans hr, hok _, fun x hx hw hxn => ?_, fun x hx o ho => ?_, fun x hx y hy hx0 hy0 hx1 hx2 hy1 hy2 hne => ?_⟩
  · exact hold x hx (fun e => hw _ (List.mem_cons_self ..) e.symm) (fun e => hw (t, none) (by simp) e.symm)
  · simp only [List.mem_cons, List.not_mem_nil, or_false] at hx
    rcases hx with rfl | rfl | rfl
    · cases ho
      refine ⟨?_, ?_⟩
      · rw [phi_old hg, h1]
        have e1 : (a ++ PV.sl (nb + 2) xs :: b).map (mapC (phi nb N0 (fun _ => j))) = a ++ PV.sl (N0 + j) xs :: b := by
          have ea : a.map (mapC (phi nb N0 (fun _ => j))) = a := by
            conv => rhs; rw [← List.map_id a]
            exact List.map_congr_left fun p hp => calm_map (List.all_eq_true.1 ha p hp) _
          have eb : b.map (mapC (phi nb N0 (fun _ => j))) = b := by
            conv => rhs; rw [← List.map_id b]
            exact List.map_congr_left fun p hp => calm_map (List.all_eq_true.1 hb p hp) _
          rw [List.map_append, List.map_cons, ea, eb]
          have es : mapC (phi nb N0 (fun _ => j)) (.sl (nb + 2) xs) = .sl (N0 + j) xs := by
            show (if nb + 2 < 2 then PV.sl (nb + 2) xs else PV.sl (phi nb N0 (fun _ => j) (nb + 2)) xs) = _
            rw [hp]
            split
            · omega
            · rfl
          rw [es]
        exact congrArg (fun c => some (HObj.box c)) e1.symm
      · intro p hp
        rcases List.mem_append.1 hp with hp | hp
        · exact calm_ok (List.all_eq_true.1 ha p hp) _
        · rcases List.mem_cons.1 hp with rfl | hp
          · exact fun _ => .inr ⟨by omega, by omega⟩
          · exact calm_ok (List.all_eq_true.1 hb p hp) _
    · cases ho
    · cases ho
      exact ⟨by rw [hp]; exact h2, trivial⟩
  · simp only [List.mem_cons, List.not_mem_nil, or_false] at hx hy
    rcases hx with rfl | rfl | rfl
    · exact absurd ⟨hx1, hx2⟩ hg
    · exact absurd rfl hx0
    · rcases hy with rfl | rfl | rfl
      · exact absurd ⟨hy1, hy2⟩ hg
      · exact absurd rfl hy0
      · exact absurd rfl hne
theorem end_tok (g t n : Nat) (code : Int) (ls : List (List PV)) (x0 x1 x2 y0 y1 y2 : PV) (ht : 2 ≤ t) : InTo Try.prog 30 [.ptr g 0, .int .i64 code, .sl t ls] [(g, .box [x0, x1, x2, y0, y1, y2]), (t, .tok 9 1 n)] (fun _ => .tup []) (fun _ => [(g, some (.box (doneC code (.sl t ls))))]) := by
  refine inTo_of mixed Try.func30 rfl Try.ntmps30 Try.results30 (by kernel_rfl) (by kernel_rfl) (by simp) (by simp) [] (fun H0 N0 nb hH0 hN0 => ?_)
  have hbox := (hH0 (g, .box [x0, x1, x2, y0, y1, y2]) (by simp)).1
  have hgN := (hH0 (g, .box [x0, x1, x2, y0, y1, y2]) (by simp)).2.1
  have hgb := (hH0 (g, .box [x0, x1, x2, y0, y1, y2]) (by simp)).2.2
  have htb := (hH0 (t, .tok 9 1 n) (by simp)).2.2
  simp only at hbox hgN hgb htb
  try simp only [hbox, ↓Wd0, Wr0, Wr1, opnds, ofVal, ofValC, PV.cells, PV.one, PV.fit, partE, setL, pickE, intE, strE, eqC, eqCs, kindOK, aggEqE, binE, unaE, convE, fieldE, faddrE, iaddrE, indexE, loE, sliceE, nilE, fillP, buildE, elemsE, bslE, lenE, appE, stripC, strip1, strip1L, strip, tupV, resV, convT, convN, sliceB, sliceA, sliceO, convB, clearE, appB, lookE, insE, keyOK, reduceCtorEq, ↓reduceIte, Nat.reduceAdd, Nat.reduceMul, Nat.reduceSub, Nat.reduceEqDiff, Nat.reduceLeDiff, Nat.reduceBEq, Int.reduceToNat, Nat.reduceLT, Int.reduceBEq, Int.reduceBNe, Int.reduceLT, Int.reduceLE, Int.reduceGT, Int.reduceGE, UInt8.reduceToNat, Int.reduceNeg, Int.reduceAdd, Int.reduceSub, Wt]
  have et : mapC (phi nb N0 fun _ => 0) (.sl t ls) = .sl t ls := by
    show (if t < 2 then PV.sl t ls else PV.sl (phi nb N0 (fun _ => 0) t) ls) = _
    rw [phi_old htb, ite_self]
  refine ⟨_, fun _ => 0, rfl, rfl, by simp [okT, ok1, okC], fun x hx hw hxn => ?_, fun x hx o ho => ?_, fun x hx y hy _ _ h1 h2 _ _ hne => ?_⟩
  · have hne : x ≠ g := fun e => hw _ (List.mem_singleton.2 rfl) e.symm
    rw [upd_ne _ _ hne, upd_ne _ _ hne, upd_ne _ _ hne]
  · simp only [List.mem_singleton] at hx
    subst hx
    cases ho
    refine ⟨?_, fun p hp => ?_⟩
    · rw [phi_old hgb, upd_same]
      refine congrArg (fun c => some (HObj.box c)) ?_
      simp only [doneC, List.map_cons, List.map_nil, et]
      rfl
    · simp only [doneC, List.mem_cons, List.not_mem_nil, or_false] at hp
      rcases hp with rfl | rfl | rfl | rfl | rfl | rfl
      · trivial
      · exact fun h => absurd h (by omega)
      · trivial
      · trivial
      · exact fun _ => .inl (by simp)
      · trivial
  · simp only [List.mem_singleton] at hx
    subst hx
    exact absurd ⟨h1, h2⟩ hgb
def nextB (c : Int) (l : List (List UInt8)) (s : List UInt8) : List (List UInt8) := l ++ [(endsB (dig c) s).1]
theorem next_full (g t : Nat) (c : Int) (l : List (List UInt8)) (s : List UInt8) (hc : 0 ≤ c ∧ c ≤ 100000) (hl : lastB (dig c) s = false) (hn : 19 ≤ l.length) (ht : 2 ≤ t) (htg : t ≠ g) : InTo Try.prog 27 [.ptr g 0, .str s] [(g, .box (openC c (.sl t (l.map textE)))), (t, .tok 9 1 l.length)] (fun _ => .int .i64 5) (fun _ => [(g, some (.box failC))]) := by
  have d1 : decide ((l.length : Int) ≥ 19) = true := decide_eq_true (by omega)
  refine inTo_of mixed Try.func27 rfl Try.ntmps27 Try.results27 (by kernel_rfl) (by kernel_rfl) (by simp) (by simp) [] (fun H0 N0 nb hH0 hN0 => ?_)
  have hbox := (hH0 (g, .box (openC c (.sl t (l.map textE)))) (by simp)).1
  have hgN := (hH0 (g, .box (openC c (.sl t (l.map textE)))) (by simp)).2.1
  have hgb := (hH0 (g, .box (openC c (.sl t (l.map textE)))) (by simp)).2.2
  have htok := (hH0 (t, .tok 9 1 l.length) (by simp)).1
  have htN := (hH0 (t, .tok 9 1 l.length) (by simp)).2.1
  have htb := (hH0 (t, .tok 9 1 l.length) (by simp)).2.2
  simp only [openC] at hbox
  simp only at hgN hgb htok htN htb
  have f0 : (t = 0) = False := eq_false (by omega)
  have f1 : (t = g) = False := eq_false htg
  have f2 : (g = t) = False := eq_false (fun e => htg e.symm)
  have hlb : (endsB (dig c) s).2 = lastB (dig c) s := rfl
  try simp only [hbox, htok, ↓Wd0, Wr0, Wr1, opnds, ofVal, ofValC, PV.cells, PV.one, PV.fit, partE, setL, pickE, intE, strE, eqC, eqCs, kindOK, aggEqE, binE, unaE, convE, fieldE, faddrE, iaddrE, indexE, loE, sliceE, nilE, fillP, buildE, elemsE, bslE, lenE, appE, stripC, strip1, strip1L, strip, tupV, resV, convT, convN, sliceB, sliceA, sliceO, convB, clearE, appB, lookE, insE, keyOK, reduceCtorEq, ↓reduceIte, Nat.reduceAdd, Nat.reduceMul, Nat.reduceSub, Nat.reduceEqDiff, Nat.reduceLeDiff, Nat.reduceBEq, Int.reduceToNat, Nat.reduceLT, Int.reduceBEq, Int.reduceBNe, Int.reduceLT, Int.reduceLE, Int.reduceGT, Int.reduceGE, UInt8.reduceToNat, Int.reduceNeg, Int.reduceAdd, Int.reduceSub, Wt]
  refine calD (ends_to c hc s) ?_
  try simp only [endsP, hlb, hl, hbox, htok, List.length_map, ↓Wd0, Wr0, Wr1, opnds, ofVal, ofValC, PV.cells, PV.one, PV.fit, partE, setL, pickE, intE, strE, eqC, eqCs, kindOK, aggEqE, binE, unaE, convE, fieldE, faddrE, iaddrE, indexE, loE, sliceE, nilE, fillP, buildE, elemsE, bslE, lenE, appE, stripC, strip1, strip1L, strip, tupV, resV, convT, convN, sliceB, sliceA, sliceO, convB, clearE, appB, lookE, insE, keyOK, reduceCtorEq, ↓reduceIte, Nat.reduceAdd, Nat.reduceMul, Nat.reduceSub, Nat.reduceEqDiff, Nat.reduceLeDiff, Nat.reduceBEq, Int.reduceToNat, Nat.reduceLT, Int.reduceBEq, Int.reduceBNe, Int.reduceLT, Int.reduceLE, Int.reduceGT, Int.reduceGE, UInt8.reduceToNat, Int.reduceNeg, Int.reduceAdd, Int.reduceSub, Wt]
  try simp only [d1, ↓Wd0, Wr0, Wr1, opnds, ofVal, ofValC, PV.cells, PV.one, PV.fit, partE, setL, pickE, intE, strE, eqC, eqCs, kindOK, aggEqE, binE, unaE, convE, fieldE, faddrE, iaddrE, indexE, loE, sliceE, nilE, fillP, buildE, elemsE, bslE, lenE, appE, stripC, strip1, strip1L, strip, tupV, resV, convT, convN, sliceB, sliceA, sliceO, convB, clearE, appB, lookE, insE, keyOK, reduceCtorEq, ↓reduceIte, Nat.reduceAdd, Nat.reduceMul, Nat.reduceSub, Nat.reduceEqDiff, Nat.reduceLeDiff, Nat.reduceBEq, Int.reduceToNat, Nat.reduceLT, Int.reduceBEq, Int.reduceBNe, Int.reduceLT, Int.reduceLE, Int.reduceGT, Int.reduceGE, UInt8.reduceToNat, Int.reduceNeg, Int.reduceAdd, Int.reduceSub, Wt]
  refine inD (fail_in g 5 (.int .i64 c) (.sl t (l.map textE)) (.bool true) (.int .i64 0) (.sl 0 []) (.bool false) rfl) (fun x hx => ?_) ?_
  · simp only [List.mem_singleton] at hx
    subst hx
    exact hbox
  try simp only [hbox, ↓Wd0, Wr0, Wr1, opnds, ofVal, ofValC, PV.cells, PV.one, PV.fit, partE, setL, pickE, intE, strE, eqC, eqCs, kindOK, aggEqE, binE, unaE, convE, fieldE, faddrE, iaddrE, indexE, loE, sliceE, nilE, fillP, buildE, elemsE, bslE, lenE, appE, stripC, strip1, strip1L, strip, tupV, resV, convT, convN, sliceB, sliceA, sliceO, convB, clearE, appB, lookE, insE, keyOK, reduceCtorEq, ↓reduceIte, Nat.reduceAdd, Nat.reduceMul, Nat.reduceSub, Nat.reduceEqDiff, Nat.reduceLeDiff, Nat.reduceBEq, Int.reduceToNat, Nat.reduceLT, Int.reduceBEq, Int.reduceBNe, Int.reduceLT, Int.reduceLE, Int.reduceGT, Int.reduceGE, UInt8.reduceToNat, Int.reduceNeg, Int.reduceAdd, Int.reduceSub, Wt]
  refine endI_box rfl (fun _ => rfl) (fun _ => trivial) (by rfl) hgb ?_ ?_
  · rw [upd_same]; rfl
  · exact fun x hx hxn => upd_ne _ _ hxn
theorem next_more (g t : Nat) (c : Int) (l : List (List UInt8)) (s : List UInt8) (hc : 0 ≤ c ∧ c ≤ 100000) (hl : lastB (dig c) s = false) (hn : l.length < 19) (ht : 2 ≤ t) (htg : t ≠ g) : InTo Try.prog 27 [.ptr g 0, .str s] [(g, .box (openC c (.sl t (l.map textE)))), (t, .tok 9 1 l.length)] (fun _ => .int .i64 0) (fun nb => [(g, some (.box (openC c (.sl (nb + 2) ((l ++ [s]).map textE))))), (t, none), (nb + 2, some (.tok 9 1 (l ++ [s]).length))]) := by
  have d1 : decide ((l.length : Int) ≥ 19) = false := decide_eq_false (by omega)
  refine inTo_of mixed Try.func27 rfl Try.ntmps27 Try.results27 (by kernel_rfl) (by kernel_rfl) (by simp) (by simp) [] (fun H0 N0 nb hH0 hN0 => ?_)
  have hbox := (hH0 (g, .box (openC c (.sl t (l.map textE)))) (by simp)).1
  have hgN := (hH0 (g, .box (openC c (.sl t (l.map textE)))) (by simp)).2.1
  have hgb := (hH0 (g, .box (openC c (.sl t (l.map textE)))) (by simp)).2.2
  have htok := (hH0 (t, .tok 9 1 l.length) (by simp)).1
  have htN := (hH0 (t, .tok 9 1 l.length) (by simp)).2.1
  have htb := (hH0 (t, .tok 9 1 l.length) (by simp)).2.2
  simp only [openC] at hbox
  simp only at hgN hgb htok htN htb
  have f0 : (t = 0) = False := eq_false (by omega)
  have f1 : (t = g) = False := eq_false htg
  have f2 : (g = t) = False := eq_false (fun e => htg e.symm)
  have hlb : (endsB (dig c) s).2 = lastB (dig c) s := rfl
  try simp only [hbox, htok, ↓Wd0, Wr0, Wr1, opnds, ofVal, ofValC, PV.cells, PV.one, PV.fit, partE, setL, pickE, intE, strE, eqC, eqCs, kindOK, aggEqE, binE, unaE, convE, fieldE, faddrE, iaddrE, indexE, loE, sliceE, nilE, fillP, buildE, elemsE, bslE, lenE, appE, stripC, strip1, strip1L, strip, tupV, resV, convT, convN, sliceB, sliceA, sliceO, convB, clearE, appB, lookE, insE, keyOK, reduceCtorEq, ↓reduceIte, Nat.reduceAdd, Nat.reduceMul, Nat.reduceSub, Nat.reduceEqDiff, Nat.reduceLeDiff, Nat.reduceBEq, Int.reduceToNat, Nat.reduceLT, Int.reduceBEq, Int.reduceBNe, Int.reduceLT, Int.reduceLE, Int.reduceGT, Int.reduceGE, UInt8.reduceToNat, Int.reduceNeg, Int.reduceAdd, Int.reduceSub, Wt]
  refine calD (ends_to c hc s) ?_
  try simp only [endsP, hlb, hl, hbox, htok, List.length_map, ↓Wd0, Wr0, Wr1, opnds, ofVal, ofValC, PV.cells, PV.one, PV.fit, partE, setL, pickE, intE, strE, eqC, eqCs, kindOK, aggEqE, binE, unaE, convE, fieldE, faddrE, iaddrE, indexE, loE, sliceE, nilE, fillP, buildE, elemsE, bslE, lenE, appE, stripC, strip1, strip1L, strip, tupV, resV, convT, convN, sliceB, sliceA, sliceO, convB, clearE, appB, lookE, insE, keyOK, reduceCtorEq, ↓reduceIte, Nat.reduceAdd, Nat.reduceMul, Nat.reduceSub, Nat.reduceEqDiff, Nat.reduceLeDiff, Nat.reduceBEq, Int.reduceToNat, Nat.reduceLT, Int.reduceBEq, Int.reduceBNe, Int.reduceLT, Int.reduceLE, Int.reduceGT, Int.reduceGE, UInt8.reduceToNat, Int.reduceNeg, Int.reduceAdd, Int.reduceSub, Wt]
  try simp (disch := omega) only [d1, hbox, htok, f0, f1, f2, if_false, List.length_map, ne_far, ne_far', ne_at, ne_at', far_far, far_at, at_far, lt_far, ↓Wd0, Wr0, Wr1, opnds, ofVal, ofValC, PV.cells, PV.one, PV.fit, partE, setL, pickE, intE, strE, eqC, eqCs, kindOK, aggEqE, binE, unaE, convE, fieldE, faddrE, iaddrE, indexE, loE, sliceE, nilE, fillP, buildE, elemsE, bslE, lenE, appE, stripC, strip1, strip1L, strip, tupV, resV, convT, convN, sliceB, sliceA, sliceO, convB, clearE, appB, lookE, insE, keyOK, reduceCtorEq, ↓reduceIte, Nat.reduceAdd, Nat.reduceMul, Nat.reduceSub, Nat.reduceEqDiff, Nat.reduceLeDiff, Nat.reduceBEq, Int.reduceToNat, Nat.reduceLT, Int.reduceBEq, Int.reduceBNe, Int.reduceLT, Int.reduceLE, Int.reduceGT, Int.reduceGE, UInt8.reduceToNat, Int.reduceNeg, Int.reduceAdd, Int.reduceSub, Wt]
  have hlen : (l ++ [s]).length = l.length + 1 := by simp
  have hmap : (l ++ [s]).map textE = l.map textE ++ [[PV.str s]] := by simp [textE]
  refine ⟨by omega, ?_⟩
  rw [hlen, hmap]
  refine endI_tok (a := [.int .i64 c]) (b := [.bool true, .int .i64 0, .sl 0 [], .bool false]) (j := 248) rfl (fun _ => rfl) (fun _ => trivial) rfl rfl hN0 hgb ?_ ?_ ?_
  · rw [upd_same]; rfl
  · rw [upd_ne _ _ (by omega), upd_same]
  · intro x hx hxg hxt
    rw [upd_ne _ _ hxg, upd_ne _ _ (by omega), upd_ne _ _ hxt]
theorem next_last (g t : Nat) (c : Int) (l : List (List UInt8)) (s : List UInt8) (hc : 0 ≤ c ∧ c ≤ 100000) (hl : lastB (dig c) s = true) (hn : l.length < 1000000) (ht : 2 ≤ t) (htg : t ≠ g) : InTo Try.prog 27 [.ptr g 0, .str s] [(g, .box (openC c (.sl t (l.map textE)))), (t, .tok 9 1 l.length)] (fun _ => .int .i64 0) (fun nb => [(g, some (.box (doneC c (.sl (nb + 2) ((nextB c l s).map textE))))), (t, none), (nb + 2, some (.tok 9 1 (nextB c l s).length))]) := by
  refine inTo_of mixed Try.func27 rfl Try.ntmps27 Try.results27 (by kernel_rfl) (by kernel_rfl) (by simp) (by simp) [] (fun H0 N0 nb hH0 hN0 => ?_)
  have hbox := (hH0 (g, .box (openC c (.sl t (l.map textE)))) (by simp)).1
  have hgN := (hH0 (g, .box (openC c (.sl t (l.map textE)))) (by simp)).2.1
  have hgb := (hH0 (g, .box (openC c (.sl t (l.map textE)))) (by simp)).2.2
  have htok := (hH0 (t, .tok 9 1 l.length) (by simp)).1
  have htN := (hH0 (t, .tok 9 1 l.length) (by simp)).2.1
  have htb := (hH0 (t, .tok 9 1 l.length) (by simp)).2.2
  simp only [openC] at hbox
  simp only at hgN hgb htok htN htb
  have f0 : (t = 0) = False := eq_false (by omega)
  have f1 : (t = g) = False := eq_false htg
  have f2 : (g = t) = False := eq_false (fun e => htg e.symm)
  have hlb : (endsB (dig c) s).2 = lastB (dig c) s := rfl
  try simp only [hbox, htok, ↓Wd0, Wr0, Wr1, opnds, ofVal, ofValC, PV.cells, PV.one, PV.fit, partE, setL, pickE, intE, strE, eqC, eqCs, kindOK, aggEqE, binE, unaE, convE, fieldE, faddrE, iaddrE, indexE, loE, sliceE, nilE, fillP, buildE, elemsE, bslE, lenE, appE, stripC, strip1, strip1L, strip, tupV, resV, convT, convN, sliceB, sliceA, sliceO, convB, clearE, appB, lookE, insE, keyOK, reduceCtorEq, ↓reduceIte, Nat.reduceAdd, Nat.reduceMul, Nat.reduceSub, Nat.reduceEqDiff, Nat.reduceLeDiff, Nat.reduceBEq, Int.reduceToNat, Nat.reduceLT, Int.reduceBEq, Int.reduceBNe, Int.reduceLT, Int.reduceLE, Int.reduceGT, Int.reduceGE, UInt8.reduceToNat, Int.reduceNeg, Int.reduceAdd, Int.reduceSub, Wt]
  refine calD (ends_to c hc s) ?_
  try simp only [endsP, hlb, hl, hbox, htok, List.length_map, ↓Wd0, Wr0, Wr1, opnds, ofVal, ofValC, PV.cells, PV.one, PV.fit, partE, setL, pickE, intE, strE, eqC, eqCs, kindOK, aggEqE, binE, unaE, convE, fieldE, faddrE, iaddrE, indexE, loE, sliceE, nilE, fillP, buildE, elemsE, bslE, lenE, appE, stripC, strip1, strip1L, strip, tupV, resV, convT, convN, sliceB, sliceA, sliceO, convB, clearE, appB, lookE, insE, keyOK, reduceCtorEq, ↓reduceIte, Nat.reduceAdd, Nat.reduceMul, Nat.reduceSub, Nat.reduceEqDiff, Nat.reduceLeDiff, Nat.reduceBEq, Int.reduceToNat, Nat.reduceLT, Int.reduceBEq, Int.reduceBNe, Int.reduceLT, Int.reduceLE, Int.reduceGT, Int.reduceGE, UInt8.reduceToNat, Int.reduceNeg, Int.reduceAdd, Int.reduceSub, Wt]
  try simp (disch := omega) only [hbox, htok, f0, f1, f2, if_false, List.length_map, ne_far, ne_far', ne_at, ne_at', far_far, far_at, at_far, lt_far, ↓Wd0, Wr0, Wr1, opnds, ofVal, ofValC, PV.cells, PV.one, PV.fit, partE, setL, pickE, intE, strE, eqC, eqCs, kindOK, aggEqE, binE, unaE, convE, fieldE, faddrE, iaddrE, indexE, loE, sliceE, nilE, fillP, buildE, elemsE, bslE, lenE, appE, stripC, strip1, strip1L, strip, tupV, resV, convT, convN, sliceB, sliceA, sliceO, convB, clearE, appB, lookE, insE, keyOK, reduceCtorEq, ↓reduceIte, Nat.reduceAdd, Nat.reduceMul, Nat.reduceSub, Nat.reduceEqDiff, Nat.reduceLeDiff, Nat.reduceBEq, Int.reduceToNat, Nat.reduceLT, Int.reduceBEq, Int.reduceBNe, Int.reduceLT, Int.reduceLE, Int.reduceGT, Int.reduceGE, UInt8.reduceToNat, Int.reduceNeg, Int.reduceAdd, Int.reduceSub, Wt]
  have hlen : (nextB c l s).length = l.length + 1 := by simp [nextB]
  have hmap : (nextB c l s).map textE = l.map textE ++ [[PV.str (endsB (dig c) s).1]] := by simp [nextB, textE]
  refine ⟨by omega, ⟨cmp_r (by simp [htg]; omega), cmp_r (by simp [htg]; omega)⟩, ?_⟩
  rw [hlen, hmap]
  refine inD (end_tok g (N0 + 224) (l.length + 1) c (l.map textE ++ [[PV.str (endsB (dig c) s).1]]) (.int .i64 c) (.sl t (l.map textE)) (.bool true) (.int .i64 0) (.sl 0 []) (.bool false) (by omega)) (fun x hx => ?_) ?_
  · simp only [List.mem_cons, List.not_mem_nil, or_false] at hx
    rcases hx with rfl | rfl
    · show upd (upd H0 t none) (N0 + 224) _ g = _
      rw [upd_ne _ _ (by omega), upd_ne _ _ (fun e => htg e.symm)]
      exact hbox
    · show upd (upd H0 t none) (N0 + 224) _ (N0 + 224) = _
      rw [upd_same]
  try simp (disch := omega) only [hbox, htok, f0, f1, f2, if_false, List.length_map, ne_far, ne_far', ne_at, ne_at', far_far, far_at, at_far, lt_far, ↓Wd0, Wr0, Wr1, opnds, ofVal, ofValC, PV.cells, PV.one, PV.fit, partE, setL, pickE, intE, strE, eqC, eqCs, kindOK, aggEqE, binE, unaE, convE, fieldE, faddrE, iaddrE, indexE, loE, sliceE, nilE, fillP, buildE, elemsE, bslE, lenE, appE, stripC, strip1, strip1L, strip, tupV, resV, convT, convN, sliceB, sliceA, sliceO, convB, clearE, appB, lookE, insE, keyOK, reduceCtorEq, ↓reduceIte, Nat.reduceAdd, Nat.reduceMul, Nat.reduceSub, Nat.reduceEqDiff, Nat.reduceLeDiff, Nat.reduceBEq, Int.reduceToNat, Nat.reduceLT, Int.reduceBEq, Int.reduceBNe, Int.reduceLT, Int.reduceLE, Int.reduceGT, Int.reduceGE, UInt8.reduceToNat, Int.reduceNeg, Int.reduceAdd, Int.reduceSub, Wt]
  refine ⟨⟨cmp_l (by kernel_rfl), cmp_l (by kernel_rfl), cmp_l (by kernel_rfl)⟩, ?_⟩
  refine endI_tok (a := [.int .i64 0, .sl 0 [], .bool false, .int .i64 c]) (b := [.bool true]) (j := 224) rfl (fun _ => rfl) (fun _ => trivial) rfl rfl hN0 hgb ?_ ?_ ?_
  · rw [upd_same]; rfl
  · rw [upd_ne _ _ (by omega), upd_same]
  · intro x hx hxg hxt
    rw [upd_ne _ _ hxg, upd_ne _ _ (by omega), upd_ne _ _ hxt]
end Go.Proofs.Ytbpagmhhjbcceaa
