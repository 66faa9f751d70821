import Derived.Test.YtgagnohelibaoaaDoorZ
/-! Structs held against each other. -/
set_option linter.unusedSimpArgs false
set_option linter.unusedVariables false
namespace Go.Proofs.YtgagnohelibaoaaDoor
open Go.RowKit

def eqV : Value → Value → Bool
  | .int _ a, .int _ b => a == b
  | .bool a, .bool b => a == b
  | .string a, .string b => a.toList == b.toList
  | _, _ => false
def eqVs : List Value → List Value → Bool
  | [], [] => true
  | x :: xs, y :: ys => eqV x y && eqVs xs ys
  | _, _ => false
def kindV : Shp → Value → Bool
  | .int k, .int j _ => j == k
  | .bool, .bool _ => true
  | .str, .string _ => true
  | _, _ => false
def kindVs : List Shp → List Value → Bool
  | [], [] => true
  | k :: ks, v :: vs => kindV k v && kindVs ks vs
  | _, _ => false
theorem kindVs_len : ∀ {ks : List Shp} {vs : List Value}, kindVs ks vs = true → vs.length = ks.length
  | [], [], _ => rfl
  | k :: ks, v :: vs, h => by simp only [kindVs, Bool.and_eq_true] at h; simp [kindVs_len h.2]
  | [], _ :: _, h => by simp [kindVs] at h
  | _ :: _, [], h => by simp [kindVs] at h
theorem kindVs_app : ∀ {ks ms : List Shp} {vs : List Value}, kindVs (ks ++ ms) vs = true → kindVs ks (vs.take ks.length) = true ∧ kindVs ms (vs.drop ks.length) = true
  | [], ms, vs, h => ⟨rfl, h⟩
  | k :: ks, ms, [], h => by simp [kindVs] at h
  | k :: ks, ms, v :: vs, h => by
    simp only [List.cons_append, kindVs, Bool.and_eq_true] at h
    obtain ⟨h1, h2⟩ := kindVs_app h.2
    exact ⟨by simp [kindVs, h.1, h1], h2⟩
theorem eqVs_split (n : Nat) : ∀ (xs ys : List Value), n ≤ xs.length → n ≤ ys.length → eqVs xs ys = (eqVs (xs.take n) (ys.take n) && eqVs (xs.drop n) (ys.drop n)) := by
  induction n with
  | zero => intro xs ys _ _; simp [eqVs]
  | succ n ih =>
    intro xs ys h1 h2
    cases xs with
    | nil => simp at h1
    | cons x xs =>
      cases ys with
      | nil => simp at h2
      | cons y ys =>
        simp only [List.take_succ_cons, List.drop_succ_cons, eqVs]
        rw [ih xs ys (by simpa using h1) (by simpa using h2), Bool.and_assoc]

section
variable {P : Program}

def EqOK (P : Program) (d D : Nat) : Prop := ∀ t ks, cellK P d t = some ks →
  ∀ a b (w : World), ((∃ x, a.cells = #[x] ∧ a = x ∧ ∃ y, b.cells = #[y] ∧ b = y ∧ ∃ k, ks = [k] ∧ kindV k x = true ∧ kindV k y = true ∧ (∀ dd, P.underlying t = some dd → isAggD dd = false)) ∨
    (∃ xs ys, a = .agg xs ∧ b = .agg ys ∧ kindVs ks xs.toList = true ∧ kindVs ks ys.toList = true ∧ (∀ dd, P.underlying t = some dd → isAggD dd = true))) →
    (Op.equalIn (D + d) t a b).run P w = .ok (eqVs a.cells.toList b.cells.toList) w

theorem info_of_size {t : TypeId} {n : Nat} (h : P.cellsOf t = n) (hn : n ≠ 0) : ∃ i, P.info? t = some i ∧ i.size = n := by
  cases hi : P.info? t with
  | none => simp [Program.cellsOf, hi] at h; omega
  | some i => exact ⟨i, rfl, by rw [← h, cellsOf_eq hi]⟩
theorem cellK_one {d : Nat} {t : TypeId} {ks : List Shp} (h : cellK P d t = some ks) : ∃ dd, P.underlying t = some dd ∧ (isAggD dd = false → ∃ k, ks = [k]) := by
  cases d with
  | zero => simp [cellK] at h
  | succ d =>
    simp only [cellK] at h
    cases hu : P.underlying t with
    | none => rw [hu] at h; cases h
    | some dd =>
      refine ⟨dd, rfl, fun ha => ?_⟩
      rw [hu] at h
      cases dd <;> first
        | (simp only [Option.some.injEq] at h; exact ⟨_, h.symm⟩)
        | (simp [isAggD] at ha; done)
        | (simp at h; done)
/-- A part of a struct's cells, and of another one's. -/
theorem part_eq {d D : Nat} (IH : EqOK P d D) {t : TypeId} {m : List Shp} (hm : cellK P d t = some m) (hs : P.cellsOf t = m.length) (hne : m.length ≠ 0) {xs ys : Array Value} {off : Nat}
    (hx : kindVs m ((xs.toList.drop off).take m.length) = true) (hy : kindVs m ((ys.toList.drop off).take m.length) = true) (w : World) :
    ∃ a b, (part t xs off).run P w = .ok a w ∧ (part t ys off).run P w = .ok b w ∧ (Op.equalIn (D + d) t a b).run P w = .ok (eqVs ((xs.toList.drop off).take m.length) ((ys.toList.drop off).take m.length)) w := by
  obtain ⟨i, hi, hsz⟩ := info_of_size hs hne
  obtain ⟨dd, hu, hone⟩ := cellK_one hm
  have ex : ∀ zs : Array Value, (zs.extract off (off + m.length)).toList = (zs.toList.drop off).take m.length := fun zs => by
    rw [Array.toList_extract]
    simp [List.extract_eq_take_drop]
  cases hd : isAggD dd with
  | true =>
    refine ⟨.agg (xs.extract off (off + m.length)), .agg (ys.extract off (off + m.length)), ?_, ?_, ?_⟩
    · unfold part; simp [isAgg_run hu, hd, sizeOf_run hi, hsz]
    · unfold part; simp [isAgg_run hu, hd, sizeOf_run hi, hsz]
    · have := IH t m hm (.agg (xs.extract off (off + m.length))) (.agg (ys.extract off (off + m.length))) w (.inr ⟨_, _, rfl, rfl, by rw [ex]; exact hx, by rw [ex]; exact hy, fun dd' h => by rw [hu] at h; cases h; exact hd⟩)
      simp only [Value.cells, ex] at this
      exact this
  | false =>
    obtain ⟨k, rfl⟩ := hone hd
    have get : ∀ zs : Array Value, kindVs [k] ((zs.toList.drop off).take [k].length) = true → ∃ z, zs[off]? = some z ∧ kindV k z = true ∧ (zs.toList.drop off).take [k].length = [z] ∧ z.cells = #[z] := by
      intro zs hz
      have hl := kindVs_len hz
      have hlt : off < zs.size := by
        simp only [List.length_take, List.length_drop, Array.length_toList, List.length_cons, List.length_nil] at hl
        omega
      have e : (zs.toList.drop off).take [k].length = [zs[off]] := by
        rw [List.drop_eq_getElem_cons (by simpa using hlt)]
        simp
      rw [e] at hz
      simp only [kindVs, Bool.and_true] at hz
      refine ⟨zs[off], by simp [hlt], hz, e, ?_⟩
      generalize zs[off] = z at hz
      cases k <;> cases z <;> simp [kindV] at hz <;> rfl
    obtain ⟨x, gx, kx, ex1, cx⟩ := get xs hx
    obtain ⟨y, gy, ky, ey1, cy⟩ := get ys hy
    refine ⟨x, y, ?_, ?_, ?_⟩
    · unfold part; simp [isAgg_run hu, hd, gx]
    · unfold part; simp [isAgg_run hu, hd, gy]
    · have := IH t [k] hm x y w (.inl ⟨x, cx, rfl, y, cy, rfl, k, rfl, kx, ky, fun dd' h => by rw [hu] at h; cases h; exact hd⟩)
      rw [cx, cy] at this
      rw [ex1, ey1]
      exact this
theorem fields_eq {d D : Nat} (IH : EqOK P d D) (xs ys : Array Value) : ∀ (fs : List Field) (off : Nat) (ks : List Shp) (w : World), cellKs P (cellK P d) fs off = some ks → kindVs ks (xs.toList.drop off) = true → kindVs ks (ys.toList.drop off) = true →
    (Op.eqFields (D + d) xs ys fs).run P w = .ok (eqVs (xs.toList.drop off) (ys.toList.drop off)) w
  | [], off, ks, w, h, hx, hy => by
    simp only [cellKs, Option.some.injEq] at h
    subst h
    have h1 := List.eq_nil_of_length_eq_zero (kindVs_len hx)
    have h2 := List.eq_nil_of_length_eq_zero (kindVs_len hy)
    rw [h1, h2]
    simp [Op.eqFields, eqVs]
  | f :: fs, off, ks, w, h, hx, hy => by
    simp only [cellKs] at h
    split at h
    · rename_i hc
      obtain ⟨hn, rfl⟩ := hc
      split at h
      · rename_i m hm
        split at h
        · rename_i hs
          split at h
          · rename_i r hr
            cases h
            obtain ⟨x1, x2⟩ := kindVs_app hx
            obtain ⟨y1, y2⟩ := kindVs_app hy
            obtain ⟨a, b, p1, p2, p3⟩ := part_eq IH hm hs.1 hs.2 x1 y1 w
            rw [List.drop_drop] at x2 y2
            have ih := fields_eq IH xs ys fs (f.offset + m.length) r w hr x2 y2
            have lx := kindVs_len hx
            have ly := kindVs_len hy
            rw [List.length_append] at lx ly
            rw [eqVs_split m.length _ _ (by omega) (by omega), List.drop_drop, List.drop_drop]
            simp only [Op.eqFields, if_pos hn, Sem.run_bind, p1, p2, p3, Result.andThen_ok]
            cases eqVs (List.take m.length (List.drop f.offset xs.toList)) (List.take m.length (List.drop f.offset ys.toList)) with
            | true => simpa using ih
            | false => simp
          · cases h
        · cases h
      · cases h
    · cases h
theorem items_eq {d D : Nat} (IH : EqOK P d D) {e : TypeId} {m : List Shp} (hm : cellK P d e = some m) (hs : P.cellsOf e = m.length) (hne : m.length ≠ 0) (xs ys : Array Value) : ∀ (n k : Nat) (w : World),
    kindVs ((List.replicate n m).flatten) (xs.toList.drop (k * m.length)) = true → kindVs ((List.replicate n m).flatten) (ys.toList.drop (k * m.length)) = true →
    (Op.eqItems (D + d) e (P.cellsOf e) xs ys (List.range' k n)).run P w = .ok (eqVs (xs.toList.drop (k * m.length)) (ys.toList.drop (k * m.length))) w
  | 0, k, w, hx, hy => by
    simp only [List.replicate_zero, List.flatten_nil] at hx hy
    have h1 := List.eq_nil_of_length_eq_zero (kindVs_len hx)
    have h2 := List.eq_nil_of_length_eq_zero (kindVs_len hy)
    rw [h1, h2]
    simp [Op.eqItems, eqVs]
  | n + 1, k, w, hx, hy => by
    simp only [List.replicate_succ, List.flatten_cons] at hx hy
    obtain ⟨x1, x2⟩ := kindVs_app hx
    obtain ⟨y1, y2⟩ := kindVs_app hy
    obtain ⟨a, b, p1, p2, p3⟩ := part_eq IH hm hs hne x1 y1 w
    rw [List.drop_drop, show k * m.length + m.length = (k + 1) * m.length by rw [Nat.add_mul, Nat.one_mul]] at x2 y2
    have ih := items_eq IH hm hs hne xs ys n (k + 1) w x2 y2
    have lx := kindVs_len hx
    have ly := kindVs_len hy
    rw [List.length_append] at lx ly
    rw [eqVs_split m.length _ _ (by omega) (by omega), List.drop_drop, List.drop_drop, show k * m.length + m.length = (k + 1) * m.length by rw [Nat.add_mul, Nat.one_mul]]
    simp only [List.range'_succ, Op.eqItems, Sem.run_bind, hs, p1, p2, p3, Result.andThen_ok]
    rw [hs] at ih
    cases eqVs (List.take m.length (List.drop (k * m.length) xs.toList)) (List.take m.length (List.drop (k * m.length) ys.toList)) with
    | true => simpa using ih
    | false => simp
theorem eqOK (D : Nat) : ∀ d, EqOK P d D
  | 0 => fun t ks h => by simp [cellK] at h
  | d + 1 => by
    have IH := eqOK D d
    intro t ks h a b w hab
    have h' := h
    simp only [cellK] at h
    cases hu : P.underlying t with
    | none => rw [hu] at h; cases h
    | some dd =>
      rw [hu] at h
      rcases hab with ⟨x, cx, rfl, y, cy, rfl, k, rfl, kx, ky, hna⟩ | ⟨xs, ys, rfl, rfl, hx, hy, hag⟩
      · have hn := hna dd hu
        rw [cx, cy]
        have e0 : eqVs #[a].toList #[b].toList = eqV a b := by simp [eqVs]
        rw [e0]
        cases dd <;> simp only [isAggD] at hn <;> first
          | (cases hn; done)
          | (simp at h; done)
          | skip
        · simp only [Option.some.injEq, List.cons.injEq, and_true] at h
          subst h
          cases a <;> simp [kindV] at kx
          cases b <;> simp [kindV] at ky
          exact run_equalIn_bool w _ t _ _ hu
        · simp only [Option.some.injEq, List.cons.injEq, and_true] at h
          subst h
          cases a <;> simp [kindV] at kx
          cases b <;> simp [kindV] at ky
          subst kx; subst ky
          simp [Op.equalIn, run_underlying hu, eqV]
        · simp only [Option.some.injEq, List.cons.injEq, and_true] at h
          subst h
          cases a <;> simp [kindV] at kx
          cases b <;> simp [kindV] at ky
          exact run_equalIn_string w _ t _ _ hu
      · have hg := hag dd hu
        simp only [Value.cells]
        cases dd <;> simp only [isAggD] at hg <;> first
          | (cases hg; done)
          | skip
        · rename_i n e
          simp only at h
          split at h
          · rename_i m hm
            split at h
            · rename_i hs
              cases h
              obtain ⟨i, hi, _⟩ := info_of_size hs.1 hs.2
              have := items_eq IH hm hs.1 hs.2 xs ys n 0 w (by simpa using hx) (by simpa using hy)
              rw [Nat.zero_mul, List.drop_zero, List.drop_zero] at this
              rw [show D + (d + 1) = (D + d) + 1 from rfl, run_equalIn_array w (D + d) xs ys hu hi, List.range_eq_range']
              exact this
            · cases h
          · cases h
        · rename_i fs
          simp only at h
          split at h
          · cases h
          · rename_i hsh
            have hf : P.fieldsOf t = fs := by unfold Program.fieldsOf; rw [hu]
            have := fields_eq IH xs ys fs.toList 0 ks w h (by simpa using hx) (by simpa using hy)
            rw [List.drop_zero, List.drop_zero] at this
            rw [show D + (d + 1) = (D + d) + 1 from rfl, run_equalIn_struct w (D + d) t xs ys (by rw [hf]; exact hu) (by simpa using hsh), hf]
            exact this
variable {S : Addr → Prop} {μ : Nat → Value} {D : Nat → Prop} {w : World} {r : Res} {ρ : Operand → Value} {o : Oper}

theorem eqC_rel {k : Shp} {p q : PV} {u v : Value} {b : Bool} (h : eqC p q = some b) (hp : kindOK [k] [p] = true) (hq : kindOK [k] [q] = true) (ru : Rel S μ D w p u) (rv : Rel S μ D w q v) : kindV k u = true ∧ kindV k v = true ∧ eqV u v = b := by
  cases k <;> cases p <;> simp [kindOK] at hp <;> cases q <;> simp [kindOK] at hq <;> simp only [eqC, Option.some.injEq] at h <;> subst h
  · have e1 := rel_int ru; have e2 := rel_int rv
    subst e1; subst e2
    exact ⟨by simp [kindV, hp], by simp [kindV, hq], rfl⟩
  · have e1 := rel_bool ru; have e2 := rel_bool rv
    subst e1; subst e2
    exact ⟨rfl, rfl, rfl⟩
  · have e1 := rel_str ru; have e2 := rel_str rv
    subst e1; subst e2
    exact ⟨rfl, rfl, by simp [eqV, bytes_toList]⟩
theorem kindOK_cons {k : Shp} {ks : List Shp} {p : PV} {ps : List PV} (h : kindOK (k :: ks) (p :: ps) = true) : kindOK [k] [p] = true ∧ kindOK ks ps = true := by
  cases k <;> cases p <;> simp [kindOK] at h ⊢ <;> exact h
theorem eqCs_rel : ∀ {ks : List Shp} {ps qs : List PV} {us vs : List Value} {b : Bool}, eqCs ps qs = some b → kindOK ks ps = true → kindOK ks qs = true → us.length = ps.length → vs.length = qs.length →
    (∀ (i : Nat) p, ps[i]? = some p → Rel S μ D w p (us.getD i undef)) → (∀ (i : Nat) p, qs[i]? = some p → Rel S μ D w p (vs.getD i undef)) → kindVs ks us = true ∧ kindVs ks vs = true ∧ eqVs us vs = b
  | [], [], [], us, vs, b, h, _, _, h1, h2, _, _ => by
    have e1 := List.eq_nil_of_length_eq_zero h1
    have e2 := List.eq_nil_of_length_eq_zero h2
    subst e1; subst e2
    simp only [eqCs, Option.some.injEq] at h
    exact ⟨rfl, rfl, h⟩
  | ks, p :: ps, [], us, vs, b, h, _, _, _, _, _, _ => by simp [eqCs] at h
  | ks, [], q :: qs, us, vs, b, h, _, _, _, _, _, _ => by simp [eqCs] at h
  | [], p :: ps, q :: qs, us, vs, b, h, hp, _, _, _, _, _ => by simp [kindOK] at hp
  | k :: ks, [], [], us, vs, b, h, hp, _, _, _, _, _ => by cases k <;> simp [kindOK] at hp
  | k :: ks, p :: ps, q :: qs, us, vs, b, h, hp, hq, h1, h2, ru, rv => by
    obtain ⟨hp1, hp2⟩ := kindOK_cons hp
    obtain ⟨hq1, hq2⟩ := kindOK_cons hq
    cases us with
    | nil => simp at h1
    | cons u us =>
      cases vs with
      | nil => simp at h2
      | cons v vs =>
        simp only [eqCs] at h
        split at h
        · rename_i b1 hb1
          split at h
          · rename_i b2 hb2
            cases h
            obtain ⟨k1, k2, k3⟩ := eqC_rel hb1 hp1 hq1 (ru 0 p rfl) (rv 0 q rfl)
            obtain ⟨k4, k5, k6⟩ := eqCs_rel (us := us) (vs := vs) hb2 hp2 hq2 (by simpa using h1) (by simpa using h2) (fun i p hi => by simpa using ru (i + 1) p (by simpa using hi)) (fun i p hi => by simpa using rv (i + 1) p (by simpa using hi))
            simp only [List.getD_cons_zero] at k1 k2 k3
            exact ⟨by simp [kindVs, k1, k4], by simp [kindVs, k2, k5], by simp [eqVs, k3, k6]⟩
          · cases h
        · cases h
theorem st_aggEq {op : BinOp} {t t' : TypeId} {x y : Operand} (ho : o.op = .binOp op t x y t') {xs ys : List PV} (h : aggEqE P op t xs ys = some r) (hx : Rel S μ D w (.agg xs) (ρ x)) (hy : Rel S μ D w (.agg ys) (ρ y)) : Still P S μ D w ρ o r := by
  unfold aggEqE at h
  split at h
  · rename_i ks hks
    unfold eqKinds at hks
    cases hu : P.underlying t with
    | none => rw [hu] at hks; cases hks
    | some dd =>
      rw [hu] at hks
      simp only at hks
      split at hks
      · rename_i hag
        split at h
        · rename_i hkk
          split at h
          · rename_i b hb
            obtain ⟨ax, ex, sx, rx⟩ := rel_agg hx
            obtain ⟨ay, ey, sy, ry⟩ := rel_agg hy
            have conv : ∀ (arr : Array Value) (i : Nat), arr.toList.getD i undef = arr.getD i undef := fun arr i => by simp [List.getD, Array.getD_eq_getD_getElem?]
            obtain ⟨k1, k2, k3⟩ := eqCs_rel (ks := ks) (us := ax.toList) (vs := ay.toList) hb hkk.1 hkk.2 (by simpa using sx) (by simpa using sy) (fun i p hi => by rw [conv]; exact rx i p hi) (fun i p hi => by rw [conv]; exact ry i p hi)
            have hrun : ∀ w, (Op.equal t (.agg ax) (.agg ay)).run P w = .ok b w := fun w => by
              have := eqOK (P := P) 9992 8 t ks hks (.agg ax) (.agg ay) w (.inr ⟨ax, ay, rfl, rfl, k1, k2, fun d' h => by rw [hu] at h; cases h; exact hag.1⟩)
              simp only [Value.cells, k3] at this
              exact this
            have hguard : ∀ op, (eqGuard op t x y (.agg ax) (.agg ay)).run P w = .ok () w := fun op => by
              cases op <;> simp [eqGuard, hag.2]
            split at h
            · rw [qv_inv h]
              refine ⟨.bool b, ?_, .c (.bool _)⟩
              unfold execOp
              simp only [ho, ex, ey]
              simp only [Sem.run_bind, hguard, Result.andThen_ok, binOp, hrun]
              simp
            · rw [qv_inv h]
              refine ⟨.bool (!b), ?_, .c (.bool _)⟩
              unfold execOp
              simp only [ho, ex, ey]
              simp only [Sem.run_bind, hguard, Result.andThen_ok, binOp, hrun]
              simp
            · cases h
          · cases h
        · cases h
      · cases hks
  · cases h
end
end Go.Proofs.YtgagnohelibaoaaDoor
