import Derived.Test.YtemlofepmphgiaaA
/-! What takes bytes: how its functions end. -/
set_option linter.unusedSimpArgs false
set_option linter.unusedVariables false
set_option maxHeartbeats 4000000
set_option maxRecDepth 100000
namespace Go.Proofs.Ytemlofepmphgiaa
open Go.RowKit

def calmC : PV → Bool
  | .int _ _ => true
  | .bool _ => true
  | .str _ => true
  | .sl t _ => decide (t < 2)
  | _ => false
/-- A cell that names nothing, or a token that was handed in. -/
def okCell (hn : List Nat) (nb : Nat) (p : PV) : Prop := calmC p = true ∨ ∃ t xs, p = .sl t xs ∧ t ∈ hn ∧ ¬ (nb ≤ t ∧ t < nb + 8)
theorem cell_map {hn : List Nat} {nb N0 : Nat} {q : Nat → Nat} {p : PV} (h : okCell hn nb p) : mapC (phi nb N0 q) p = p := by
  rcases h with h | ⟨t, xs, rfl, _, h⟩
  · cases p with
    | sl t xs => exact if_pos (of_decide_eq_true h)
    | int k n => rfl
    | bool b => rfl
    | str l => rfl
    | _ => cases h
  · show (if t < 2 then PV.sl t xs else PV.sl (phi nb N0 q t) xs) = _
    rw [phi_old h, ite_self]
theorem cell_ok {hn : List Nat} {nb : Nat} {p : PV} (h : okCell hn nb p) : okC (inN hn nb) p := by
  rcases h with h | ⟨t, xs, rfl, h, _⟩
  · cases p with
    | sl t xs => exact fun h2 => absurd (of_decide_eq_true h) (by omega)
    | int k n => trivial
    | bool b => trivial
    | str l => trivial
    | _ => cases h
  · exact fun _ => .inl h
theorem cells_map {hn : List Nat} {nb N0 : Nat} {q : Nat → Nat} {cs : List PV} (h : ∀ p ∈ cs, okCell hn nb p) : cs.map (mapC (phi nb N0 q)) = cs := by
  conv => rhs; rw [← List.map_id cs]
  exact List.map_congr_left fun p hp => cell_map (h p hp)
theorem endI_c0 {nb N0 g : Nat} {H0 H : Nat → Option HObj} {hn : List Nat} {cs : List PV} (hc : ∀ p ∈ cs, okCell hn nb p) (hg : ¬ (nb ≤ g ∧ g < nb + 8)) (h1 : H g = some (.box cs)) (hold : ∀ x, x < N0 → x ≠ g → H x = H0 x) : EndI (some []) (.tup []) [(g, some (.box cs))] H0 H nb N0 hn := by
  refine ⟨_, fun _ => 0, rfl, rfl, by simp [okT, ok1, okC], fun x hx hw hxn => ?_, fun x hx o ho => ?_, fun x hx y hy _ _ h1 h2 _ _ hne => ?_⟩
  · exact hold x hx (fun e => hw _ (List.mem_singleton.2 rfl) e.symm)
  · simp only [List.mem_singleton] at hx
    subst hx
    cases ho
    refine ⟨?_, fun p hp => cell_ok (hc p hp)⟩
    rw [phi_old hg]
    show H g = some (.box (cs.map (mapC _)))
    rw [cells_map hc]
    exact h1
  · simp only [List.mem_singleton] at hx
    subst hx
    exact absurd ⟨h1, h2⟩ hg
theorem endI_none {nb N0 : Nat} {H : Nat → Option HObj} {hn : List Nat} : EndI (some []) (.tup []) [] H H nb N0 hn :=
  ⟨_, fun _ => 0, rfl, rfl, by simp [okT], fun x hx _ _ => rfl, fun x hx => by simp at hx, fun x hx => by simp at hx⟩
def dropL (z : Nat) : List (Nat × Option HObj) := if z < 2 then [] else [(z, none)]
theorem dropL_0 : dropL 0 = [] := rfl
theorem dropL_2 {z : Nat} (h : 2 ≤ z) : dropL z = [(z, none)] := if_neg (by omega)
theorem dropL_none {z : Nat} {x : Nat × Option HObj} (h : x ∈ dropL z) : x = (z, none) := by
  unfold dropL at h
  split at h
  · cases h
  · simpa using h
theorem endI_c1 {nb N0 g z : Nat} {H0 H : Nat → Option HObj} {hn : List Nat} {a b : List PV} {xs : List (List PV)} {j e k n : Nat} (ha : ∀ p ∈ a, okCell hn nb p) (hb : ∀ p ∈ b, okCell hn nb p) (hN : nb + 8 ≤ N0) (hg : ¬ (nb ≤ g ∧ g < nb + 8))
    (h1 : H g = some (.box (a ++ .sl (N0 + j) xs :: b))) (h2 : H (N0 + j) = some (.tok e k n)) (hold : ∀ x, x < N0 → x ≠ g → (2 ≤ z → x ≠ z) → H x = H0 x) : EndI (some []) (.tup []) ((g, some (.box (a ++ .sl (nb + 2) xs :: b))) :: (dropL z ++ [(nb + 2, some (.tok e k n))])) H0 H nb N0 hn := by
  have hp : phi nb N0 (fun _ => j) (nb + 2) = N0 + j := phi_new (by omega)
  have hmem : ∀ x : Nat × Option HObj, x ∈ (g, some (.box (a ++ .sl (nb + 2) xs :: b))) :: (dropL z ++ [(nb + 2, some (.tok e k n))]) → x = (g, some (.box (a ++ .sl (nb + 2) xs :: b))) ∨ x = (z, none) ∨ x = (nb + 2, some (.tok e k n)) := fun x hx => by
    rcases List.mem_cons.1 hx with hx | hx
    · exact .inl hx
    · rcases List.mem_append.1 hx with hx | hx
      · exact .inr (.inl (dropL_none hx))
      · exact .inr (.inr (by simpa using hx))
  refine ⟨_, fun _ => j, rfl, rfl, by simp [okT, ok1, okC], fun x hx hw hxn => ?_, fun x hx o ho => ?_, fun x hx y hy hx0 hy0 hx1 hx2 hy1 hy2 hne => ?_⟩
  · exact hold x hx (fun e => hw _ (List.mem_cons_self ..) e.symm) (fun h2 e => hw (z, none) (by rw [dropL_2 h2]; simp) e.symm)
  · rcases hmem x hx with rfl | rfl | rfl
    · cases ho
      refine ⟨?_, ?_⟩
      · rw [phi_old hg, h1]
        have es : mapC (phi nb N0 (fun _ => j)) (.sl (nb + 2) xs) = .sl (N0 + j) xs := by
          show (if nb + 2 < 2 then PV.sl (nb + 2) xs else PV.sl (phi nb N0 (fun _ => j) (nb + 2)) xs) = _
          rw [hp]
          split
          · omega
          · rfl
        have e1 : (a ++ PV.sl (nb + 2) xs :: b).map (mapC (phi nb N0 (fun _ => j))) = a ++ PV.sl (N0 + j) xs :: b := by
          rw [List.map_append, List.map_cons, cells_map ha, cells_map hb, es]
        exact congrArg (fun c => some (HObj.box c)) e1.symm
      · intro p hp
        rcases List.mem_append.1 hp with hp | hp
        · exact cell_ok (ha p hp)
        · rcases List.mem_cons.1 hp with rfl | hp
          · exact fun _ => .inr ⟨by omega, by omega⟩
          · exact cell_ok (hb p hp)
    · cases ho
    · cases ho
      exact ⟨by rw [hp]; exact h2, trivial⟩
  · rcases hmem x hx with rfl | rfl | rfl
    · exact absurd ⟨hx1, hx2⟩ hg
    · exact absurd rfl hx0
    · rcases hmem y hy with rfl | rfl | rfl
      · exact absurd ⟨hy1, hy2⟩ hg
      · exact absurd rfl hy0
      · exact absurd rfl hne
theorem endI_cd {nb N0 g z : Nat} {H0 H : Nat → Option HObj} {hn : List Nat} {cs : List PV} (hc : ∀ p ∈ cs, okCell hn nb p) (hg : ¬ (nb ≤ g ∧ g < nb + 8)) (h1 : H g = some (.box cs)) (hold : ∀ x, x < N0 → x ≠ g → (2 ≤ z → x ≠ z) → H x = H0 x) : EndI (some []) (.tup []) ((g, some (.box cs)) :: dropL z) H0 H nb N0 hn := by
  have hmem : ∀ x : Nat × Option HObj, x ∈ (g, some (.box cs)) :: dropL z → x = (g, some (.box cs)) ∨ x = (z, none) := fun x hx => by
    rcases List.mem_cons.1 hx with hx | hx
    · exact .inl hx
    · exact .inr (dropL_none hx)
  refine ⟨_, fun _ => 0, rfl, rfl, by simp [okT, ok1, okC], fun x hx hw hxn => ?_, fun x hx o ho => ?_, fun x hx y hy hx0 hy0 hx1 hx2 hy1 hy2 hne => ?_⟩
  · exact hold x hx (fun e => hw _ (List.mem_cons_self ..) e.symm) (fun h2 e => hw (z, none) (by rw [dropL_2 h2]; simp) e.symm)
  · rcases hmem x hx with rfl | rfl
    · cases ho
      refine ⟨?_, fun p hp => cell_ok (hc p hp)⟩
      rw [phi_old hg]
      show H g = some (.box (cs.map (mapC _)))
      rw [cells_map hc]
      exact h1
    · cases ho
  · rcases hmem x hx with rfl | rfl
    · exact absurd ⟨hx1, hx2⟩ hg
    · exact absurd rfl hx0
/-- What has come of a line, and the lines that ended. -/
structure Rd where
  b : List UInt8
  cr : Bool
  skip : Bool
  out : List GLine
def Rd.cs (s : Rd) (z y : Nat) (most : Int) (alone : Bool) : List PV := [.sl z (s.b.map byteE), .bool s.cr, .bool s.skip, .int .i64 most, .bool alone, .sl y (s.out.map GLine.cs)]
def tkL (t e k n : Nat) : List (Nat × HObj) := if t < 2 then [] else [(t, .tok e k n)]
theorem tkL_mem {t e k n : Nat} (h : 2 ≤ t) : (t, HObj.tok e k n) ∈ tkL t e k n := by rw [tkL, if_neg (by omega)]; simp
theorem tkL_of {t e k n : Nat} {x : Nat × HObj} (h : x ∈ tkL t e k n) : 2 ≤ t ∧ x = (t, .tok e k n) := by
  unfold tkL at h
  split at h
  · cases h
  · exact ⟨by omega, by simpa using h⟩
def hsL (s : Rd) (g z y : Nat) (most : Int) (alone : Bool) : List (Nat × HObj) := (g, .box (s.cs z y most alone)) :: (tkL z 5 1 s.b.length ++ tkL y 37 2 s.out.length)
/-- What is asked of the names. -/
structure Nm (s : Rd) (g z y : Nat) : Prop where
  z0 : z = 0 ∧ s.b = [] ∨ 2 ≤ z
  y0 : y = 0 ∧ s.out = [] ∨ 2 ≤ y
  gz : 2 ≤ z → g ≠ z
  gy : 2 ≤ y → g ≠ y
  zy : 2 ≤ z → z ≠ y
/-- The box and its tokens are there. -/
structure Hv (H : Nat → Option HObj) (s : Rd) (g z y : Nat) (most : Int) (alone : Bool) : Prop where
  box : H g = some (.box (s.cs z y most alone))
  hz : 2 ≤ z → H z = some (.tok 5 1 s.b.length)
  hy : 2 ≤ y → H y = some (.tok 37 2 s.out.length)
theorem Hv.hs {H : Nat → Option HObj} {s : Rd} {g z y : Nat} {most : Int} {alone : Bool} (h : Hv H s g z y most alone) : ∀ x ∈ hsL s g z y most alone, H x.1 = some x.2 := by
  intro x hx
  rcases List.mem_cons.1 hx with rfl | hx
  · exact h.box
  · rcases List.mem_append.1 hx with hx | hx
    · obtain ⟨h2, rfl⟩ := tkL_of hx; exact h.hz h2
    · obtain ⟨h2, rfl⟩ := tkL_of hx; exact h.hy h2
/-- What a walk begins with. -/
structure Beg (H : Nat → Option HObj) (s : Rd) (g z y : Nat) (most : Int) (alone : Bool) (nb N : Nat) : Prop extends Hv H s g z y most alone where
  gN : g < N
  gb : ¬ (nb ≤ g ∧ g < nb + 8)
  zN : 2 ≤ z → z < N ∧ ¬ (nb ≤ z ∧ z < nb + 8)
  yN : 2 ≤ y → y < N ∧ ¬ (nb ≤ y ∧ y < nb + 8)
theorem beg_of {H : Nat → Option HObj} {s : Rd} {g z y : Nat} {most : Int} {alone : Bool} {nb N : Nat} (h : ∀ x ∈ hsL s g z y most alone, H x.1 = some x.2 ∧ x.1 < N ∧ ¬ (nb ≤ x.1 ∧ x.1 < nb + 8)) : Beg H s g z y most alone nb N := by
  have hg := h (g, .box (s.cs z y most alone)) (List.mem_cons_self ..)
  have hz := fun h2 : 2 ≤ z => h (z, .tok 5 1 s.b.length) (List.mem_cons_of_mem _ (List.mem_append_left _ (tkL_mem h2)))
  have hy := fun h2 : 2 ≤ y => h (y, .tok 37 2 s.out.length) (List.mem_cons_of_mem _ (List.mem_append_right _ (tkL_mem h2)))
  exact ⟨⟨hg.1, fun h2 => (hz h2).1, fun h2 => (hy h2).1⟩, hg.2.1, hg.2.2, fun h2 => (hz h2).2, fun h2 => (hy h2).2⟩
theorem cell_z {H : Nat → Option HObj} {s : Rd} {g z y : Nat} {most : Int} {alone : Bool} {nb N : Nat} (h : Beg H s g z y most alone nb N) (hn : Nm s g z y) : okCell ((hsL s g z y most alone).map (·.1)) nb (.sl z (s.b.map byteE)) := by
  rcases hn.z0 with ⟨rfl, _⟩ | h2
  · exact .inl rfl
  · exact .inr ⟨z, _, rfl, List.mem_map.2 ⟨_, List.mem_cons_of_mem _ (List.mem_append_left _ (tkL_mem h2)), rfl⟩, (h.zN h2).2⟩
theorem cell_y {H : Nat → Option HObj} {s : Rd} {g z y : Nat} {most : Int} {alone : Bool} {nb N : Nat} (h : Beg H s g z y most alone nb N) (hn : Nm s g z y) : okCell ((hsL s g z y most alone).map (·.1)) nb (.sl y (s.out.map GLine.cs)) := by
  rcases hn.y0 with ⟨rfl, _⟩ | h2
  · exact .inl rfl
  · exact .inr ⟨y, _, rfl, List.mem_map.2 ⟨_, List.mem_cons_of_mem _ (List.mem_append_right _ (tkL_mem h2)), rfl⟩, (h.yN h2).2⟩
theorem cell_b {hn : List Nat} {nb : Nat} {b : Bool} : okCell hn nb (.bool b) := .inl rfl
theorem cell_i {hn : List Nat} {nb : Nat} {k : IntKind} {n : Int} : okCell hn nb (.int k n) := .inl rfl
theorem cell_0 {hn : List Nat} {nb : Nat} {xs : List (List PV)} : okCell hn nb (.sl 0 xs) := .inl rfl
theorem cells_nil {hn : List Nat} {nb : Nat} : ∀ p ∈ ([] : List PV), okCell hn nb p := fun p hp => by cases hp
theorem cells_cons {hn : List Nat} {nb : Nat} {p : PV} {cs : List PV} (h : okCell hn nb p) (hc : ∀ p ∈ cs, okCell hn nb p) : ∀ q ∈ p :: cs, okCell hn nb q := fun q hq => by
  rcases List.mem_cons.1 hq with rfl | hq
  · exact h
  · exact hc q hq
theorem hs_g (s : Rd) (g z y : Nat) (most : Int) (alone : Bool) : g ∈ (hsL s g z y most alone).map (·.1) := List.mem_map.2 ⟨_, List.mem_cons_self .., rfl⟩
theorem hs_z {s : Rd} {g z y : Nat} {most : Int} {alone : Bool} (h : 2 ≤ z) : z ∈ (hsL s g z y most alone).map (·.1) := List.mem_map.2 ⟨_, List.mem_cons_of_mem _ (List.mem_append_left _ (tkL_mem h)), rfl⟩
theorem hs_y {s : Rd} {g z y : Nat} {most : Int} {alone : Bool} (h : 2 ≤ y) : y ∈ (hsL s g z y most alone).map (·.1) := List.mem_map.2 ⟨_, List.mem_cons_of_mem _ (List.mem_append_right _ (tkL_mem h)), rfl⟩
end Go.Proofs.Ytemlofepmphgiaa
