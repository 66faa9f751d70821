import Derived.Test.YtemlofepmphgiaaJf
/-! Feed. -/
set_option linter.unusedSimpArgs false
set_option linter.unusedVariables false
set_option maxHeartbeats 4000000
set_option maxRecDepth 100000
namespace Go.Proofs.Ytemlofepmphgiaa
open Go.RowKit

def putS (most : Int) (s : Rd) (c : UInt8) : Rd := if s.skip = true then s else if (s.b.length : Int) < most then ⟨s.b ++ [c], s.cr, false, s.out⟩ else ⟨[], s.cr, true, s.out⟩
def crS (most : Int) (s : Rd) : Rd := if s.cr = true then putS most s 13 else s
def takeS (most : Int) (alone : Bool) (s : Rd) (c : UInt8) : Rd :=
  if endC s alone c = true then ⟨[], false, false, s.out ++ [endLn s]⟩ else
  if (c == 13) = true then ⟨(crS most s).b, true, (crS most s).skip, (crS most s).out⟩ else putS most ⟨(crS most s).b, false, (crS most s).skip, (crS most s).out⟩ c
theorem put_len (most : Int) (s : Rd) (c : UInt8) : (putS most s c).b.length ≤ s.b.length + 1 ∧ (putS most s c).out = s.out := by
  unfold putS
  split
  · exact ⟨by omega, rfl⟩
  · split
    · exact ⟨by simp, rfl⟩
    · exact ⟨by simp, rfl⟩
theorem cr_len (most : Int) (s : Rd) : (crS most s).b.length ≤ s.b.length + 1 ∧ (crS most s).out = s.out := by
  unfold crS
  split
  · exact put_len most s 13
  · exact ⟨by omega, rfl⟩
theorem take_len (most : Int) (alone : Bool) (s : Rd) (c : UInt8) : (takeS most alone s c).b.length ≤ s.b.length + 2 ∧ (takeS most alone s c).out.length ≤ s.out.length + 1 := by
  have h := cr_len most s
  unfold takeS
  split
  · exact ⟨by simp, by simp⟩
  · split
    · exact ⟨by simp only; omega, by simp only [h.2]; omega⟩
    · have h2 := put_len most ⟨(crS most s).b, false, (crS most s).skip, (crS most s).out⟩ c
      exact ⟨by have := h2.1; simp only at this; omega, by rw [h2.2]; simp only [h.2]; omega⟩
/-- What is there behind a byte. -/
def Nx (H : Nat → Option HObj) (s : Rd) (g : Nat) (most : Int) (alone : Bool) (N : Nat) : Prop := ∃ z y, Hv H s g z y most alone ∧ Nm s g z y ∧ (2 ≤ z → 16 < z ∧ z < N) ∧ (2 ≤ y → 16 < y ∧ y < N)
section
variable {H : Nat → Option HObj} {s s' : Rd} {g z y nb : Nat} {most : Int} {alone : Bool}
theorem nx_set (h : Hv H s g z y most alone) (hn : Nm s g z y) (hz : 2 ≤ z → 16 < z ∧ z < nb) (hy : 2 ≤ y → 16 < y ∧ y < nb) (hb : s'.b = s.b) (ho : s'.out = s.out) : Nx (applyW H [(g, some (.box (s'.cs z y most alone)))]) s' g most alone (nb + 8) :=
  ⟨z, y, h.set hn hb ho rfl, hn.to hb ho, fun h => by have := hz h; omega, fun h => by have := hy h; omega⟩
theorem nx_nil (h : Hv H s g z y most alone) (hn : Nm s g z y) (hy : 2 ≤ y → 16 < y ∧ y < nb) (hb : s'.b = []) (ho : s'.out = s.out) : Nx (applyW H [(g, some (.box (s'.cs 0 y most alone)))]) s' g most alone (nb + 8) := by
  refine ⟨0, y, ⟨upd_same _ _ _, fun h => by omega, fun h2 => ?_⟩, ⟨.inl ⟨rfl, hb⟩, by rw [ho]; exact hn.y0, fun h => by omega, hn.gy, fun h => by omega⟩, fun h => by omega, fun h => by have := hy h; omega⟩
  exact (upd_ne _ _ (fun e => hn.gy h2 e.symm)).trans (by rw [h.hy h2, ho])
theorem drop_at {H : Nat → Option HObj} {z x : Nat} {ws : List (Nat × Option HObj)} (hx : 2 ≤ z → x ≠ z) : applyW H (dropL z ++ ws) x = applyW (fun n => if n = x then H x else applyW H (dropL z) n) ws x := by
  rcases Nat.lt_or_ge z 2 with hz | hz
  · rw [show dropL z = [] from if_pos hz]
    have : (fun n => if n = x then H x else applyW H [] n) = H := funext fun n => by
      by_cases e : n = x
      · subst e; exact if_pos rfl
      · exact if_neg e
    rw [this]
    rfl
  · rw [dropL_2 hz]
    have : (fun n => if n = x then H x else applyW H [(z, none)] n) = upd H z none := funext fun n => by
      by_cases e : n = x
      · subst e
        rw [if_pos rfl, upd_ne _ _ (hx hz)]
      · exact if_neg e
    rw [this]
    rfl
theorem nx_drop (h : Hv H s g z y most alone) (hn : Nm s g z y) (hy : 2 ≤ y → 16 < y ∧ y < nb) (hb : s'.b = []) (ho : s'.out = s.out) : Nx (applyW H ((g, some (.box (s'.cs 0 y most alone))) :: dropL z)) s' g most alone (nb + 8) := by
  have e : ∀ x, (2 ≤ z → x ≠ z) → applyW H ((g, some (.box (s'.cs 0 y most alone))) :: dropL z) x = upd H g (some (.box (s'.cs 0 y most alone))) x := fun x hx => by
    rcases Nat.lt_or_ge z 2 with hz | hz
    · rw [show dropL z = [] from if_pos hz]; rfl
    · rw [dropL_2 hz]
      exact upd_ne _ _ (hx hz)
  refine ⟨0, y, ⟨?_, fun h => by omega, fun h2 => ?_⟩, ⟨.inl ⟨rfl, hb⟩, by rw [ho]; exact hn.y0, fun h => by omega, hn.gy, fun h => by omega⟩, fun h => by omega, fun h => by have := hy h; omega⟩
  · rw [e g hn.gz, upd_same]
  · rw [e y (fun h3 e => hn.zy h3 e.symm), upd_ne _ _ (fun e => hn.gy h2 e.symm), h.hy h2, ho]
theorem nx_new (h : Hv H s g z y most alone) (hn : Nm s g z y) (hg : 16 < g ∧ g < nb) (hz : 2 ≤ z → 16 < z ∧ z < nb) (hy : 2 ≤ y → 16 < y ∧ y < nb) (ho : s'.out = s.out) : Nx (applyW H ((g, some (.box (s'.cs (nb + 2) y most alone))) :: (dropL z ++ [(nb + 2, some (.tok 5 1 s'.b.length))]))) s' g most alone (nb + 8) := by
  have e : ∀ x, x ≠ nb + 2 → (2 ≤ z → x ≠ z) → applyW H ((g, some (.box (s'.cs (nb + 2) y most alone))) :: (dropL z ++ [(nb + 2, some (.tok 5 1 s'.b.length))])) x = upd H g (some (.box (s'.cs (nb + 2) y most alone))) x := fun x h2 h3 => by
    rcases Nat.lt_or_ge z 2 with hz | hz
    · rw [show dropL z = [] from if_pos hz]
      exact upd_ne _ _ h2
    · rw [dropL_2 hz]
      exact (upd_ne _ _ h2).trans (upd_ne _ _ (h3 hz))
  refine ⟨nb + 2, y, ⟨?_, fun _ => ?_, fun h2 => ?_⟩, ⟨.inr (by omega), by rw [ho]; exact hn.y0, fun _ => by omega, hn.gy, fun _ e => ?_⟩, fun h => by omega, fun h => by have := hy h; omega⟩
  · rw [e g (by omega) hn.gz, upd_same]
  · rcases Nat.lt_or_ge z 2 with hz | hz
    · rw [show dropL z = [] from if_pos hz]
      exact upd_same _ _ _
    · rw [dropL_2 hz]
      exact upd_same _ _ _
  · have := hy h2
    rw [e y (by omega) (fun h3 e => hn.zy h3 e.symm), upd_ne _ _ (fun e => hn.gy h2 e.symm), h.hy h2, ho]
  · rcases hn.y0 with ⟨h0, _⟩ | h2
    · omega
    · have := hy h2; omega
theorem nx_end (h : Hv H s g z y most alone) (hn : Nm s g z y) (hg : 16 < g ∧ g < nb) (hz : 2 ≤ z → 16 < z ∧ z < nb) (hy : 2 ≤ y → 16 < y ∧ y < nb) (hb : s'.b = []) : Nx (applyW H ((g, some (.box (s'.cs 0 (nb + 2) most alone))) :: (dropL y ++ [(nb + 2, some (.tok 37 2 s'.out.length))]))) s' g most alone (nb + 8) := by
  have e : ∀ x, x ≠ nb + 2 → (2 ≤ y → x ≠ y) → applyW H ((g, some (.box (s'.cs 0 (nb + 2) most alone))) :: (dropL y ++ [(nb + 2, some (.tok 37 2 s'.out.length))])) x = upd H g (some (.box (s'.cs 0 (nb + 2) most alone))) x := fun x h2 h3 => by
    rcases Nat.lt_or_ge y 2 with hz | hz
    · rw [show dropL y = [] from if_pos hz]
      exact upd_ne _ _ h2
    · rw [dropL_2 hz]
      exact (upd_ne _ _ h2).trans (upd_ne _ _ (h3 hz))
  refine ⟨0, nb + 2, ⟨?_, fun h => by omega, fun h2 => ?_⟩, ⟨.inl ⟨rfl, hb⟩, .inr (by omega), fun h => by omega, fun _ => by omega, fun h => by omega⟩, fun h => by omega, fun h => by omega⟩
  · rw [e g (by omega) hn.gy, upd_same]
  · rcases Nat.lt_or_ge y 2 with hz | hz
    · rw [show dropL y = [] from if_pos hz]
      exact upd_same _ _ _
    · rw [dropL_2 hz]
      exact upd_same _ _ _
end
/-- Only these names are written. -/
def Only (g z y nb : Nat) (wr : List (Nat × Option HObj)) : Prop := ∀ x ∈ wr, x.1 = g ∨ (2 ≤ z ∧ x.1 = z) ∨ (2 ≤ y ∧ x.1 = y) ∨ x.1 = nb + 2
theorem only_0 {g z y nb : Nat} {o : Option HObj} : Only g z y nb [(g, o)] := fun x hx => by
  simp only [List.mem_singleton] at hx
  subst hx
  exact .inl rfl
theorem drop_mem {z : Nat} {x : Nat × Option HObj} (h : x ∈ dropL z) : 2 ≤ z ∧ x.1 = z := by
  unfold dropL at h
  split at h
  · cases h
  · simp only [List.mem_singleton] at h
    subst h
    exact ⟨by omega, rfl⟩
theorem only_d {g z y nb : Nat} {o : Option HObj} : Only g z y nb ((g, o) :: dropL z) := fun x hx => by
  rcases List.mem_cons.1 hx with rfl | hx
  · exact .inl rfl
  · exact .inr (.inl (drop_mem hx))
theorem only_z {g z y nb : Nat} {o o' : Option HObj} : Only g z y nb ((g, o) :: (dropL z ++ [(nb + 2, o')])) := fun x hx => by
  rcases List.mem_cons.1 hx with rfl | hx
  · exact .inl rfl
  · rcases List.mem_append.1 hx with hx | hx
    · exact .inr (.inl (drop_mem hx))
    · simp only [List.mem_singleton] at hx
      subst hx
      exact .inr (.inr (.inr rfl))
theorem only_y {g z y nb : Nat} {o o' : Option HObj} : Only g z y nb ((g, o) :: (dropL y ++ [(nb + 2, o')])) := fun x hx => by
  rcases List.mem_cons.1 hx with rfl | hx
  · exact .inl rfl
  · rcases List.mem_append.1 hx with hx | hx
    · exact .inr (.inr (.inl (drop_mem hx)))
    · simp only [List.mem_singleton] at hx
      subst hx
      exact .inr (.inr (.inr rfl))
theorem take_step (s : Rd) (g z y : Nat) (most : Int) (alone : Bool) (c : UInt8) (hn : Nm s g z y) (hl : s.b.length ≤ 900000) (ho : s.out.length ≤ 900000) :
    ∃ wr, InTo Try.prog 18 [.ptr g 0, .int .u8 c.toNat] (hsL s g z y most alone) (fun _ => .tup []) wr ∧ (∀ nb, Only g z y nb (wr nb)) ∧ ∀ H nb, Hv H s g z y most alone → 16 < g ∧ g < nb → (2 ≤ z → 16 < z ∧ z < nb) → (2 ≤ y → 16 < y ∧ y < nb) → Nx (applyW H (wr nb)) (takeS most alone s c) g most alone (nb + 8) := by
  cases he : endC s alone c with
  | true =>
    have ht : takeS most alone s c = ⟨[], false, false, s.out ++ [endLn s]⟩ := if_pos he
    rw [ht]
    exact ⟨_, take_end s g z y most alone c hn (by omega) he, fun _ => only_y, fun H nb h hg hz hy => nx_end (s' := ⟨[], false, false, s.out ++ [endLn s]⟩) h hn hg hz hy rfl⟩
  | false =>
    have ht0 : takeS most alone s c = if (c == 13) = true then ⟨(crS most s).b, true, (crS most s).skip, (crS most s).out⟩ else putS most ⟨(crS most s).b, false, (crS most s).skip, (crS most s).out⟩ c := if_neg (by rw [he]; simp)
    cases hs : s.skip with
    | true =>
      have hcr : crS most s = s := by
        unfold crS putS
        rw [hs, if_pos rfl, ite_self]
      have ht : takeS most alone s c = ⟨s.b, (c == 13), s.skip, s.out⟩ := by
        rw [ht0, hcr]
        cases h13 : (c == 13) with
        | true => rw [if_pos rfl]
        | false =>
          rw [if_neg (by simp)]
          unfold putS
          rw [if_pos hs]
      rw [ht]
      exact ⟨_, take_old s g z y most alone c hn he (.inl hs), fun _ => only_0, fun H nb h hg hz hy => nx_set (s' := ⟨s.b, (c == 13), s.skip, s.out⟩) h hn hz hy rfl rfl⟩
    | false =>
      have hput : ∀ (b : List UInt8) (cr : Bool) (d : UInt8), putS most ⟨b, cr, false, s.out⟩ d = if (b.length : Int) < most then ⟨b ++ [d], cr, false, s.out⟩ else ⟨[], cr, true, s.out⟩ := fun b cr d => if_neg (by simp)
      cases hcr : s.cr with
      | false =>
        have hc0 : crS most s = s := if_neg (by rw [hcr]; simp)
        cases h13 : (c == 13) with
        | true =>
          have ht : takeS most alone s c = ⟨s.b, (c == 13), s.skip, s.out⟩ := by rw [ht0, h13, if_pos rfl, hc0]
          rw [ht]
          exact ⟨_, take_old s g z y most alone c hn he (.inr ⟨hcr, h13⟩), fun _ => only_0, fun H nb h hg hz hy => nx_set (s' := ⟨s.b, (c == 13), s.skip, s.out⟩) h hn hz hy rfl rfl⟩
        | false =>
          have ht1 : takeS most alone s c = putS most ⟨s.b, false, false, s.out⟩ c := by rw [ht0, h13, if_neg (by simp), hc0, hs]
          by_cases hm : (s.b.length : Int) < most
          · have ht : takeS most alone s c = ⟨s.b ++ [c], (c == 13), false, s.out⟩ := by rw [ht1, hput, if_pos hm, h13]
            rw [ht]
            exact ⟨_, take_one s g z y most alone c hn he hs hm (by rw [hcr, h13]) (by omega), fun _ => only_z, fun H nb h hg hz hy => nx_new (s' := ⟨s.b ++ [c], (c == 13), false, s.out⟩) h hn hg hz hy rfl⟩
          · have ht : takeS most alone s c = ⟨[], (c == 13), true, s.out⟩ := by rw [ht1, hput, if_neg hm, h13]
            rw [ht]
            exact ⟨_, take_nil s g z y most alone c hn he hs hm (.inr h13), fun _ => only_0, fun H nb h hg hz hy => nx_nil (s' := ⟨[], (c == 13), true, s.out⟩) h hn hy rfl rfl⟩
      | true =>
        have hs0 : s = ⟨s.b, true, false, s.out⟩ := by
          obtain ⟨b, cr, skip, out⟩ := s
          simp only at hs hcr
          rw [hs, hcr]
        have hc1 : crS most s = if (s.b.length : Int) < most then ⟨s.b ++ [13], true, false, s.out⟩ else ⟨[], true, true, s.out⟩ := by
          unfold crS
          rw [if_pos hcr]
          conv => lhs; rw [hs0]
          rw [hput]
        cases h13 : (c == 13) with
        | true =>
          have hc : c = 13 := beq_iff_eq.1 h13
          by_cases hm : (s.b.length : Int) < most
          · have ht : takeS most alone s c = ⟨s.b ++ [c], (c == 13), false, s.out⟩ := by rw [ht0, h13, if_pos rfl, hc1, if_pos hm, hc]
            rw [ht]
            exact ⟨_, take_one s g z y most alone c hn he hs hm (by rw [hcr, h13]) (by omega), fun _ => only_z, fun H nb h hg hz hy => nx_new (s' := ⟨s.b ++ [c], (c == 13), false, s.out⟩) h hn hg hz hy rfl⟩
          · have ht : takeS most alone s c = ⟨[], (c == 13), true, s.out⟩ := by rw [ht0, h13, if_pos rfl, hc1, if_neg hm]
            rw [ht]
            exact ⟨_, take_nil s g z y most alone c hn he hs hm (.inl hcr), fun _ => only_0, fun H nb h hg hz hy => nx_nil (s' := ⟨[], (c == 13), true, s.out⟩) h hn hy rfl rfl⟩
        | false =>
          by_cases hm : (s.b.length : Int) < most
          · by_cases hm2 : ((s.b ++ [13]).length : Int) < most
            · have ht : takeS most alone s c = ⟨s.b ++ [13] ++ [c], false, false, s.out⟩ := by rw [ht0, h13, if_neg (by simp), hc1, if_pos hm, hput, if_pos hm2]
              rw [ht]
              exact ⟨_, take_two s g z y most alone c hn he hs hcr hm hm2 h13 hl, fun _ => only_z, fun H nb h hg hz hy => nx_new (s' := ⟨s.b ++ [13] ++ [c], false, false, s.out⟩) h hn hg hz hy rfl⟩
            · have ht : takeS most alone s c = ⟨[], false, true, s.out⟩ := by rw [ht0, h13, if_neg (by simp), hc1, if_pos hm, hput, if_neg hm2]
              rw [ht]
              exact ⟨_, take_drop s g z y most alone c hn he hs hcr hm hm2 h13 (by omega), fun _ => only_d, fun H nb h hg hz hy => nx_drop (s' := ⟨[], false, true, s.out⟩) h hn hy rfl rfl⟩
          · have ht : takeS most alone s c = ⟨[], (c == 13), true, s.out⟩ := by
              rw [ht0, h13, if_neg (by simp), hc1, if_neg hm]
              rfl
            rw [ht]
            exact ⟨_, take_nil s g z y most alone c hn he hs hm (.inl hcr), fun _ => only_0, fun H nb h hg hz hy => nx_nil (s' := ⟨[], (c == 13), true, s.out⟩) h hn hy rfl rfl⟩
end Go.Proofs.Ytemlofepmphgiaa
