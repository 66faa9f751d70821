import Derived.Test.YtgagnohelibaoaaDoorKd
import Derived.Test.YtgagnohelibaoaaDoorLb
/-! All verbs: the walk. -/
set_option linter.unusedSimpArgs false
set_option linter.unusedVariables false
set_option maxHeartbeats 4000000
set_option maxRecDepth 100000
namespace Go.Proofs.YtgagnohelibaoaaDoor
open Go.RowKit Go.Lib Go.Sort Go.Shelf
open Go.ChangeMaps (setBlock)

theorem entry_val {arr : Array MapEntry} {vs : List GVerb} (hv : vs.Perm verbs) (ha : arr.toList.map (fun x => (x.key, x.val)) = vs.map verbK) {e : MapEntry} (he : e ∈ arr.toList) : e.val = verbV (nth (dk e)) := by
  have h1 : (e.key, e.val) ∈ arr.toList.map (fun x => (x.key, x.val)) := List.mem_map.2 ⟨e, he, rfl⟩
  rw [ha] at h1
  obtain ⟨v, hm, hv2⟩ := List.mem_map.1 h1
  have : nth (dk e) = v := by
    unfold dk
    rw [← hv2]
    exact decK_nth v (hv.mem_iff.1 hm)
  rw [this]
  exact (congrArg Prod.snd hv2).symm
theorem row_verb (w : World) (o : Obj) (i : Fin 36) : Row ((w.alloc o).alloc (.cells #[.string ⟨(nth i).name.toArray⟩, .int .i64 (nth i).kind, .int .i64 (nth i).arg, .bool (nth i).path] 35)) (some ⟨w.heap.size + 1, 0, none⟩) (encV i) := by
  have h := row_newM (w.alloc o) (encV i) 35 (0, 0)
  have e : (w.alloc o).heap.size = w.heap.size + 1 := by simp
  rw [e] at h
  exact h
def AllEnd (w : World) (e : Ending) (w' : World) : Prop := Below w.heap.size w w' ∧ ∃ g cap, e = .returned (.slice (some ⟨g, 0, none⟩) 36 cap) ∧ w.heap.size ≤ g ∧ g < w'.heap.size ∧ 36 ≤ cap ∧ cap ≤ maxLen ∧ HoldsK encV 4 w' g 0 all36
theorem all_calls (w : World) (hG : Good w) : Calls Tryd.prog 20 #[] w fun e w' => AllEnd w e w' := by
  go_enter Tryd.func20, Tryd.ntmps20
  go_wp2_with (first
    | (go_at_call 26; refine (table_raw _ hG).mono ?_; rintro e w1 ⟨hb1, g, arr, clk, rfl, hg, hm, hborn, vs, hvs, harr⟩)
    | (at_range; refine wpList_range_at rfl _ _ rfl 9 35 Tryd.underlying52 g arr clk rfl hm ?_)
    | go_in)
  go_frame
  have hglt : g < w1.heap.size := (Array.getElem?_eq_some_iff.1 hm).1
  have HB := Lib.hid hborn
  have HA := Lib.hid harr
  have HV := Lib.hid hvs
  have H1 := Lib.hid hb1
  clear hborn harr hvs hb1
  go_loopw [1] (fun v wr => ∃ L, Rng w1 wr g arr clk v L) (fun _ wr => wr.rangeLeft g w1.heap.size)
  case atStart => exact ⟨[], rng_start⟩
  case round =>
    obtain ⟨L, R⟩ := hrel
    have mp := (R.bel.block g hglt).trans hm
    obtain ⟨c0, hc0, hit⟩ := R.it
    have HR := Lib.hid R
    clear R
    go_wp2_with (first
      | (at_next; refine wpList_next_at rfl _ rfl w1.heap.size g clk c0 clk _ arr rfl hit mp HB.out.2 hc0 ?_ ?_)
      | go_in)
    · intro h0
      have hp := rng_perm HR.out (by rw [h0.out]; rfl) HB.out HV.out HA.out
      obtain ⟨g', cap, rfl, q1, q2, q3, q4, q5⟩ := rng_end HR.out hp
      have P1 := Lib.hid q1
      have P2 := Lib.hid q2
      have P3 := Lib.hid q3
      have P4 := Lib.hid q4
      have P5 := Lib.hid q5
      have PP := Lib.hid hp
      clear q1 q2 q3 q4 q5 hp mp hit h0
      go_wp2_with (first
        | (go_at_call 27; refine (sort_calls g' cap _ _ P5.out P2.out (by simpa using PP.out)).mono ?_; rintro e w3 ⟨rfl, hgr, hho⟩)
        | go_in)
      go_ret
      have b1 := H1.out
      have hs1 := b1.size
      have hl := HR.out.lt
      have z1 := P1.out
      have z2 := P2.out
      have b2 := below_of_grown HR.out.bel hgr (by omega) (fun k h => by cases h; omega)
      exact ⟨ext_trans b1 b2, g', cap, rfl, by omega, Nat.lt_of_lt_of_le z2 hgr.size, P3.out, P4.out, hho⟩
    · intro e w2 hn
      obtain ⟨hea, hes⟩ := mem_left hn.out.left
      have hit2 := hn.out.here
      have mp2 : w2.heap[g]? = some (.map arr clk) := (hn.out.grown.block g (Array.getElem?_eq_some_iff.1 mp).1 (by simp; omega)).trans mp
      have hen := run_entry_at (P := Tryd.prog) w2 w1.heap.size g clk _ arr clk e hit2 mp2 hea HB.out.1
      have hval : e.val = verbV (nth (dk e)) := entry_val HV.out HA.out hea
      unfold verbV at hval
      have HE := Lib.hid hea
      have HS := Lib.hid hes
      have mp0 := mp
      clear hea hes hit2 mp2 hit mp
      have hcnt := HR.out.cnt
      have harl : arr.size = 36 := by
        have h1 := congrArg List.length HA.out
        rw [List.length_map, List.length_map, HV.out.length_eq, verbs_len] at h1
        simpa using h1
      have hL : L.length ≤ 36 := by omega
      have MP := Lib.hid mp0
      clear hcnt harl mp0
      go_wp2_with (first
        | (at_builtin; refine wpList_append_row rfl _ _ 40 rfl (w1.heap.size + 1) 35 4 40 (.agg #[.string ⟨#[]⟩, .int .i64 0, .int .i64 0, .bool false]) Tryd.underlying40 (by kernel_rfl) rfl (by decide) _ L.length _ rfl (rng_own HR.out hn.out _ _) (some ⟨w2.heap.size + 1, 0, none⟩) 1 1 (encV (dk e)) rfl (fun h => by cases h) rfl (row_verb w2 _ _) (encV_one _) (by unfold maxLen; omega) (by omega) (by have := HR.out.lt; have := hn.out.size; simp; omega) ?_; intro v' w3 ho hg2 _)
        | go_in)
      have hst := rng_step HR.out hn.out _ _ MP.out hglt hg2 ho
      go_roundw
      case rel => exact ⟨_, hst.1⟩
      case measure => exact hst.2
/-- What all verbs are. -/
theorem all_to : CallsTo Tryd.prog 20 [] (.sl 1 (verbs.map GVerb.cs)) [] := by
  refine ⟨by kernel_rfl, fun w S vs hG hS hlen hrel => ?_⟩
  obtain rfl := List.length_eq_zero_iff.1 hlen
  refine (all_calls w hG).mono ?_
  rintro e w' ⟨hb, g, cap, rfl, hg, hgl, hc, hm, hH⟩
  have hr : CRel (fun a => S a ∨ (a.spot = none ∧ a.block = g)) w' (.sl 1 (verbs.map GVerb.cs)) (.slice (some ⟨g, 0, none⟩) 36 cap) := by
    have h36 : ∀ i : Nat, i < 36 → all36[i]! = Fin.ofNat 36 i := by decide +kernel
    have hv : ∀ i : Nat, i < 36 → (verbs.map GVerb.cs)[i]? = some (nth (Fin.ofNat 36 i)).cs := by
      intro i hi
      rw [List.getElem?_map, List.getElem?_eq_getElem (by rw [verbs_len]; exact hi)]
      simp [nth, Fin.ofNat, Nat.mod_eq_of_lt hi, List.getD_eq_getElem?_getD, List.getElem?_eq_getElem (show i < verbs.length by rw [verbs_len]; exact hi)]
    have key := CRel.sl (S := fun a => S a ∨ (a.spot = none ∧ a.block = g)) (w := w') 1 (verbs.map GVerb.cs) (some ⟨g, 0, none⟩) cap 4 (fun i j => (encV (Fin.ofNat 36 i)).getD j (.bool false)) (by omega) (fun h => by cases h) (fun h => by cases h) (by rw [List.length_map, verbs_len]; exact hc) hm
      (fun x hx => by obtain ⟨v, _, rfl⟩ := List.mem_map.1 hx; rfl) (fun i j => ?_) (fun i j x p hx hp => ?_) (fun i j x p hx hp => ?_)
    · rw [List.length_map, verbs_len] at key
      exact key
    · match j with
      | 0 => rfl
      | 1 => rfl
      | 2 => rfl
      | 3 => rfl
      | n + 4 => rfl
    · have hi : i < 36 := by have := (List.getElem?_eq_some_iff.1 hx).1; rwa [List.length_map, verbs_len] at this
      rw [hv i hi] at hx
      cases hx
      have hj : j < 4 := (List.getElem?_eq_some_iff.1 hp).1
      have h := (hH (i * 4 + j) (by rw [size_flatK]; show i * 4 + j < 36 * 4; omega)).1
      rw [get_flatK _ _ _ _ (by show i * 4 + j < 36 * 4; omega)] at h
      have d1 : (i * 4 + j) / 4 = i := by omega
      have d2 : (i * 4 + j) % 4 = j := by omega
      rw [d1, d2, h36 i hi] at h
      refine ⟨_, rfl, .inr ?_, ?_⟩
      · rw [Addr.add_lit]
        exact ⟨rfl, rfl⟩
      · rw [Addr.add_lit]
        refine h.trans ?_
        rw [List.getD_eq_getElem?_getD, getElem!_pos (encV (Fin.ofNat 36 i)) j (by rw [encV_len]; exact hj), List.getElem?_eq_getElem (by rw [encV_len]; exact hj)]
        rfl
    · have hi : i < 36 := by have := (List.getElem?_eq_some_iff.1 hx).1; rwa [List.length_map, verbs_len] at this
      rw [hv i hi] at hx
      cases hx
      match j, hp with
      | 0, hp => cases hp; exact .str _
      | 1, hp => cases hp; exact .int _ _
      | 2, hp => cases hp; exact .int _ _
      | 3, hp => cases hp; exact .bool _
      | n + 4, hp => cases hp
  refine ⟨_, fun a => S a ∨ (a.spot = none ∧ a.block = g), fun _ => undef, rfl, hb, fun a ha => ⟨fun hs => hs.elim id fun ho => ?_, .inl⟩, fun a hs => ?_, .c hr, fun _ => hr, fun t e k n h => (by cases h), fun x h => (by cases h)⟩
  · have := ho.2
    omega
  · rcases hs with hs | ho
    · exact ⟨Nat.lt_of_lt_of_le (hS a hs).1 hb.size, (hS a hs).2⟩
    · exact ⟨by rw [ho.2]; exact hgl, ho.1⟩
end Go.Proofs.YtgagnohelibaoaaDoor
