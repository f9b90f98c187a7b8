-- Printed by a program of ours (wip/common/mkprint.py), turned from the kit's print; Lean checks it.
import Derived.Test.YtfkknipkfcmiaaaPAllx0
import Derived.Test.YtfkknipkfcmiaaaPAllx2
namespace Go.Proofs.Ytfkknipkfcmiaaa.PAll
open Go.Proofs.Ytfkknipkfcmiaaa.Add
open Go.RowKit Go.Proofs.YtfkknipkfcmiaaaW.PrintWords Go.Proofs.YtfkknipkfcmiaaaW.PrintLast Go.Proofs.YtfkknipkfcmiaaaW.PrintMore
attribute [local go_sem] max2_int min2_int max_two min_two max_three min_three max_four min_four   -- for this text's walks alone
set_option linter.unusedVariables false
set_option linter.unusedSimpArgs false

/-! ### remontoirlaw01_TickSums: function 5 -/
mutual
def remontoirlaw01_TickSums.j0 : Nat → Int → Int → Int → Int → Bool → Bool → Option (Bool)
  | 0, _, _, _, _, _, _ => none
  | k + 1, x0, x1, x2, x7, x8, x70 => if x70 = true then (none) else ((tick_Sum.f x1 x2).bind fun bt217 => ((tick_Sum.f x7 x2).bind fun bt219 => ((tick_Sum.f x0 bt217.1).bind fun bt221 => (if x8 = true then (if bt217.2 = true then (if (bt219.2 != bt221.2) = true then (remontoirlaw01_TickSums.j1 k x0 x1 x2 bt217.1 bt217.2 true) else (if bt219.2 = true then (remontoirlaw01_TickSums.j1 k x0 x1 x2 bt217.1 bt217.2 (bt219.1 != bt221.1)) else (remontoirlaw01_TickSums.j1 k x0 x1 x2 bt217.1 bt217.2 false))) else (if (bt219.2 != false) = true then (remontoirlaw01_TickSums.j1 k x0 x1 x2 bt217.1 bt217.2 true) else (if bt219.2 = true then (remontoirlaw01_TickSums.j1 k x0 x1 x2 bt217.1 bt217.2 (bt219.1 != bt221.1)) else (remontoirlaw01_TickSums.j1 k x0 x1 x2 bt217.1 bt217.2 false)))) else (if bt217.2 = true then (if (false != bt221.2) = true then (remontoirlaw01_TickSums.j1 k x0 x1 x2 bt217.1 bt217.2 true) else (remontoirlaw01_TickSums.j1 k x0 x1 x2 bt217.1 bt217.2 false)) else (remontoirlaw01_TickSums.j1 k x0 x1 x2 bt217.1 bt217.2 false))))))
def remontoirlaw01_TickSums.j1 : Nat → Int → Int → Int → Int → Bool → Bool → Option (Bool)
  | 0, _, _, _, _, _, _ => none
  | k + 1, x0, x1, x2, x11, x12, x108 => if x108 = true then (none) else ((tick_Times.f x0 x1).bind fun bt223 => ((tick_Times.f x1 x0).bind fun bt225 => (if bt223.1 = bt225.1 then (if (bt223.2 != bt225.2) = true then (remontoirlaw01_TickSums.j2 k x0 x2 x11 x12 bt223.1 bt223.2 true) else (if x0 = 0 then (if bt223.2 = true then (remontoirlaw01_TickSums.j2 k x0 x2 x11 x12 bt223.1 bt223.2 (bt223.1 != 0)) else (remontoirlaw01_TickSums.j2 k x0 x2 x11 x12 bt223.1 bt223.2 true)) else (remontoirlaw01_TickSums.j2 k x0 x2 x11 x12 bt223.1 bt223.2 false))) else (remontoirlaw01_TickSums.j2 k x0 x2 x11 x12 bt223.1 bt223.2 true))))
def remontoirlaw01_TickSums.j2 : Nat → Int → Int → Int → Bool → Int → Bool → Bool → Option (Bool)
  | 0, _, _, _, _, _, _, _ => none
  | k + 1, x0, x2, x11, x12, x17, x18, x140 => if x140 = true then (none) else ((tick_Times.f x0 x2).bind fun bt227 => (if x12 = true then (if x18 = true then (remontoirlaw01_TickSums.j3 k x0 x11 x17 bt227.1 bt227.2) else (remontoirlaw01_TickSums.j3 k x0 x11 x17 bt227.1 false)) else (remontoirlaw01_TickSums.j3 k x0 x11 x17 bt227.1 false)))
def remontoirlaw01_TickSums.j3 : Nat → Int → Int → Int → Int → Bool → Option (Bool)
  | 0, _, _, _, _, _ => none
  | k + 1, x0, x11, x17, x21, x153 => if x153 = true then ((tick_Times.f x0 x11).bind fun bt229 => ((tick_Sum.f x17 x21).bind fun bt231 => (if (bt229.2 != bt231.2) = true then (none) else (if bt229.2 = true then (if bt229.1 = bt231.1 then ((remontoirlaw01_wakes.f k).bind fun t233 => (some t233)) else (none)) else ((remontoirlaw01_wakes.f k).bind fun t234 => (some t234)))))) else ((remontoirlaw01_wakes.f k).bind fun t235 => (some t235))
end
def remontoirlaw01_TickSums.f (k : Nat) (a0 : Int) (a1 : Int) (a2 : Int) : Option (Bool) := (tick_Sum.f a0 a1).bind fun bt211 => ((tick_Sum.f a1 a0).bind fun bt213 => (if bt211.1 = bt213.1 then (if (bt211.2 != bt213.2) = true then (remontoirlaw01_TickSums.j0 k a0 a1 a2 bt211.1 bt211.2 true) else (if bt211.2 = true then ((tick_Held.f a0 a1).bind fun t215 => (if t215 = bt211.1 then (remontoirlaw01_TickSums.j0 k a0 a1 a2 bt211.1 bt211.2 false) else (remontoirlaw01_TickSums.j0 k a0 a1 a2 bt211.1 bt211.2 true))) else (if bt211.1 = 0 then ((tick_Held.f a0 a1).bind fun t216 => (remontoirlaw01_TickSums.j0 k a0 a1 a2 bt211.1 bt211.2 (t216 != 18446744073709551615))) else (remontoirlaw01_TickSums.j0 k a0 a1 a2 bt211.1 bt211.2 true)))) else (remontoirlaw01_TickSums.j0 k a0 a1 a2 bt211.1 bt211.2 true)))
theorem remontoirlaw01_TickSums.mono_l : ∀ k, (∀ y0 y1 y2 y3 y4 y5, LeO (remontoirlaw01_TickSums.j0 k y0 y1 y2 y3 y4 y5) (remontoirlaw01_TickSums.j0 (k + 1) y0 y1 y2 y3 y4 y5)) ∧ (∀ y0 y1 y2 y3 y4 y5, LeO (remontoirlaw01_TickSums.j1 k y0 y1 y2 y3 y4 y5) (remontoirlaw01_TickSums.j1 (k + 1) y0 y1 y2 y3 y4 y5)) ∧ (∀ y0 y1 y2 y3 y4 y5 y6, LeO (remontoirlaw01_TickSums.j2 k y0 y1 y2 y3 y4 y5 y6) (remontoirlaw01_TickSums.j2 (k + 1) y0 y1 y2 y3 y4 y5 y6)) ∧ (∀ y0 y1 y2 y3 y4, LeO (remontoirlaw01_TickSums.j3 k y0 y1 y2 y3 y4) (remontoirlaw01_TickSums.j3 (k + 1) y0 y1 y2 y3 y4))
  | 0 => ⟨fun _ _ _ _ _ _ r h => by simp [remontoirlaw01_TickSums.j0] at h, fun _ _ _ _ _ _ r h => by simp [remontoirlaw01_TickSums.j1] at h, fun _ _ _ _ _ _ _ r h => by simp [remontoirlaw01_TickSums.j2] at h, fun _ _ _ _ _ r h => by simp [remontoirlaw01_TickSums.j3] at h⟩
  | k + 1 => by
    obtain ⟨ih0, ih1, ih2, ih3⟩ := remontoirlaw01_TickSums.mono_l k
    refine ⟨?_, ?_, ?_, ?_⟩
    · intro y0 y1 y2 y3 y4 y5
      unfold remontoirlaw01_TickSums.j0
      repeat' first
      | (with_reducible exact ih0 _ _ _ _ _ _)
      | (with_reducible exact ih1 _ _ _ _ _ _)
      | (with_reducible exact ih2 _ _ _ _ _ _ _)
      | (with_reducible exact ih3 _ _ _ _ _)
      | (with_reducible exact remontoirlaw01_wakes.mono _)
      | (with_reducible exact LeO.refl _)
      | (with_reducible exact LeO.none _)
      | (with_reducible refine LeO.ite ?_ ?_)
      | (with_reducible refine LeO.bind ?_ (fun _ => ?_))
      | exact ih0 _ _ _ _ _ _
      | exact ih1 _ _ _ _ _ _
      | exact ih2 _ _ _ _ _ _ _
      | exact ih3 _ _ _ _ _
      | exact remontoirlaw01_wakes.mono _
      | exact LeO.none _
      | refine LeO.ite ?_ ?_
      | refine LeO.bind ?_ (fun _ => ?_)
    · intro y0 y1 y2 y3 y4 y5
      unfold remontoirlaw01_TickSums.j1
      repeat' first
      | (with_reducible exact ih0 _ _ _ _ _ _)
      | (with_reducible exact ih1 _ _ _ _ _ _)
      | (with_reducible exact ih2 _ _ _ _ _ _ _)
      | (with_reducible exact ih3 _ _ _ _ _)
      | (with_reducible exact remontoirlaw01_wakes.mono _)
      | (with_reducible exact LeO.refl _)
      | (with_reducible exact LeO.none _)
      | (with_reducible refine LeO.ite ?_ ?_)
      | (with_reducible refine LeO.bind ?_ (fun _ => ?_))
      | exact ih0 _ _ _ _ _ _
      | exact ih1 _ _ _ _ _ _
      | exact ih2 _ _ _ _ _ _ _
      | exact ih3 _ _ _ _ _
      | exact remontoirlaw01_wakes.mono _
      | exact LeO.none _
      | refine LeO.ite ?_ ?_
      | refine LeO.bind ?_ (fun _ => ?_)
    · intro y0 y1 y2 y3 y4 y5 y6
      unfold remontoirlaw01_TickSums.j2
      repeat' first
      | (with_reducible exact ih0 _ _ _ _ _ _)
      | (with_reducible exact ih1 _ _ _ _ _ _)
      | (with_reducible exact ih2 _ _ _ _ _ _ _)
      | (with_reducible exact ih3 _ _ _ _ _)
      | (with_reducible exact remontoirlaw01_wakes.mono _)
      | (with_reducible exact LeO.refl _)
      | (with_reducible exact LeO.none _)
      | (with_reducible refine LeO.ite ?_ ?_)
      | (with_reducible refine LeO.bind ?_ (fun _ => ?_))
      | exact ih0 _ _ _ _ _ _
      | exact ih1 _ _ _ _ _ _
      | exact ih2 _ _ _ _ _ _ _
      | exact ih3 _ _ _ _ _
      | exact remontoirlaw01_wakes.mono _
      | exact LeO.none _
      | refine LeO.ite ?_ ?_
      | refine LeO.bind ?_ (fun _ => ?_)
    · intro y0 y1 y2 y3 y4
      unfold remontoirlaw01_TickSums.j3
      repeat' first
      | (with_reducible exact ih0 _ _ _ _ _ _)
      | (with_reducible exact ih1 _ _ _ _ _ _)
      | (with_reducible exact ih2 _ _ _ _ _ _ _)
      | (with_reducible exact ih3 _ _ _ _ _)
      | (with_reducible exact remontoirlaw01_wakes.mono _)
      | (with_reducible exact LeO.refl _)
      | (with_reducible exact LeO.none _)
      | (with_reducible refine LeO.ite ?_ ?_)
      | (with_reducible refine LeO.bind ?_ (fun _ => ?_))
      | exact ih0 _ _ _ _ _ _
      | exact ih1 _ _ _ _ _ _
      | exact ih2 _ _ _ _ _ _ _
      | exact ih3 _ _ _ _ _
      | exact remontoirlaw01_wakes.mono _
      | exact LeO.none _
      | refine LeO.ite ?_ ?_
      | refine LeO.bind ?_ (fun _ => ?_)
theorem remontoirlaw01_TickSums.mono : ∀ a0 a1 a2 k, LeO (remontoirlaw01_TickSums.f k a0 a1 a2) (remontoirlaw01_TickSums.f (k + 1) a0 a1 a2) := by
  intro a0 a1 a2 k
  obtain ⟨ih0, ih1, ih2, ih3⟩ := remontoirlaw01_TickSums.mono_l k
  unfold remontoirlaw01_TickSums.f
  repeat' first
      | (with_reducible exact ih0 _ _ _ _ _ _)
      | (with_reducible exact ih1 _ _ _ _ _ _)
      | (with_reducible exact ih2 _ _ _ _ _ _ _)
      | (with_reducible exact ih3 _ _ _ _ _)
      | (with_reducible exact remontoirlaw01_wakes.mono _)
      | (with_reducible exact LeO.refl _)
      | (with_reducible exact LeO.none _)
      | (with_reducible refine LeO.ite ?_ ?_)
      | (with_reducible refine LeO.bind ?_ (fun _ => ?_))
      | exact ih0 _ _ _ _ _ _
      | exact ih1 _ _ _ _ _ _
      | exact ih2 _ _ _ _ _ _ _
      | exact ih3 _ _ _ _ _
      | exact remontoirlaw01_wakes.mono _
      | exact LeO.none _
      | refine LeO.ite ?_ ?_
      | refine LeO.bind ?_ (fun _ => ?_)
set_option maxHeartbeats 8000000 in
set_option maxRecDepth 100000 in
theorem remontoirlaw01_TickSums.calls (k : Nat) (a0 : Int) (a1 : Int) (a2 : Int) (r : Bool) (w : World) (h : remontoirlaw01_TickSums.f k a0 a1 a2 = some r) (hT0 : TabOk w) :
    Calls Try.prog 5 #[.int .u64 a0, .int .u64 a1, .int .u64 a2] w fun e w' => e = .returned (.bool r) ∧ Below w.heap.size w w' := by
  have HT0 := Aside0.mk hT0
  clear hT0
  have HB := Aside0.mk (Below.refl w.heap.size w)
  have H : ((tick_Sum.f a0 a1).bind fun bt211 => ((tick_Sum.f a1 a0).bind fun bt213 => (if bt211.1 = bt213.1 then (if (bt211.2 != bt213.2) = true then (remontoirlaw01_TickSums.j0 k a0 a1 a2 bt211.1 bt211.2 true) else (if bt211.2 = true then ((tick_Held.f a0 a1).bind fun t215 => (if t215 = bt211.1 then (remontoirlaw01_TickSums.j0 k a0 a1 a2 bt211.1 bt211.2 false) else (remontoirlaw01_TickSums.j0 k a0 a1 a2 bt211.1 bt211.2 true))) else (if bt211.1 = 0 then ((tick_Held.f a0 a1).bind fun t216 => (remontoirlaw01_TickSums.j0 k a0 a1 a2 bt211.1 bt211.2 (t216 != 18446744073709551615))) else (remontoirlaw01_TickSums.j0 k a0 a1 a2 bt211.1 bt211.2 true)))) else (remontoirlaw01_TickSums.j0 k a0 a1 a2 bt211.1 bt211.2 true)))) = some r := h
  clear h
  replace H := Option.bind_eq_some_iff.mp H
  obtain ⟨⟨t211, t212⟩, A40, H⟩ := H
  replace H : ((tick_Sum.f a1 a0).bind fun bt213 => (if t211 = bt213.1 then (if (t212 != bt213.2) = true then (remontoirlaw01_TickSums.j0 k a0 a1 a2 t211 t212 true) else (if t212 = true then ((tick_Held.f a0 a1).bind fun t215 => (if t215 = t211 then (remontoirlaw01_TickSums.j0 k a0 a1 a2 t211 t212 false) else (remontoirlaw01_TickSums.j0 k a0 a1 a2 t211 t212 true))) else (if t211 = 0 then ((tick_Held.f a0 a1).bind fun t216 => (remontoirlaw01_TickSums.j0 k a0 a1 a2 t211 t212 (t216 != 18446744073709551615))) else (remontoirlaw01_TickSums.j0 k a0 a1 a2 t211 t212 true)))) else (remontoirlaw01_TickSums.j0 k a0 a1 a2 t211 t212 true))) = some r := H
  have A4 := Aside0.mk A40
  clear A40
  replace H := Option.bind_eq_some_iff.mp H
  obtain ⟨⟨t213, t214⟩, A50, H⟩ := H
  replace H : (if t211 = t213 then (if (t212 != t214) = true then (remontoirlaw01_TickSums.j0 k a0 a1 a2 t211 t212 true) else (if t212 = true then ((tick_Held.f a0 a1).bind fun t215 => (if t215 = t211 then (remontoirlaw01_TickSums.j0 k a0 a1 a2 t211 t212 false) else (remontoirlaw01_TickSums.j0 k a0 a1 a2 t211 t212 true))) else (if t211 = 0 then ((tick_Held.f a0 a1).bind fun t216 => (remontoirlaw01_TickSums.j0 k a0 a1 a2 t211 t212 (t216 != 18446744073709551615))) else (remontoirlaw01_TickSums.j0 k a0 a1 a2 t211 t212 true)))) else (remontoirlaw01_TickSums.j0 k a0 a1 a2 t211 t212 true)) = some r := H
  have A5 := Aside0.mk A50
  clear A50
  have HC6 := Aside0.mk H
  clear H
  go_enter Try.func5, Try.ntmps5
  go_upto_region 3 with (first | ((with_reducible refine gate_callee (f := 11) rfl ?_); refine goesL_ (some 30) rfl rfl Try.func11 (by kernel_rfl) rfl #[.int .u64 a0, .int .u64 a1] rfl (by (try simp only [List.map_toArray, List.map_cons, List.map_nil]); first | done | rfl | (simp only [List.length_drop, List.length_take]; rfl)) ?_; (with_reducible refine (tick_Sum.calls a0 a1 t211 t212 _ A4.out (TabOk.below HT0.out (by repeat (first | (with_reducible first | exact HB.out | apply below_alloc | apply pw_below_drewN | apply below_drew1) | exact HB.out)))).mono ?_); rintro e w7 ⟨rfl, hb⟩; refine ⟨_, rfl, ?_⟩; have n0_ := Aside0.mk (below_step (by repeat (first | (with_reducible first | exact HB.out | apply below_alloc | apply pw_below_drewN | apply below_drew1) | exact HB.out)) hb); clear HB; have HB := n0_; clear n0_; (try clear hb); (try clear hb2); (try clear hk); (try clear hi)) | ((with_reducible refine gate_callee (f := 11) rfl ?_); refine goesL_ (some 36) rfl rfl Try.func11 (by kernel_rfl) rfl #[.int .u64 a1, .int .u64 a0] rfl (by (try simp only [List.map_toArray, List.map_cons, List.map_nil]); first | done | rfl | (simp only [List.length_drop, List.length_take]; rfl)) ?_; (with_reducible refine (tick_Sum.calls a1 a0 t213 t214 _ A5.out (TabOk.below HT0.out (by repeat (first | (with_reducible first | exact HB.out | apply below_alloc | apply pw_below_drewN | apply below_drew1) | exact HB.out)))).mono ?_); rintro e w8 ⟨rfl, hb⟩; refine ⟨_, rfl, ?_⟩; have n0_ := Aside0.mk (below_step (by repeat (first | (with_reducible first | exact HB.out | apply below_alloc | apply pw_below_drewN | apply below_drew1) | exact HB.out)) hb); clear HB; have HB := n0_; clear n0_; (try clear hb); (try clear hb2); (try clear hk); (try clear hi)))
  (try simp only [Act.put, List.setIfInBounds_toArray, List.set_cons_zero, List.set_cons_succ])
  go_cut [70] (fun v70 wc => ∃ (kq : Nat) (x70_5 : Bool), v70 = .bool x70_5 ∧ Aside0 (remontoirlaw01_TickSums.j0 kq a0 a1 a2 t211 t212 x70_5 = some r) ∧ Aside0 (kq ≤ k) ∧ Aside0 (Below w.heap.size w wc))
  case first => as_aux_lemma =>
    have H := HC6.out
    clear HC6
    by_cases c9 : t211 = t213
    · rw [if_pos c9] at H
      have c9b0 : (t211 == t213) = true := beq_iff_eq.mpr c9
      have c9b1 : (t211 != t213) = false := bne_eq_false_iff_eq.mpr c9
      clear c9
      (first | rw [c9b0] | (simp only [i64_w, i32_w]; rw [c9b0]) | skip)
      by_cases c10 : (t212 != t214) = true
      · rw [if_pos c10] at H
        have c10b0 : (t212 != t214) = true := c10
        (try (have c10b1 : decide (t212 = t214) = false := by simpa using c10))
        (try (have c10b2 : (t212 == t214) = false := by simpa using c10))
        (try (have c10b3 : ¬ (t212 = t214) := by simpa using c10))
        clear c10
        have H' := Aside0.mk H
        clear H
        go_wp2
        go_meet
        case rel => exact ⟨_, (true), (by first | (with_reducible rfl) | (simp; done) | (simp [*]; done) | (simp; decide +kernel)), H', ⟨by first | omega | exact Nat.le_refl _⟩, ⟨by repeat (first | (with_reducible first | exact HB.out | apply below_alloc | apply pw_below_drewN | apply below_drew1) | exact HB.out)⟩⟩
      · rw [if_neg c10] at H
        have c10b0 : (t212 != t214) = false := by simpa using c10
        (try (have c10b1 : decide (t212 = t214) = true := by simpa using c10))
        (try (have c10b2 : (t212 == t214) = true := by simpa using c10))
        clear c10
        by_cases c11 : t212 = true
        · subst c11
          have H1 : ((tick_Held.f a0 a1).bind fun t215 => (if t215 = t211 then (remontoirlaw01_TickSums.j0 k a0 a1 a2 t211 true false) else (remontoirlaw01_TickSums.j0 k a0 a1 a2 t211 true true))) = some r := by rw [if_pos rfl] at H; exact H
          clear H
          have H := H1
          clear H1
          replace H := Option.bind_eq_some_iff.mp H
          obtain ⟨t215, A120, H⟩ := H
          replace H : (if t215 = t211 then (remontoirlaw01_TickSums.j0 k a0 a1 a2 t211 true false) else (remontoirlaw01_TickSums.j0 k a0 a1 a2 t211 true true)) = some r := H
          have A12 := Aside0.mk A120
          clear A120
          by_cases c13 : t215 = t211
          · rw [if_pos c13] at H
            have c13b0 : (t215 == t211) = true := beq_iff_eq.mpr c13
            have c13b1 : (t215 != t211) = false := bne_eq_false_iff_eq.mpr c13
            clear c13
            have H' := Aside0.mk H
            clear H
            go_wp2_with (first | (go_at_call 12; (with_reducible refine (tick_Held.calls a0 a1 t215 _ A12.out (TabOk.below HT0.out (by repeat (first | (with_reducible first | exact HB.out | apply below_alloc | apply pw_below_drewN | apply below_drew1) | exact HB.out)))).mono ?_); rintro e w14 ⟨rfl, hb⟩; have n0_ := Aside0.mk (below_step (by repeat (first | (with_reducible first | exact HB.out | apply below_alloc | apply pw_below_drewN | apply below_drew1) | exact HB.out)) hb); clear HB; have HB := n0_; clear n0_; (try clear hb); (try clear hb2); (try clear hk); (try clear hi)))
            go_meet
            case rel => exact ⟨_, (false), (by first | (with_reducible rfl) | (simp; done) | (simp [*]; done) | (simp; decide +kernel)), H', ⟨by first | omega | exact Nat.le_refl _⟩, ⟨by repeat (first | (with_reducible first | exact HB.out | apply below_alloc | apply pw_below_drewN | apply below_drew1) | exact HB.out)⟩⟩
          · rw [if_neg c13] at H
            have c13b0 : (t215 == t211) = false := beq_eq_false_iff_ne.mpr c13
            have c13b1 : (t215 != t211) = true := bne_iff_ne.mpr c13
            have H' := Aside0.mk H
            clear H
            go_wp2_with (first | (go_at_call 12; (with_reducible refine (tick_Held.calls a0 a1 t215 _ A12.out (TabOk.below HT0.out (by repeat (first | (with_reducible first | exact HB.out | apply below_alloc | apply pw_below_drewN | apply below_drew1) | exact HB.out)))).mono ?_); rintro e w15 ⟨rfl, hb⟩; have n0_ := Aside0.mk (below_step (by repeat (first | (with_reducible first | exact HB.out | apply below_alloc | apply pw_below_drewN | apply below_drew1) | exact HB.out)) hb); clear HB; have HB := n0_; clear n0_; (try clear hb); (try clear hb2); (try clear hk); (try clear hi)))
            go_meet
            case rel => exact ⟨_, (true), (by first | (with_reducible rfl) | (simp; done) | (simp [*]; done) | (simp; decide +kernel)), H', ⟨by first | omega | exact Nat.le_refl _⟩, ⟨by repeat (first | (with_reducible first | exact HB.out | apply below_alloc | apply pw_below_drewN | apply below_drew1) | exact HB.out)⟩⟩
        · replace c11 := Bool.eq_false_iff.mpr c11
          subst c11
          have H1 : (if t211 = 0 then ((tick_Held.f a0 a1).bind fun t216 => (remontoirlaw01_TickSums.j0 k a0 a1 a2 t211 false (t216 != 18446744073709551615))) else (remontoirlaw01_TickSums.j0 k a0 a1 a2 t211 false true)) = some r := by rw [if_neg (show ¬ (false = true) by decide)] at H; exact H
          clear H
          have H := H1
          clear H1
          by_cases c16 : t211 = 0
          · rw [if_pos c16] at H
            have c16b0 : (t211 == 0) = true := beq_iff_eq.mpr c16
            have c16b1 : (t211 != 0) = false := bne_eq_false_iff_eq.mpr c16
            clear c16
            replace H := Option.bind_eq_some_iff.mp H
            obtain ⟨t216, A170, H⟩ := H
            replace H : (remontoirlaw01_TickSums.j0 k a0 a1 a2 t211 false (t216 != 18446744073709551615)) = some r := H
            have A17 := Aside0.mk A170
            clear A170
            have H' := Aside0.mk H
            clear H
            have hbig : t216 = 18446744073709551615 := by have h_ := A17.out; unfold tick_Held.f at h_; rw [A4.out, Option.bind_some, if_neg (show ¬ (false = true) by decide)] at h_; exact (Option.some.inj h_).symm
            subst hbig
            go_wp2_with (first | (go_at_call 12; (with_reducible refine (tick_Held.calls a0 a1 18446744073709551615 _ A17.out (TabOk.below HT0.out (by repeat (first | (with_reducible first | exact HB.out | apply below_alloc | apply pw_below_drewN | apply below_drew1) | exact HB.out)))).mono ?_); rintro e w18 ⟨rfl, hb⟩; have n0_ := Aside0.mk (below_step (by repeat (first | (with_reducible first | exact HB.out | apply below_alloc | apply pw_below_drewN | apply below_drew1) | exact HB.out)) hb); clear HB; have HB := n0_; clear n0_; (try clear hb); (try clear hb2); (try clear hk); (try clear hi)))
            go_meet
            case rel => exact ⟨_, (((18446744073709551615 : Int) != 18446744073709551615)), (by first | (with_reducible rfl) | (simp; done) | (simp [*]; done) | (simp; decide +kernel)), H', ⟨by first | omega | exact Nat.le_refl _⟩, ⟨by repeat (first | (with_reducible first | exact HB.out | apply below_alloc | apply pw_below_drewN | apply below_drew1) | exact HB.out)⟩⟩
          · rw [if_neg c16] at H
            have c16b0 : (t211 == 0) = false := beq_eq_false_iff_ne.mpr c16
            have c16b1 : (t211 != 0) = true := bne_iff_ne.mpr c16
            have H' := Aside0.mk H
            clear H
            go_wp2
            go_meet
            case rel => exact ⟨_, (true), (by first | (with_reducible rfl) | (simp; done) | (simp [*]; done) | (simp; decide +kernel)), H', ⟨by first | omega | exact Nat.le_refl _⟩, ⟨by repeat (first | (with_reducible first | exact HB.out | apply below_alloc | apply pw_below_drewN | apply below_drew1) | exact HB.out)⟩⟩
    · rw [if_neg c9] at H
      have c9b0 : (t211 == t213) = false := beq_eq_false_iff_ne.mpr c9
      have c9b1 : (t211 != t213) = true := bne_iff_ne.mpr c9
      (first | rw [c9b0] | (simp only [i64_w, i32_w]; rw [c9b0]) | skip)
      have H' := Aside0.mk H
      clear H
      go_wp2
      go_meet
      case rel => exact ⟨_, (true), (by first | (with_reducible rfl) | (simp; done) | (simp [*]; done) | (simp; decide +kernel)), H', ⟨by first | omega | exact Nat.le_refl _⟩, ⟨by repeat (first | (with_reducible first | exact HB.out | apply below_alloc | apply pw_below_drewN | apply below_drew1) | exact HB.out)⟩⟩
  case rest => as_aux_lemma =>
    clear HC6
    try clear c1
    try clear p2
    try clear c5
    try clear c9
    try clear c9b0
    try clear c9b1
    try clear c10
    try clear c10b0
    try clear c10b1
    try clear c10b2
    try clear c11
    try clear c13
    try clear c13b0
    try clear c13b1
    try clear c16
    try clear c16b0
    try clear c16b1
    obtain ⟨kq, x70_5, rfl, HA, HJ5, HB⟩ := hcut
    cases kq with
    | zero => exact absurd HA.out (by simp [remontoirlaw01_TickSums.j0])
    | succ kj5 =>
      have H := HA.out
      clear HA
      simp only [remontoirlaw01_TickSums.j0] at H
      by_cases c19 : x70_5 = true
      · subst c19
        have H1 : (none) = some r := by rw [if_pos rfl] at H; exact H
        clear H
        have H := H1
        clear H1
        exact absurd H (by simp)
      · replace c19 := Bool.eq_false_iff.mpr c19
        subst c19
        have H1 : ((tick_Sum.f a1 a2).bind fun bt217 => ((tick_Sum.f t211 a2).bind fun bt219 => ((tick_Sum.f a0 bt217.1).bind fun bt221 => (if t212 = true then (if bt217.2 = true then (if (bt219.2 != bt221.2) = true then (remontoirlaw01_TickSums.j1 kj5 a0 a1 a2 bt217.1 bt217.2 true) else (if bt219.2 = true then (remontoirlaw01_TickSums.j1 kj5 a0 a1 a2 bt217.1 bt217.2 (bt219.1 != bt221.1)) else (remontoirlaw01_TickSums.j1 kj5 a0 a1 a2 bt217.1 bt217.2 false))) else (if (bt219.2 != false) = true then (remontoirlaw01_TickSums.j1 kj5 a0 a1 a2 bt217.1 bt217.2 true) else (if bt219.2 = true then (remontoirlaw01_TickSums.j1 kj5 a0 a1 a2 bt217.1 bt217.2 (bt219.1 != bt221.1)) else (remontoirlaw01_TickSums.j1 kj5 a0 a1 a2 bt217.1 bt217.2 false)))) else (if bt217.2 = true then (if (false != bt221.2) = true then (remontoirlaw01_TickSums.j1 kj5 a0 a1 a2 bt217.1 bt217.2 true) else (remontoirlaw01_TickSums.j1 kj5 a0 a1 a2 bt217.1 bt217.2 false)) else (remontoirlaw01_TickSums.j1 kj5 a0 a1 a2 bt217.1 bt217.2 false)))))) = some r := by rw [if_neg (show ¬ (false = true) by decide)] at H; exact H
        clear H
        have H := H1
        clear H1
        replace H := Option.bind_eq_some_iff.mp H
        obtain ⟨⟨t217, t218⟩, A200, H⟩ := H
        replace H : ((tick_Sum.f t211 a2).bind fun bt219 => ((tick_Sum.f a0 t217).bind fun bt221 => (if t212 = true then (if t218 = true then (if (bt219.2 != bt221.2) = true then (remontoirlaw01_TickSums.j1 kj5 a0 a1 a2 t217 t218 true) else (if bt219.2 = true then (remontoirlaw01_TickSums.j1 kj5 a0 a1 a2 t217 t218 (bt219.1 != bt221.1)) else (remontoirlaw01_TickSums.j1 kj5 a0 a1 a2 t217 t218 false))) else (if (bt219.2 != false) = true then (remontoirlaw01_TickSums.j1 kj5 a0 a1 a2 t217 t218 true) else (if bt219.2 = true then (remontoirlaw01_TickSums.j1 kj5 a0 a1 a2 t217 t218 (bt219.1 != bt221.1)) else (remontoirlaw01_TickSums.j1 kj5 a0 a1 a2 t217 t218 false)))) else (if t218 = true then (if (false != bt221.2) = true then (remontoirlaw01_TickSums.j1 kj5 a0 a1 a2 t217 t218 true) else (remontoirlaw01_TickSums.j1 kj5 a0 a1 a2 t217 t218 false)) else (remontoirlaw01_TickSums.j1 kj5 a0 a1 a2 t217 t218 false))))) = some r := H
        have A20 := Aside0.mk A200
        clear A200
        replace H := Option.bind_eq_some_iff.mp H
        obtain ⟨⟨t219, t220⟩, A210, H⟩ := H
        replace H : ((tick_Sum.f a0 t217).bind fun bt221 => (if t212 = true then (if t218 = true then (if (t220 != bt221.2) = true then (remontoirlaw01_TickSums.j1 kj5 a0 a1 a2 t217 t218 true) else (if t220 = true then (remontoirlaw01_TickSums.j1 kj5 a0 a1 a2 t217 t218 (t219 != bt221.1)) else (remontoirlaw01_TickSums.j1 kj5 a0 a1 a2 t217 t218 false))) else (if (t220 != false) = true then (remontoirlaw01_TickSums.j1 kj5 a0 a1 a2 t217 t218 true) else (if t220 = true then (remontoirlaw01_TickSums.j1 kj5 a0 a1 a2 t217 t218 (t219 != bt221.1)) else (remontoirlaw01_TickSums.j1 kj5 a0 a1 a2 t217 t218 false)))) else (if t218 = true then (if (false != bt221.2) = true then (remontoirlaw01_TickSums.j1 kj5 a0 a1 a2 t217 t218 true) else (remontoirlaw01_TickSums.j1 kj5 a0 a1 a2 t217 t218 false)) else (remontoirlaw01_TickSums.j1 kj5 a0 a1 a2 t217 t218 false)))) = some r := H
        have A21 := Aside0.mk A210
        clear A210
        replace H := Option.bind_eq_some_iff.mp H
        obtain ⟨⟨t221, t222⟩, A220, H⟩ := H
        replace H : (if t212 = true then (if t218 = true then (if (t220 != t222) = true then (remontoirlaw01_TickSums.j1 kj5 a0 a1 a2 t217 t218 true) else (if t220 = true then (remontoirlaw01_TickSums.j1 kj5 a0 a1 a2 t217 t218 (t219 != t221)) else (remontoirlaw01_TickSums.j1 kj5 a0 a1 a2 t217 t218 false))) else (if (t220 != false) = true then (remontoirlaw01_TickSums.j1 kj5 a0 a1 a2 t217 t218 true) else (if t220 = true then (remontoirlaw01_TickSums.j1 kj5 a0 a1 a2 t217 t218 (t219 != t221)) else (remontoirlaw01_TickSums.j1 kj5 a0 a1 a2 t217 t218 false)))) else (if t218 = true then (if (false != t222) = true then (remontoirlaw01_TickSums.j1 kj5 a0 a1 a2 t217 t218 true) else (remontoirlaw01_TickSums.j1 kj5 a0 a1 a2 t217 t218 false)) else (remontoirlaw01_TickSums.j1 kj5 a0 a1 a2 t217 t218 false))) = some r := H
        have A22 := Aside0.mk A220
        clear A220
        have HC23 := Aside0.mk H
        clear H
        go_upto_region 8 with (first | ((with_reducible refine gate_callee (f := 11) rfl ?_); refine goesL_ (some 74) rfl rfl Try.func11 (by kernel_rfl) rfl #[.int .u64 a1, .int .u64 a2] rfl (by (try simp only [List.map_toArray, List.map_cons, List.map_nil]); first | done | rfl | (simp only [List.length_drop, List.length_take]; rfl)) ?_; (with_reducible refine (tick_Sum.calls a1 a2 t217 t218 _ A20.out (TabOk.below HT0.out (by repeat (first | (with_reducible first | exact HB.out | apply below_alloc | apply pw_below_drewN | apply below_drew1) | exact HB.out)))).mono ?_); rintro e w24 ⟨rfl, hb⟩; refine ⟨_, rfl, ?_⟩; have n0_ := Aside0.mk (below_step (by repeat (first | (with_reducible first | exact HB.out | apply below_alloc | apply pw_below_drewN | apply below_drew1) | exact HB.out)) hb); clear HB; have HB := n0_; clear n0_; (try clear hb); (try clear hb2); (try clear hk); (try clear hi)) | ((with_reducible refine gate_callee (f := 11) rfl ?_); refine goesL_ (some 80) rfl rfl Try.func11 (by kernel_rfl) rfl #[.int .u64 t211, .int .u64 a2] rfl (by (try simp only [List.map_toArray, List.map_cons, List.map_nil]); first | done | rfl | (simp only [List.length_drop, List.length_take]; rfl)) ?_; (with_reducible refine (tick_Sum.calls t211 a2 t219 t220 _ A21.out (TabOk.below HT0.out (by repeat (first | (with_reducible first | exact HB.out | apply below_alloc | apply pw_below_drewN | apply below_drew1) | exact HB.out)))).mono ?_); rintro e w25 ⟨rfl, hb⟩; refine ⟨_, rfl, ?_⟩; have n0_ := Aside0.mk (below_step (by repeat (first | (with_reducible first | exact HB.out | apply below_alloc | apply pw_below_drewN | apply below_drew1) | exact HB.out)) hb); clear HB; have HB := n0_; clear n0_; (try clear hb); (try clear hb2); (try clear hk); (try clear hi)) | ((with_reducible refine gate_callee (f := 11) rfl ?_); refine goesL_ (some 86) rfl rfl Try.func11 (by kernel_rfl) rfl #[.int .u64 a0, .int .u64 t217] rfl (by (try simp only [List.map_toArray, List.map_cons, List.map_nil]); first | done | rfl | (simp only [List.length_drop, List.length_take]; rfl)) ?_; (with_reducible refine (tick_Sum.calls a0 t217 t221 t222 _ A22.out (TabOk.below HT0.out (by repeat (first | (with_reducible first | exact HB.out | apply below_alloc | apply pw_below_drewN | apply below_drew1) | exact HB.out)))).mono ?_); rintro e w26 ⟨rfl, hb⟩; refine ⟨_, rfl, ?_⟩; have n0_ := Aside0.mk (below_step (by repeat (first | (with_reducible first | exact HB.out | apply below_alloc | apply pw_below_drewN | apply below_drew1) | exact HB.out)) hb); clear HB; have HB := n0_; clear n0_; (try clear hb); (try clear hb2); (try clear hk); (try clear hi)))
        (try simp only [Act.put, List.setIfInBounds_toArray, List.set_cons_zero, List.set_cons_succ])
        go_cut [108] (fun v108 wc => ∃ (kq : Nat) (x108_22 : Bool), v108 = .bool x108_22 ∧ Aside0 (remontoirlaw01_TickSums.j1 kq a0 a1 a2 t217 t218 x108_22 = some r) ∧ Aside0 (kq ≤ kj5) ∧ Aside0 (Below w.heap.size w wc))
        case first => as_aux_lemma =>
          have H := HC23.out
          clear HC23
          by_cases c27 : t212 = true
          · subst c27
            have H1 : (if t218 = true then (if (t220 != t222) = true then (remontoirlaw01_TickSums.j1 kj5 a0 a1 a2 t217 t218 true) else (if t220 = true then (remontoirlaw01_TickSums.j1 kj5 a0 a1 a2 t217 t218 (t219 != t221)) else (remontoirlaw01_TickSums.j1 kj5 a0 a1 a2 t217 t218 false))) else (if (t220 != false) = true then (remontoirlaw01_TickSums.j1 kj5 a0 a1 a2 t217 t218 true) else (if t220 = true then (remontoirlaw01_TickSums.j1 kj5 a0 a1 a2 t217 t218 (t219 != t221)) else (remontoirlaw01_TickSums.j1 kj5 a0 a1 a2 t217 t218 false)))) = some r := by rw [if_pos rfl] at H; exact H
            clear H
            have H := H1
            clear H1
            by_cases c28 : t218 = true
            · subst c28
              have H1 : (if (t220 != t222) = true then (remontoirlaw01_TickSums.j1 kj5 a0 a1 a2 t217 true true) else (if t220 = true then (remontoirlaw01_TickSums.j1 kj5 a0 a1 a2 t217 true (t219 != t221)) else (remontoirlaw01_TickSums.j1 kj5 a0 a1 a2 t217 true false))) = some r := by rw [if_pos rfl] at H; exact H
              clear H
              have H := H1
              clear H1
              by_cases c29 : (t220 != t222) = true
              · rw [if_pos c29] at H
                have c29b0 : (t220 != t222) = true := c29
                (try (have c29b1 : decide (t220 = t222) = false := by simpa using c29))
                (try (have c29b2 : (t220 == t222) = false := by simpa using c29))
                (try (have c29b3 : ¬ (t220 = t222) := by simpa using c29))
                clear c29
                (first | rw [c29b0] | (simp only [i64_w, i32_w]; rw [c29b0]) | skip)
                have H' := Aside0.mk H
                clear H
                go_wp2
                go_meet
                case rel => exact ⟨_, (true), (by first | (with_reducible rfl) | (simp; done) | (simp [*]; done) | (simp; decide +kernel)), H', ⟨by have := HJ5.out; first | omega | exact Nat.le_refl _⟩, ⟨by repeat (first | (with_reducible first | exact HB.out | apply below_alloc | apply pw_below_drewN | apply below_drew1) | exact HB.out)⟩⟩
              · rw [if_neg c29] at H
                have c29b0 : (t220 != t222) = false := by simpa using c29
                (try (have c29b1 : decide (t220 = t222) = true := by simpa using c29))
                (try (have c29b2 : (t220 == t222) = true := by simpa using c29))
                clear c29
                (first | rw [c29b0] | (simp only [i64_w, i32_w]; rw [c29b0]) | skip)
                by_cases c30 : t220 = true
                · subst c30
                  have H1 : (remontoirlaw01_TickSums.j1 kj5 a0 a1 a2 t217 true (t219 != t221)) = some r := by rw [if_pos rfl] at H; exact H
                  clear H
                  have H := H1
                  clear H1
                  have H' := Aside0.mk H
                  clear H
                  go_wp2
                  go_meet
                  case rel => exact ⟨_, ((t219 != t221)), (by first | (with_reducible rfl) | (simp; done) | (simp [*]; done) | (simp; decide +kernel)), H', ⟨by have := HJ5.out; first | omega | exact Nat.le_refl _⟩, ⟨by repeat (first | (with_reducible first | exact HB.out | apply below_alloc | apply pw_below_drewN | apply below_drew1) | exact HB.out)⟩⟩
                · replace c30 := Bool.eq_false_iff.mpr c30
                  subst c30
                  have H1 : (remontoirlaw01_TickSums.j1 kj5 a0 a1 a2 t217 true false) = some r := by rw [if_neg (show ¬ (false = true) by decide)] at H; exact H
                  clear H
                  have H := H1
                  clear H1
                  have H' := Aside0.mk H
                  clear H
                  go_wp2
                  go_meet
                  case rel => exact ⟨_, (false), (by first | (with_reducible rfl) | (simp; done) | (simp [*]; done) | (simp; decide +kernel)), H', ⟨by have := HJ5.out; first | omega | exact Nat.le_refl _⟩, ⟨by repeat (first | (with_reducible first | exact HB.out | apply below_alloc | apply pw_below_drewN | apply below_drew1) | exact HB.out)⟩⟩
            · replace c28 := Bool.eq_false_iff.mpr c28
              subst c28
              have H1 : (if (t220 != false) = true then (remontoirlaw01_TickSums.j1 kj5 a0 a1 a2 t217 false true) else (if t220 = true then (remontoirlaw01_TickSums.j1 kj5 a0 a1 a2 t217 false (t219 != t221)) else (remontoirlaw01_TickSums.j1 kj5 a0 a1 a2 t217 false false))) = some r := by rw [if_neg (show ¬ (false = true) by decide)] at H; exact H
              clear H
              have H := H1
              clear H1
              by_cases c31 : (t220 != false) = true
              · rw [if_pos c31] at H
                have c31b0 : (t220 != false) = true := c31
                (try (have c31b1 : decide (t220 = false) = false := by simpa using c31))
                (try (have c31b2 : (t220 == false) = false := by simpa using c31))
                (try (have c31b3 : ¬ (t220 = false) := by simpa using c31))
                clear c31
                have H' := Aside0.mk H
                clear H
                go_wp2
                go_meet
                case rel => exact ⟨_, (true), (by first | (with_reducible rfl) | (simp; done) | (simp [*]; done) | (simp; decide +kernel)), H', ⟨by have := HJ5.out; first | omega | exact Nat.le_refl _⟩, ⟨by repeat (first | (with_reducible first | exact HB.out | apply below_alloc | apply pw_below_drewN | apply below_drew1) | exact HB.out)⟩⟩
              · rw [if_neg c31] at H
                have c31b0 : (t220 != false) = false := by simpa using c31
                (try (have c31b1 : decide (t220 = false) = true := by simpa using c31))
                (try (have c31b2 : (t220 == false) = true := by simpa using c31))
                clear c31
                by_cases c32 : t220 = true
                · subst c32
                  have H1 : (remontoirlaw01_TickSums.j1 kj5 a0 a1 a2 t217 false (t219 != t221)) = some r := by rw [if_pos rfl] at H; exact H
                  clear H
                  have H := H1
                  clear H1
                  have H' := Aside0.mk H
                  clear H
                  go_wp2
                  go_meet
                  case rel => exact ⟨_, ((t219 != t221)), (by first | (with_reducible rfl) | (simp; done) | (simp [*]; done) | (simp; decide +kernel)), H', ⟨by have := HJ5.out; first | omega | exact Nat.le_refl _⟩, ⟨by repeat (first | (with_reducible first | exact HB.out | apply below_alloc | apply pw_below_drewN | apply below_drew1) | exact HB.out)⟩⟩
                · replace c32 := Bool.eq_false_iff.mpr c32
                  subst c32
                  have H1 : (remontoirlaw01_TickSums.j1 kj5 a0 a1 a2 t217 false false) = some r := by rw [if_neg (show ¬ (false = true) by decide)] at H; exact H
                  clear H
                  have H := H1
                  clear H1
                  have H' := Aside0.mk H
                  clear H
                  go_wp2
                  go_meet
                  case rel => exact ⟨_, (false), (by first | (with_reducible rfl) | (simp; done) | (simp [*]; done) | (simp; decide +kernel)), H', ⟨by have := HJ5.out; first | omega | exact Nat.le_refl _⟩, ⟨by repeat (first | (with_reducible first | exact HB.out | apply below_alloc | apply pw_below_drewN | apply below_drew1) | exact HB.out)⟩⟩
          · replace c27 := Bool.eq_false_iff.mpr c27
            subst c27
            have H1 : (if t218 = true then (if (false != t222) = true then (remontoirlaw01_TickSums.j1 kj5 a0 a1 a2 t217 t218 true) else (remontoirlaw01_TickSums.j1 kj5 a0 a1 a2 t217 t218 false)) else (remontoirlaw01_TickSums.j1 kj5 a0 a1 a2 t217 t218 false)) = some r := by rw [if_neg (show ¬ (false = true) by decide)] at H; exact H
            clear H
            have H := H1
            clear H1
            by_cases c33 : t218 = true
            · subst c33
              have H1 : (if (false != t222) = true then (remontoirlaw01_TickSums.j1 kj5 a0 a1 a2 t217 true true) else (remontoirlaw01_TickSums.j1 kj5 a0 a1 a2 t217 true false)) = some r := by rw [if_pos rfl] at H; exact H
              clear H
              have H := H1
              clear H1
              by_cases c34 : (false != t222) = true
              · rw [if_pos c34] at H
                have c34b0 : (false != t222) = true := c34
                (try (have c34b1 : decide (false = t222) = false := by simpa using c34))
                (try (have c34b2 : (false == t222) = false := by simpa using c34))
                (try (have c34b3 : ¬ (false = t222) := by simpa using c34))
                clear c34
                have H' := Aside0.mk H
                clear H
                go_wp2
                go_meet
                case rel => exact ⟨_, (true), (by first | (with_reducible rfl) | (simp; done) | (simp [*]; done) | (simp; decide +kernel)), H', ⟨by have := HJ5.out; first | omega | exact Nat.le_refl _⟩, ⟨by repeat (first | (with_reducible first | exact HB.out | apply below_alloc | apply pw_below_drewN | apply below_drew1) | exact HB.out)⟩⟩
              · rw [if_neg c34] at H
                have c34b0 : (false != t222) = false := by simpa using c34
                (try (have c34b1 : decide (false = t222) = true := by simpa using c34))
                (try (have c34b2 : (false == t222) = true := by simpa using c34))
                clear c34
                have H' := Aside0.mk H
                clear H
                go_wp2
                go_meet
                case rel => exact ⟨_, (false), (by first | (with_reducible rfl) | (simp; done) | (simp [*]; done) | (simp; decide +kernel)), H', ⟨by have := HJ5.out; first | omega | exact Nat.le_refl _⟩, ⟨by repeat (first | (with_reducible first | exact HB.out | apply below_alloc | apply pw_below_drewN | apply below_drew1) | exact HB.out)⟩⟩
            · replace c33 := Bool.eq_false_iff.mpr c33
              subst c33
              have H1 : (remontoirlaw01_TickSums.j1 kj5 a0 a1 a2 t217 false false) = some r := by rw [if_neg (show ¬ (false = true) by decide)] at H; exact H
              clear H
              have H := H1
              clear H1
              have H' := Aside0.mk H
              clear H
              go_wp2
              go_meet
              case rel => exact ⟨_, (false), (by first | (with_reducible rfl) | (simp; done) | (simp [*]; done) | (simp; decide +kernel)), H', ⟨by have := HJ5.out; first | omega | exact Nat.le_refl _⟩, ⟨by repeat (first | (with_reducible first | exact HB.out | apply below_alloc | apply pw_below_drewN | apply below_drew1) | exact HB.out)⟩⟩
        case rest => as_aux_lemma =>
          clear HC23
          try clear c1
          try clear c2
          try clear p2
          try clear c3
          try clear c5
          try clear c9
          try clear c9b0
          try clear c9b1
          try clear c10
          try clear c10b0
          try clear c10b1
          try clear c10b2
          try clear c11
          try clear c13
          try clear c13b0
          try clear c13b1
          try clear c16
          try clear c16b0
          try clear c16b1
          try clear c19
          try clear c27
          try clear c28
          try clear c29
          try clear c29b0
          try clear c29b1
          try clear c29b2
          try clear c30
          try clear c31
          try clear c31b0
          try clear c31b1
          try clear c31b2
          try clear c32
          try clear c33
          try clear c34
          try clear c34b0
          try clear c34b1
          try clear c34b2
          try clear p2
          obtain ⟨kq, x108_22, rfl, HA, HJ22, HB⟩ := hcut
          cases kq with
          | zero => exact absurd HA.out (by simp [remontoirlaw01_TickSums.j1])
          | succ kj22 =>
            have H := HA.out
            clear HA
            simp only [remontoirlaw01_TickSums.j1] at H
            by_cases c35 : x108_22 = true
            · subst c35
              have H1 : (none) = some r := by rw [if_pos rfl] at H; exact H
              clear H
              have H := H1
              clear H1
              exact absurd H (by simp)
            · replace c35 := Bool.eq_false_iff.mpr c35
              subst c35
              have H1 : ((tick_Times.f a0 a1).bind fun bt223 => ((tick_Times.f a1 a0).bind fun bt225 => (if bt223.1 = bt225.1 then (if (bt223.2 != bt225.2) = true then (remontoirlaw01_TickSums.j2 kj22 a0 a2 t217 t218 bt223.1 bt223.2 true) else (if a0 = 0 then (if bt223.2 = true then (remontoirlaw01_TickSums.j2 kj22 a0 a2 t217 t218 bt223.1 bt223.2 (bt223.1 != 0)) else (remontoirlaw01_TickSums.j2 kj22 a0 a2 t217 t218 bt223.1 bt223.2 true)) else (remontoirlaw01_TickSums.j2 kj22 a0 a2 t217 t218 bt223.1 bt223.2 false))) else (remontoirlaw01_TickSums.j2 kj22 a0 a2 t217 t218 bt223.1 bt223.2 true)))) = some r := by rw [if_neg (show ¬ (false = true) by decide)] at H; exact H
              clear H
              have H := H1
              clear H1
              replace H := Option.bind_eq_some_iff.mp H
              obtain ⟨⟨t223, t224⟩, A360, H⟩ := H
              replace H : ((tick_Times.f a1 a0).bind fun bt225 => (if t223 = bt225.1 then (if (t224 != bt225.2) = true then (remontoirlaw01_TickSums.j2 kj22 a0 a2 t217 t218 t223 t224 true) else (if a0 = 0 then (if t224 = true then (remontoirlaw01_TickSums.j2 kj22 a0 a2 t217 t218 t223 t224 (t223 != 0)) else (remontoirlaw01_TickSums.j2 kj22 a0 a2 t217 t218 t223 t224 true)) else (remontoirlaw01_TickSums.j2 kj22 a0 a2 t217 t218 t223 t224 false))) else (remontoirlaw01_TickSums.j2 kj22 a0 a2 t217 t218 t223 t224 true))) = some r := H
              have A36 := Aside0.mk A360
              clear A360
              replace H := Option.bind_eq_some_iff.mp H
              obtain ⟨⟨t225, t226⟩, A370, H⟩ := H
              replace H : (if t223 = t225 then (if (t224 != t226) = true then (remontoirlaw01_TickSums.j2 kj22 a0 a2 t217 t218 t223 t224 true) else (if a0 = 0 then (if t224 = true then (remontoirlaw01_TickSums.j2 kj22 a0 a2 t217 t218 t223 t224 (t223 != 0)) else (remontoirlaw01_TickSums.j2 kj22 a0 a2 t217 t218 t223 t224 true)) else (remontoirlaw01_TickSums.j2 kj22 a0 a2 t217 t218 t223 t224 false))) else (remontoirlaw01_TickSums.j2 kj22 a0 a2 t217 t218 t223 t224 true)) = some r := H
              have A37 := Aside0.mk A370
              clear A370
              have HC38 := Aside0.mk H
              clear H
              go_upto_region 12 with (first | ((with_reducible refine gate_callee (f := 13) rfl ?_); refine goesL_ (some 112) rfl rfl Try.func13 (by kernel_rfl) rfl #[.int .u64 a0, .int .u64 a1] rfl (by (try simp only [List.map_toArray, List.map_cons, List.map_nil]); first | done | rfl | (simp only [List.length_drop, List.length_take]; rfl)) ?_; (with_reducible refine (tick_Times.calls a0 a1 t223 t224 _ A36.out (TabOk.below HT0.out (by repeat (first | (with_reducible first | exact HB.out | apply below_alloc | apply pw_below_drewN | apply below_drew1) | exact HB.out)))).mono ?_); rintro e w39 ⟨rfl, hb⟩; refine ⟨_, rfl, ?_⟩; have n0_ := Aside0.mk (below_step (by repeat (first | (with_reducible first | exact HB.out | apply below_alloc | apply pw_below_drewN | apply below_drew1) | exact HB.out)) hb); clear HB; have HB := n0_; clear n0_; (try clear hb); (try clear hb2); (try clear hk); (try clear hi)) | ((with_reducible refine gate_callee (f := 13) rfl ?_); refine goesL_ (some 118) rfl rfl Try.func13 (by kernel_rfl) rfl #[.int .u64 a1, .int .u64 a0] rfl (by (try simp only [List.map_toArray, List.map_cons, List.map_nil]); first | done | rfl | (simp only [List.length_drop, List.length_take]; rfl)) ?_; (with_reducible refine (tick_Times.calls a1 a0 t225 t226 _ A37.out (TabOk.below HT0.out (by repeat (first | (with_reducible first | exact HB.out | apply below_alloc | apply pw_below_drewN | apply below_drew1) | exact HB.out)))).mono ?_); rintro e w40 ⟨rfl, hb⟩; refine ⟨_, rfl, ?_⟩; have n0_ := Aside0.mk (below_step (by repeat (first | (with_reducible first | exact HB.out | apply below_alloc | apply pw_below_drewN | apply below_drew1) | exact HB.out)) hb); clear HB; have HB := n0_; clear n0_; (try clear hb); (try clear hb2); (try clear hk); (try clear hi)))
              (try simp only [Act.put, List.setIfInBounds_toArray, List.set_cons_zero, List.set_cons_succ])
              go_cut [140] (fun v140 wc => ∃ (kq : Nat) (x140_37 : Bool), v140 = .bool x140_37 ∧ Aside0 (remontoirlaw01_TickSums.j2 kq a0 a2 t217 t218 t223 t224 x140_37 = some r) ∧ Aside0 (kq ≤ kj22) ∧ Aside0 (Below w.heap.size w wc))
              case first => as_aux_lemma =>
                have H := HC38.out
                clear HC38
                by_cases c41 : t223 = t225
                · rw [if_pos c41] at H
                  have c41b0 : (t223 == t225) = true := beq_iff_eq.mpr c41
                  have c41b1 : (t223 != t225) = false := bne_eq_false_iff_eq.mpr c41
                  clear c41
                  (first | rw [c41b0] | (simp only [i64_w, i32_w]; rw [c41b0]) | skip)
                  by_cases c42 : (t224 != t226) = true
                  · rw [if_pos c42] at H
                    have c42b0 : (t224 != t226) = true := c42
                    (try (have c42b1 : decide (t224 = t226) = false := by simpa using c42))
                    (try (have c42b2 : (t224 == t226) = false := by simpa using c42))
                    (try (have c42b3 : ¬ (t224 = t226) := by simpa using c42))
                    clear c42
                    have H' := Aside0.mk H
                    clear H
                    go_wp2
                    go_meet
                    case rel => exact ⟨_, (true), (by first | (with_reducible rfl) | (simp; done) | (simp [*]; done) | (simp; decide +kernel)), H', ⟨by have := HJ5.out; have := HJ22.out; first | omega | exact Nat.le_refl _⟩, ⟨by repeat (first | (with_reducible first | exact HB.out | apply below_alloc | apply pw_below_drewN | apply below_drew1) | exact HB.out)⟩⟩
                  · rw [if_neg c42] at H
                    have c42b0 : (t224 != t226) = false := by simpa using c42
                    (try (have c42b1 : decide (t224 = t226) = true := by simpa using c42))
                    (try (have c42b2 : (t224 == t226) = true := by simpa using c42))
                    clear c42
                    by_cases c43 : a0 = 0
                    · rw [if_pos c43] at H
                      have c43b0 : (a0 == 0) = true := beq_iff_eq.mpr c43
                      have c43b1 : (a0 != 0) = false := bne_eq_false_iff_eq.mpr c43
                      clear c43
                      by_cases c44 : t224 = true
                      · subst c44
                        have H1 : (remontoirlaw01_TickSums.j2 kj22 a0 a2 t217 t218 t223 true (t223 != 0)) = some r := by rw [if_pos rfl] at H; exact H
                        clear H
                        have H := H1
                        clear H1
                        have H' := Aside0.mk H
                        clear H
                        go_wp2
                        go_meet
                        case rel => exact ⟨_, ((t223 != 0)), (by first | (with_reducible rfl) | (simp; done) | (simp [*]; done) | (simp; decide +kernel)), H', ⟨by have := HJ5.out; have := HJ22.out; first | omega | exact Nat.le_refl _⟩, ⟨by repeat (first | (with_reducible first | exact HB.out | apply below_alloc | apply pw_below_drewN | apply below_drew1) | exact HB.out)⟩⟩
                      · replace c44 := Bool.eq_false_iff.mpr c44
                        subst c44
                        have H1 : (remontoirlaw01_TickSums.j2 kj22 a0 a2 t217 t218 t223 false true) = some r := by rw [if_neg (show ¬ (false = true) by decide)] at H; exact H
                        clear H
                        have H := H1
                        clear H1
                        have H' := Aside0.mk H
                        clear H
                        go_wp2
                        go_meet
                        case rel => exact ⟨_, (true), (by first | (with_reducible rfl) | (simp; done) | (simp [*]; done) | (simp; decide +kernel)), H', ⟨by have := HJ5.out; have := HJ22.out; first | omega | exact Nat.le_refl _⟩, ⟨by repeat (first | (with_reducible first | exact HB.out | apply below_alloc | apply pw_below_drewN | apply below_drew1) | exact HB.out)⟩⟩
                    · rw [if_neg c43] at H
                      have c43b0 : (a0 == 0) = false := beq_eq_false_iff_ne.mpr c43
                      have c43b1 : (a0 != 0) = true := bne_iff_ne.mpr c43
                      have H' := Aside0.mk H
                      clear H
                      go_wp2
                      go_meet
                      case rel => exact ⟨_, (false), (by first | (with_reducible rfl) | (simp; done) | (simp [*]; done) | (simp; decide +kernel)), H', ⟨by have := HJ5.out; have := HJ22.out; first | omega | exact Nat.le_refl _⟩, ⟨by repeat (first | (with_reducible first | exact HB.out | apply below_alloc | apply pw_below_drewN | apply below_drew1) | exact HB.out)⟩⟩
                · rw [if_neg c41] at H
                  have c41b0 : (t223 == t225) = false := beq_eq_false_iff_ne.mpr c41
                  have c41b1 : (t223 != t225) = true := bne_iff_ne.mpr c41
                  (first | rw [c41b0] | (simp only [i64_w, i32_w]; rw [c41b0]) | skip)
                  have H' := Aside0.mk H
                  clear H
                  go_wp2
                  go_meet
                  case rel => exact ⟨_, (true), (by first | (with_reducible rfl) | (simp; done) | (simp [*]; done) | (simp; decide +kernel)), H', ⟨by have := HJ5.out; have := HJ22.out; first | omega | exact Nat.le_refl _⟩, ⟨by repeat (first | (with_reducible first | exact HB.out | apply below_alloc | apply pw_below_drewN | apply below_drew1) | exact HB.out)⟩⟩
              case rest => as_aux_lemma =>
                clear HC38
                try clear c1
                try clear c2
                try clear p2
                try clear c3
                try clear c4
                try clear c5
                try clear c9
                try clear c9b0
                try clear c9b1
                try clear c10
                try clear c10b0
                try clear c10b1
                try clear c10b2
                try clear c11
                try clear c13
                try clear c13b0
                try clear c13b1
                try clear c16
                try clear c16b0
                try clear c16b1
                try clear c19
                try clear c27
                try clear c28
                try clear c29
                try clear c29b0
                try clear c29b1
                try clear c29b2
                try clear c30
                try clear c31
                try clear c31b0
                try clear c31b1
                try clear c31b2
                try clear c32
                try clear c33
                try clear c34
                try clear c34b0
                try clear c34b1
                try clear c34b2
                try clear c35
                try clear c41
                try clear c41b0
                try clear c41b1
                try clear c42
                try clear c42b0
                try clear c42b1
                try clear c42b2
                try clear c43
                try clear c43b0
                try clear c43b1
                try clear c44
                try clear p2
                obtain ⟨kq, x140_37, rfl, HA, HJ37, HB⟩ := hcut
                cases kq with
                | zero => exact absurd HA.out (by simp [remontoirlaw01_TickSums.j2])
                | succ kj37 =>
                  have H := HA.out
                  clear HA
                  simp only [remontoirlaw01_TickSums.j2] at H
                  by_cases c45 : x140_37 = true
                  · subst c45
                    have H1 : (none) = some r := by rw [if_pos rfl] at H; exact H
                    clear H
                    have H := H1
                    clear H1
                    exact absurd H (by simp)
                  · replace c45 := Bool.eq_false_iff.mpr c45
                    subst c45
                    have H1 : ((tick_Times.f a0 a2).bind fun bt227 => (if t218 = true then (if t224 = true then (remontoirlaw01_TickSums.j3 kj37 a0 t217 t223 bt227.1 bt227.2) else (remontoirlaw01_TickSums.j3 kj37 a0 t217 t223 bt227.1 false)) else (remontoirlaw01_TickSums.j3 kj37 a0 t217 t223 bt227.1 false))) = some r := by rw [if_neg (show ¬ (false = true) by decide)] at H; exact H
                    clear H
                    have H := H1
                    clear H1
                    replace H := Option.bind_eq_some_iff.mp H
                    obtain ⟨⟨t227, t228⟩, A460, H⟩ := H
                    replace H : (if t218 = true then (if t224 = true then (remontoirlaw01_TickSums.j3 kj37 a0 t217 t223 t227 t228) else (remontoirlaw01_TickSums.j3 kj37 a0 t217 t223 t227 false)) else (remontoirlaw01_TickSums.j3 kj37 a0 t217 t223 t227 false)) = some r := H
                    have A46 := Aside0.mk A460
                    clear A460
                    have HC47 := Aside0.mk H
                    clear H
                    go_upto_region 15 with (first | ((with_reducible refine gate_callee (f := 13) rfl ?_); refine goesL_ (some 144) rfl rfl Try.func13 (by kernel_rfl) rfl #[.int .u64 a0, .int .u64 a2] rfl (by (try simp only [List.map_toArray, List.map_cons, List.map_nil]); first | done | rfl | (simp only [List.length_drop, List.length_take]; rfl)) ?_; (with_reducible refine (tick_Times.calls a0 a2 t227 t228 _ A46.out (TabOk.below HT0.out (by repeat (first | (with_reducible first | exact HB.out | apply below_alloc | apply pw_below_drewN | apply below_drew1) | exact HB.out)))).mono ?_); rintro e w48 ⟨rfl, hb⟩; refine ⟨_, rfl, ?_⟩; have n0_ := Aside0.mk (below_step (by repeat (first | (with_reducible first | exact HB.out | apply below_alloc | apply pw_below_drewN | apply below_drew1) | exact HB.out)) hb); clear HB; have HB := n0_; clear n0_; (try clear hb); (try clear hb2); (try clear hk); (try clear hi)))
                    (try simp only [Act.put, List.setIfInBounds_toArray, List.set_cons_zero, List.set_cons_succ])
                    go_cut [153] (fun v153 wc => ∃ (kq : Nat) (x153_46 : Bool), v153 = .bool x153_46 ∧ Aside0 (remontoirlaw01_TickSums.j3 kq a0 t217 t223 t227 x153_46 = some r) ∧ Aside0 (kq ≤ kj37) ∧ Aside0 (Below w.heap.size w wc))
                    case first => as_aux_lemma =>
                      have H := HC47.out
                      clear HC47
                      by_cases c49 : t218 = true
                      · subst c49
                        have H1 : (if t224 = true then (remontoirlaw01_TickSums.j3 kj37 a0 t217 t223 t227 t228) else (remontoirlaw01_TickSums.j3 kj37 a0 t217 t223 t227 false)) = some r := by rw [if_pos rfl] at H; exact H
                        clear H
                        have H := H1
                        clear H1
                        by_cases c50 : t224 = true
                        · subst c50
                          have H1 : (remontoirlaw01_TickSums.j3 kj37 a0 t217 t223 t227 t228) = some r := by rw [if_pos rfl] at H; exact H
                          clear H
                          have H := H1
                          clear H1
                          have H' := Aside0.mk H
                          clear H
                          go_wp2
                          go_meet
                          case rel => exact ⟨_, (t228), (by first | (with_reducible rfl) | (simp; done) | (simp [*]; done) | (simp; decide +kernel)), H', ⟨by have := HJ5.out; have := HJ22.out; have := HJ37.out; first | omega | exact Nat.le_refl _⟩, ⟨by repeat (first | (with_reducible first | exact HB.out | apply below_alloc | apply pw_below_drewN | apply below_drew1) | exact HB.out)⟩⟩
                        · replace c50 := Bool.eq_false_iff.mpr c50
                          subst c50
                          have H1 : (remontoirlaw01_TickSums.j3 kj37 a0 t217 t223 t227 false) = some r := by rw [if_neg (show ¬ (false = true) by decide)] at H; exact H
                          clear H
                          have H := H1
                          clear H1
                          have H' := Aside0.mk H
                          clear H
                          go_wp2
                          go_meet
                          case rel => exact ⟨_, (false), (by first | (with_reducible rfl) | (simp; done) | (simp [*]; done) | (simp; decide +kernel)), H', ⟨by have := HJ5.out; have := HJ22.out; have := HJ37.out; first | omega | exact Nat.le_refl _⟩, ⟨by repeat (first | (with_reducible first | exact HB.out | apply below_alloc | apply pw_below_drewN | apply below_drew1) | exact HB.out)⟩⟩
                      · replace c49 := Bool.eq_false_iff.mpr c49
                        subst c49
                        have H1 : (remontoirlaw01_TickSums.j3 kj37 a0 t217 t223 t227 false) = some r := by rw [if_neg (show ¬ (false = true) by decide)] at H; exact H
                        clear H
                        have H := H1
                        clear H1
                        have H' := Aside0.mk H
                        clear H
                        go_wp2
                        go_meet
                        case rel => exact ⟨_, (false), (by first | (with_reducible rfl) | (simp; done) | (simp [*]; done) | (simp; decide +kernel)), H', ⟨by have := HJ5.out; have := HJ22.out; have := HJ37.out; first | omega | exact Nat.le_refl _⟩, ⟨by repeat (first | (with_reducible first | exact HB.out | apply below_alloc | apply pw_below_drewN | apply below_drew1) | exact HB.out)⟩⟩
                    case rest => as_aux_lemma =>
                      clear HC47
                      try clear c1
                      try clear c2
                      try clear p2
                      try clear c3
                      try clear c4
                      try clear c5
                      try clear c9
                      try clear c9b0
                      try clear c9b1
                      try clear c10
                      try clear c10b0
                      try clear c10b1
                      try clear c10b2
                      try clear c11
                      try clear c13
                      try clear c13b0
                      try clear c13b1
                      try clear c16
                      try clear c16b0
                      try clear c16b1
                      try clear c19
                      try clear c27
                      try clear c28
                      try clear c29
                      try clear c29b0
                      try clear c29b1
                      try clear c29b2
                      try clear c30
                      try clear c31
                      try clear c31b0
                      try clear c31b1
                      try clear c31b2
                      try clear c32
                      try clear c33
                      try clear c34
                      try clear c34b0
                      try clear c34b1
                      try clear c34b2
                      try clear c35
                      try clear c41
                      try clear c41b0
                      try clear c41b1
                      try clear c42
                      try clear c42b0
                      try clear c42b1
                      try clear c42b2
                      try clear c43
                      try clear c43b0
                      try clear c43b1
                      try clear c44
                      try clear c45
                      try clear c49
                      try clear c50
                      try clear p2
                      obtain ⟨kq, x153_46, rfl, HA, HJ46, HB⟩ := hcut
                      cases kq with
                      | zero => exact absurd HA.out (by simp [remontoirlaw01_TickSums.j3])
                      | succ kj46 =>
                        have H := HA.out
                        clear HA
                        simp only [remontoirlaw01_TickSums.j3] at H
                        by_cases c51 : x153_46 = true
                        · subst c51
                          have H1 : ((tick_Times.f a0 t217).bind fun bt229 => ((tick_Sum.f t223 t227).bind fun bt231 => (if (bt229.2 != bt231.2) = true then (none) else (if bt229.2 = true then (if bt229.1 = bt231.1 then ((remontoirlaw01_wakes.f kj46).bind fun t233 => (some t233)) else (none)) else ((remontoirlaw01_wakes.f kj46).bind fun t234 => (some t234)))))) = some r := by rw [if_pos rfl] at H; exact H
                          clear H
                          have H := H1
                          clear H1
                          replace H := Option.bind_eq_some_iff.mp H
                          obtain ⟨⟨t229, t230⟩, A520, H⟩ := H
                          replace H : ((tick_Sum.f t223 t227).bind fun bt231 => (if (t230 != bt231.2) = true then (none) else (if t230 = true then (if t229 = bt231.1 then ((remontoirlaw01_wakes.f kj46).bind fun t233 => (some t233)) else (none)) else ((remontoirlaw01_wakes.f kj46).bind fun t234 => (some t234))))) = some r := H
                          have A52 := Aside0.mk A520
                          clear A520
                          replace H := Option.bind_eq_some_iff.mp H
                          obtain ⟨⟨t231, t232⟩, A530, H⟩ := H
                          replace H : (if (t230 != t232) = true then (none) else (if t230 = true then (if t229 = t231 then ((remontoirlaw01_wakes.f kj46).bind fun t233 => (some t233)) else (none)) else ((remontoirlaw01_wakes.f kj46).bind fun t234 => (some t234)))) = some r := H
                          have A53 := Aside0.mk A530
                          clear A530
                          by_cases c54 : (t230 != t232) = true
                          · rw [if_pos c54] at H
                            exact absurd H (by simp)
                          · rw [if_neg c54] at H
                            have c54b0 : (t230 != t232) = false := by simpa using c54
                            (try (have c54b1 : decide (t230 = t232) = true := by simpa using c54))
                            (try (have c54b2 : (t230 == t232) = true := by simpa using c54))
                            clear c54
                            by_cases c55 : t230 = true
                            · subst c55
                              have H1 : (if t229 = t231 then ((remontoirlaw01_wakes.f kj46).bind fun t233 => (some t233)) else (none)) = some r := by rw [if_pos rfl] at H; exact H
                              clear H
                              have H := H1
                              clear H1
                              by_cases c56 : t229 = t231
                              · rw [if_pos c56] at H
                                have c56b0 : (t229 == t231) = true := beq_iff_eq.mpr c56
                                have c56b1 : (t229 != t231) = false := bne_eq_false_iff_eq.mpr c56
                                clear c56
                                replace H := Option.bind_eq_some_iff.mp H
                                obtain ⟨t233, A570, H⟩ := H
                                replace H : (some t233) = some r := H
                                have A57 := Aside0.mk A570
                                clear A570
                                obtain rfl := Option.some.inj H
                                go_wp2_with (first | ((with_reducible refine gate_callee (f := 13) rfl ?_); refine goesL_ (some 157) rfl rfl Try.func13 (by kernel_rfl) rfl #[.int .u64 a0, .int .u64 t217] rfl (by (try simp only [List.map_toArray, List.map_cons, List.map_nil]); first | done | rfl | (simp only [List.length_drop, List.length_take]; rfl)) ?_; (with_reducible refine (tick_Times.calls a0 t217 t229 true _ A52.out (TabOk.below HT0.out (by repeat (first | (with_reducible first | exact HB.out | apply below_alloc | apply pw_below_drewN | apply below_drew1) | exact HB.out)))).mono ?_); rintro e w58 ⟨rfl, hb⟩; refine ⟨_, rfl, ?_⟩; have n0_ := Aside0.mk (below_step (by repeat (first | (with_reducible first | exact HB.out | apply below_alloc | apply pw_below_drewN | apply below_drew1) | exact HB.out)) hb); clear HB; have HB := n0_; clear n0_; (try clear hb); (try clear hb2); (try clear hk); (try clear hi)) | ((with_reducible refine gate_callee (f := 11) rfl ?_); refine goesL_ (some 163) rfl rfl Try.func11 (by kernel_rfl) rfl #[.int .u64 t223, .int .u64 t227] rfl (by (try simp only [List.map_toArray, List.map_cons, List.map_nil]); first | done | rfl | (simp only [List.length_drop, List.length_take]; rfl)) ?_; (with_reducible refine (tick_Sum.calls t223 t227 t231 t232 _ A53.out (TabOk.below HT0.out (by repeat (first | (with_reducible first | exact HB.out | apply below_alloc | apply pw_below_drewN | apply below_drew1) | exact HB.out)))).mono ?_); rintro e w59 ⟨rfl, hb⟩; refine ⟨_, rfl, ?_⟩; have n0_ := Aside0.mk (below_step (by repeat (first | (with_reducible first | exact HB.out | apply below_alloc | apply pw_below_drewN | apply below_drew1) | exact HB.out)) hb); clear HB; have HB := n0_; clear n0_; (try clear hb); (try clear hb2); (try clear hk); (try clear hi)) | ((with_reducible refine gate_callee (f := 10) rfl ?_); refine goesL_ (some 177) rfl rfl Try.func10 (by kernel_rfl) rfl #[] rfl (by (try simp only [List.map_toArray, List.map_cons, List.map_nil]); first | done | rfl | (simp only [List.length_drop, List.length_take]; rfl)) ?_; (with_reducible refine (remontoirlaw01_wakes.calls kj46  t233 _ A57.out (TabOk.below HT0.out (by repeat (first | (with_reducible first | exact HB.out | apply below_alloc | apply pw_below_drewN | apply below_drew1) | exact HB.out)))).mono ?_); rintro e w60 ⟨rfl, hb⟩; refine ⟨_, rfl, ?_⟩; have n0_ := Aside0.mk (below_step (by repeat (first | (with_reducible first | exact HB.out | apply below_alloc | apply pw_below_drewN | apply below_drew1) | exact HB.out)) hb); clear HB; have HB := n0_; clear n0_; (try clear hb); (try clear hb2); (try clear hk); (try clear hi)))
                                go_ret
                                exact ⟨by first | rfl | (simp [errW_none, errW_some] <;> rfl) | (simp [*, errW_none, errW_some] <;> rfl), by repeat (first | (with_reducible first | exact HB.out | apply below_alloc | apply pw_below_drewN | apply below_drew1) | exact HB.out)⟩
                              · rw [if_neg c56] at H
                                exact absurd H (by simp)
                            · replace c55 := Bool.eq_false_iff.mpr c55
                              subst c55
                              have H1 : ((remontoirlaw01_wakes.f kj46).bind fun t234 => (some t234)) = some r := by rw [if_neg (show ¬ (false = true) by decide)] at H; exact H
                              clear H
                              have H := H1
                              clear H1
                              replace H := Option.bind_eq_some_iff.mp H
                              obtain ⟨t234, A610, H⟩ := H
                              replace H : (some t234) = some r := H
                              have A61 := Aside0.mk A610
                              clear A610
                              obtain rfl := Option.some.inj H
                              go_wp2_with (first | ((with_reducible refine gate_callee (f := 13) rfl ?_); refine goesL_ (some 157) rfl rfl Try.func13 (by kernel_rfl) rfl #[.int .u64 a0, .int .u64 t217] rfl (by (try simp only [List.map_toArray, List.map_cons, List.map_nil]); first | done | rfl | (simp only [List.length_drop, List.length_take]; rfl)) ?_; (with_reducible refine (tick_Times.calls a0 t217 t229 false _ A52.out (TabOk.below HT0.out (by repeat (first | (with_reducible first | exact HB.out | apply below_alloc | apply pw_below_drewN | apply below_drew1) | exact HB.out)))).mono ?_); rintro e w62 ⟨rfl, hb⟩; refine ⟨_, rfl, ?_⟩; have n0_ := Aside0.mk (below_step (by repeat (first | (with_reducible first | exact HB.out | apply below_alloc | apply pw_below_drewN | apply below_drew1) | exact HB.out)) hb); clear HB; have HB := n0_; clear n0_; (try clear hb); (try clear hb2); (try clear hk); (try clear hi)) | ((with_reducible refine gate_callee (f := 11) rfl ?_); refine goesL_ (some 163) rfl rfl Try.func11 (by kernel_rfl) rfl #[.int .u64 t223, .int .u64 t227] rfl (by (try simp only [List.map_toArray, List.map_cons, List.map_nil]); first | done | rfl | (simp only [List.length_drop, List.length_take]; rfl)) ?_; (with_reducible refine (tick_Sum.calls t223 t227 t231 t232 _ A53.out (TabOk.below HT0.out (by repeat (first | (with_reducible first | exact HB.out | apply below_alloc | apply pw_below_drewN | apply below_drew1) | exact HB.out)))).mono ?_); rintro e w63 ⟨rfl, hb⟩; refine ⟨_, rfl, ?_⟩; have n0_ := Aside0.mk (below_step (by repeat (first | (with_reducible first | exact HB.out | apply below_alloc | apply pw_below_drewN | apply below_drew1) | exact HB.out)) hb); clear HB; have HB := n0_; clear n0_; (try clear hb); (try clear hb2); (try clear hk); (try clear hi)) | ((with_reducible refine gate_callee (f := 10) rfl ?_); refine goesL_ (some 177) rfl rfl Try.func10 (by kernel_rfl) rfl #[] rfl (by (try simp only [List.map_toArray, List.map_cons, List.map_nil]); first | done | rfl | (simp only [List.length_drop, List.length_take]; rfl)) ?_; (with_reducible refine (remontoirlaw01_wakes.calls kj46  t234 _ A61.out (TabOk.below HT0.out (by repeat (first | (with_reducible first | exact HB.out | apply below_alloc | apply pw_below_drewN | apply below_drew1) | exact HB.out)))).mono ?_); rintro e w64 ⟨rfl, hb⟩; refine ⟨_, rfl, ?_⟩; have n0_ := Aside0.mk (below_step (by repeat (first | (with_reducible first | exact HB.out | apply below_alloc | apply pw_below_drewN | apply below_drew1) | exact HB.out)) hb); clear HB; have HB := n0_; clear n0_; (try clear hb); (try clear hb2); (try clear hk); (try clear hi)))
                              go_ret
                              exact ⟨by first | rfl | (simp [errW_none, errW_some] <;> rfl) | (simp [*, errW_none, errW_some] <;> rfl), by repeat (first | (with_reducible first | exact HB.out | apply below_alloc | apply pw_below_drewN | apply below_drew1) | exact HB.out)⟩
                        · replace c51 := Bool.eq_false_iff.mpr c51
                          subst c51
                          have H1 : ((remontoirlaw01_wakes.f kj46).bind fun t235 => (some t235)) = some r := by rw [if_neg (show ¬ (false = true) by decide)] at H; exact H
                          clear H
                          have H := H1
                          clear H1
                          replace H := Option.bind_eq_some_iff.mp H
                          obtain ⟨t235, A650, H⟩ := H
                          replace H : (some t235) = some r := H
                          have A65 := Aside0.mk A650
                          clear A650
                          obtain rfl := Option.some.inj H
                          go_wp2_with (first | ((with_reducible refine gate_callee (f := 10) rfl ?_); refine goesL_ (some 177) rfl rfl Try.func10 (by kernel_rfl) rfl #[] rfl (by (try simp only [List.map_toArray, List.map_cons, List.map_nil]); first | done | rfl | (simp only [List.length_drop, List.length_take]; rfl)) ?_; (with_reducible refine (remontoirlaw01_wakes.calls kj46  t235 _ A65.out (TabOk.below HT0.out (by repeat (first | (with_reducible first | exact HB.out | apply below_alloc | apply pw_below_drewN | apply below_drew1) | exact HB.out)))).mono ?_); rintro e w66 ⟨rfl, hb⟩; refine ⟨_, rfl, ?_⟩; have n0_ := Aside0.mk (below_step (by repeat (first | (with_reducible first | exact HB.out | apply below_alloc | apply pw_below_drewN | apply below_drew1) | exact HB.out)) hb); clear HB; have HB := n0_; clear n0_; (try clear hb); (try clear hb2); (try clear hk); (try clear hi)))
                          go_ret
                          exact ⟨by first | rfl | (simp [errW_none, errW_some] <;> rfl) | (simp [*, errW_none, errW_some] <;> rfl), by repeat (first | (with_reducible first | exact HB.out | apply below_alloc | apply pw_below_drewN | apply below_drew1) | exact HB.out)⟩

end Go.Proofs.Ytfkknipkfcmiaaa.PAll
