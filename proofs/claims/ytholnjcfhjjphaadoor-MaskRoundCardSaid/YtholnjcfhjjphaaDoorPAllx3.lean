-- Printed by a program of ours (wip/common/mkprint.py), turned from the kit's print; Lean checks it.
import Derived.Test.YtholnjcfhjjphaaDoorPAllx0
import Derived.Test.YtholnjcfhjjphaaDoorPAllx2
namespace Go.Proofs.YtholnjcfhjjphaaDoor.PAll
open Go.Proofs.YtholnjcfhjjphaaDoor.Tz
open Go.RowKit Go.Proofs.YtholnjcfhjjphaaDoorW.PrintWords Go.Proofs.YtholnjcfhjjphaaDoorW.PrintLast Go.Proofs.YtholnjcfhjjphaaDoorW.PrintMore
attribute [local go_sem] max2_int min2_int max_two min_two max_three min_three max_four min_four   -- for this text's walks alone
set_option linter.unusedVariables false
set_option linter.unusedSimpArgs false

/-! ### remontoirlaw04_MaskOne: function 4 -/
mutual
def remontoirlaw04_MaskOne.j0 : Nat → Int → Int → Int → Int → Bool → Option (Bool)
  | 0, _, _, _, _, _ => none
  | k + 1, x0, x1, x5, x6, x19 => if x19 = true then (if x5 = x0 then (if x6 = x0 then ((mask_Has.f x0 x1).bind fun t130 => (if t130 = true then (none) else ((remontoirlaw04_wakes.f k).bind fun t131 => (some t131)))) else (none)) else (none)) else (remontoirlaw04_MaskOne.l0 k x0 x1 x5 x6 0)
def remontoirlaw04_MaskOne.l0 : Nat → Int → Int → Int → Int → Int → Option (Bool)
  | 0, _, _, _, _, _ => none
  | k + 1, x0, x1, x5, x6, x7 => if x7 < 64 then (if x7 = x1 then (remontoirlaw04_MaskOne.l0 k x0 x1 x5 x6 (wrap64 (x7 + 1))) else ((mask_Has.f x5 x7).bind fun t132 => ((mask_Has.f x0 x7).bind fun t133 => (if (t132 != t133) = true then (none) else ((mask_Has.f x6 x7).bind fun t134 => (if (t134 != t133) = true then (none) else (remontoirlaw04_MaskOne.l0 k x0 x1 x5 x6 (wrap64 (x7 + 1))))))))) else ((mask_Has.f x5 x1).bind fun t135 => (if t135 = true then ((mask_Has.f x6 x1).bind fun t136 => (if t136 = true then (none) else ((mask_With.f x6 x1).bind fun t137 => (if t137 = x5 then ((mask_Without.f x5 x1).bind fun t138 => (if t138 = x6 then ((mask_With.f x5 x1).bind fun t139 => (if t139 = x5 then ((mask_Without.f x6 x1).bind fun t140 => (if t140 = x6 then ((remontoirlaw04_wakes.f k).bind fun t141 => (some t141)) else (none))) else (none))) else (none))) else (none))))) else (none)))
end
def remontoirlaw04_MaskOne.f (k : Nat) (a0 : Int) (a1 : Int) : Option (Bool) := (mask_With.f a0 a1).bind fun t128 => ((mask_Without.f a0 a1).bind fun t129 => (if a1 < 0 then (remontoirlaw04_MaskOne.j0 k a0 a1 t128 t129 true) else (remontoirlaw04_MaskOne.j0 k a0 a1 t128 t129 (decide (a1 ≥ 64)))))
theorem remontoirlaw04_MaskOne.mono_l : ∀ k, (∀ y0 y1 y2 y3 y4, LeO (remontoirlaw04_MaskOne.j0 k y0 y1 y2 y3 y4) (remontoirlaw04_MaskOne.j0 (k + 1) y0 y1 y2 y3 y4)) ∧ (∀ y0 y1 y2 y3 y4, LeO (remontoirlaw04_MaskOne.l0 k y0 y1 y2 y3 y4) (remontoirlaw04_MaskOne.l0 (k + 1) y0 y1 y2 y3 y4))
  | 0 => ⟨fun _ _ _ _ _ r h => by simp [remontoirlaw04_MaskOne.j0] at h, fun _ _ _ _ _ r h => by simp [remontoirlaw04_MaskOne.l0] at h⟩
  | k + 1 => by
    obtain ⟨ih0, ih1⟩ := remontoirlaw04_MaskOne.mono_l k
    refine ⟨?_, ?_⟩
    · intro y0 y1 y2 y3 y4
      unfold remontoirlaw04_MaskOne.j0
      repeat' first
      | (with_reducible exact ih0 _ _ _ _ _)
      | (with_reducible exact ih1 _ _ _ _ _)
      | (with_reducible exact remontoirlaw04_wakes.mono _)
      | (with_reducible exact LeO.refl _)
      | (with_reducible exact LeO.none _)
      | (with_reducible refine LeO.ite ?_ ?_)
      | (with_reducible refine LeO.bind ?_ (fun _ => ?_))
      | exact ih0 _ _ _ _ _
      | exact ih1 _ _ _ _ _
      | exact remontoirlaw04_wakes.mono _
      | exact LeO.none _
      | refine LeO.ite ?_ ?_
      | refine LeO.bind ?_ (fun _ => ?_)
    · intro y0 y1 y2 y3 y4
      unfold remontoirlaw04_MaskOne.l0
      repeat' first
      | (with_reducible exact ih0 _ _ _ _ _)
      | (with_reducible exact ih1 _ _ _ _ _)
      | (with_reducible exact remontoirlaw04_wakes.mono _)
      | (with_reducible exact LeO.refl _)
      | (with_reducible exact LeO.none _)
      | (with_reducible refine LeO.ite ?_ ?_)
      | (with_reducible refine LeO.bind ?_ (fun _ => ?_))
      | exact ih0 _ _ _ _ _
      | exact ih1 _ _ _ _ _
      | exact remontoirlaw04_wakes.mono _
      | exact LeO.none _
      | refine LeO.ite ?_ ?_
      | refine LeO.bind ?_ (fun _ => ?_)
theorem remontoirlaw04_MaskOne.mono : ∀ a0 a1 k, LeO (remontoirlaw04_MaskOne.f k a0 a1) (remontoirlaw04_MaskOne.f (k + 1) a0 a1) := by
  intro a0 a1 k
  obtain ⟨ih0, ih1⟩ := remontoirlaw04_MaskOne.mono_l k
  unfold remontoirlaw04_MaskOne.f
  repeat' first
      | (with_reducible exact ih0 _ _ _ _ _)
      | (with_reducible exact ih1 _ _ _ _ _)
      | (with_reducible exact remontoirlaw04_wakes.mono _)
      | (with_reducible exact LeO.refl _)
      | (with_reducible exact LeO.none _)
      | (with_reducible refine LeO.ite ?_ ?_)
      | (with_reducible refine LeO.bind ?_ (fun _ => ?_))
      | exact ih0 _ _ _ _ _
      | exact ih1 _ _ _ _ _
      | exact remontoirlaw04_wakes.mono _
      | exact LeO.none _
      | refine LeO.ite ?_ ?_
      | refine LeO.bind ?_ (fun _ => ?_)
set_option maxHeartbeats 8000000 in
set_option maxRecDepth 100000 in
theorem remontoirlaw04_MaskOne.calls (k : Nat) (a0 : Int) (a1 : Int) (r : Bool) (w : World) (h : remontoirlaw04_MaskOne.f k a0 a1 = some r) (hT0 : TabOk w) :
    Calls Tryd.prog 4 #[.int .u64 a0, .int .i64 a1] w fun e w' => e = .returned (.bool r) ∧ Below w.heap.size w w' := by
  have HT0 := Aside0.mk hT0
  clear hT0
  have HB := Aside0.mk (Below.refl w.heap.size w)
  have H : ((mask_With.f a0 a1).bind fun t128 => ((mask_Without.f a0 a1).bind fun t129 => (if a1 < 0 then (remontoirlaw04_MaskOne.j0 k a0 a1 t128 t129 true) else (remontoirlaw04_MaskOne.j0 k a0 a1 t128 t129 (decide (a1 ≥ 64)))))) = some r := h
  clear h
  replace H := Option.bind_eq_some_iff.mp H
  obtain ⟨t128, A30, H⟩ := H
  replace H : ((mask_Without.f a0 a1).bind fun t129 => (if a1 < 0 then (remontoirlaw04_MaskOne.j0 k a0 a1 t128 t129 true) else (remontoirlaw04_MaskOne.j0 k a0 a1 t128 t129 (decide (a1 ≥ 64))))) = some r := H
  have A3 := Aside0.mk A30
  clear A30
  replace H := Option.bind_eq_some_iff.mp H
  obtain ⟨t129, A40, H⟩ := H
  replace H : (if a1 < 0 then (remontoirlaw04_MaskOne.j0 k a0 a1 t128 t129 true) else (remontoirlaw04_MaskOne.j0 k a0 a1 t128 t129 (decide (a1 ≥ 64)))) = some r := H
  have A4 := Aside0.mk A40
  clear A40
  have HC5 := Aside0.mk H
  clear H
  go_enter Tryd.func4, Tryd.ntmps4
  go_upto_region 2 with (first | ((with_reducible refine gate_callee (f := 11) rfl ?_); refine goesL_ (some 10) rfl rfl Tryd.func11 (by kernel_rfl) rfl #[.int .u64 a0, .int .i64 a1] rfl (by (try simp only [List.map_toArray, List.map_cons, List.map_nil]); first | done | rfl | (simp only [List.length_drop, List.length_take]; rfl)) ?_; (with_reducible refine (mask_With.calls a0 a1 t128 _ A3.out).mono ?_); rintro e w' ⟨rfl, ⟨nd, rfl⟩⟩; refine ⟨_, rfl, ?_⟩) | ((with_reducible refine gate_callee (f := 12) rfl ?_); refine goesL_ (some 13) rfl rfl Tryd.func12 (by kernel_rfl) rfl #[.int .u64 a0, .int .i64 a1] rfl (by (try simp only [List.map_toArray, List.map_cons, List.map_nil]); first | done | rfl | (simp only [List.length_drop, List.length_take]; rfl)) ?_; (with_reducible refine (mask_Without.calls a0 a1 t129 _ A4.out).mono ?_); rintro e w' ⟨rfl, ⟨nd, rfl⟩⟩; refine ⟨_, rfl, ?_⟩))
  (try simp only [Act.put, List.setIfInBounds_toArray, List.set_cons_zero, List.set_cons_succ])
  go_cut [19] (fun v19 wc => ∃ (kq : Nat) (x19_4 : Bool), v19 = .bool x19_4 ∧ Aside0 (remontoirlaw04_MaskOne.j0 kq a0 a1 t128 t129 x19_4 = some r) ∧ Aside0 (kq ≤ k) ∧ Aside0 (Below w.heap.size w wc))
  case first =>
    have H := HC5.out
    clear HC5
    by_cases c6 : a1 < 0
    · rw [if_pos c6] at H
      have c6b0 : decide (a1 < 0) = true := decide_eq_true c6
      clear c6
      (first | rw [c6b0] | (simp only [i64_w, i32_w]; rw [c6b0]) | skip)
      have H' := Aside0.mk H
      clear H
      go_wp2
      go_meet
      case rel => exact ⟨_, (true), (by first | rfl | (simp; done) | (simp [*]; done)), H', ⟨by first | omega | exact Nat.le_refl _⟩, ⟨by repeat (first | (with_reducible first | exact HB.out | apply below_alloc | apply pw_below_drewN | apply below_drew1) | exact HB.out)⟩⟩
    · rw [if_neg c6] at H
      have c6b0 : decide (a1 < 0) = false := decide_eq_false c6
      clear c6
      (first | rw [c6b0] | (simp only [i64_w, i32_w]; rw [c6b0]) | skip)
      have H' := Aside0.mk H
      clear H
      go_wp2
      go_meet
      case rel => exact ⟨_, (decide (a1 ≥ 64)), (by first | rfl | (simp; done) | (simp [*]; done)), H', ⟨by first | omega | exact Nat.le_refl _⟩, ⟨by repeat (first | (with_reducible first | exact HB.out | apply below_alloc | apply pw_below_drewN | apply below_drew1) | exact HB.out)⟩⟩
  case rest =>
    clear HC5
    try clear c1
    try clear p2
    try clear c4
    try clear c6
    try clear c6b0
    obtain ⟨kq, x19_4, rfl, HA, HJ4, HB⟩ := hcut
    cases kq with
    | zero => exact absurd HA.out (by simp [remontoirlaw04_MaskOne.j0])
    | succ kj4 =>
      have H := HA.out
      clear HA
      simp only [remontoirlaw04_MaskOne.j0] at H
      by_cases c7 : x19_4 = true
      · subst c7
        have H1 : (if t128 = a0 then (if t129 = a0 then ((mask_Has.f a0 a1).bind fun t130 => (if t130 = true then (none) else ((remontoirlaw04_wakes.f kj4).bind fun t131 => (some t131)))) else (none)) else (none)) = some r := by rw [if_pos rfl] at H; exact H
        clear H
        have H := H1
        clear H1
        by_cases c8 : t128 = a0
        · rw [if_pos c8] at H
          have c8b0 : (t128 == a0) = true := beq_iff_eq.mpr c8
          have c8b1 : (t128 != a0) = false := bne_eq_false_iff_eq.mpr c8
          clear c8
          by_cases c9 : t129 = a0
          · rw [if_pos c9] at H
            have c9b0 : (t129 == a0) = true := beq_iff_eq.mpr c9
            have c9b1 : (t129 != a0) = false := bne_eq_false_iff_eq.mpr c9
            clear c9
            replace H := Option.bind_eq_some_iff.mp H
            obtain ⟨t130, A100, H⟩ := H
            replace H : (if t130 = true then (none) else ((remontoirlaw04_wakes.f kj4).bind fun t131 => (some t131))) = some r := H
            have A10 := Aside0.mk A100
            clear A100
            by_cases c11 : t130 = true
            · subst c11
              have H1 : (none) = some r := by rw [if_pos rfl] at H; exact H
              clear H
              have H := H1
              clear H1
              exact absurd H (by simp)
            · replace c11 := Bool.eq_false_iff.mpr c11
              subst c11
              have H1 : ((remontoirlaw04_wakes.f kj4).bind fun t131 => (some t131)) = some r := by rw [if_neg (show ¬ (false = true) by decide)] at H; exact H
              clear H
              have H := H1
              clear H1
              replace H := Option.bind_eq_some_iff.mp H
              obtain ⟨t131, A120, H⟩ := H
              replace H : (some t131) = some r := H
              have A12 := Aside0.mk A120
              clear A120
              obtain rfl := Option.some.inj H
              go_wp2_with (first | (go_at_call 9; (with_reducible refine (mask_Has.calls a0 a1 false _ A10.out).mono ?_); rintro e w' ⟨rfl, ⟨nd, rfl⟩⟩) | (go_at_call 10; (with_reducible refine (remontoirlaw04_wakes.calls kj4  t131 _ A12.out (TabOk.below HT0.out (by repeat (first | (with_reducible first | exact HB.out | apply below_alloc | apply pw_below_drewN | apply below_drew1) | exact HB.out)))).mono ?_); rintro e w13 ⟨rfl, hb⟩; have n0_ := Aside0.mk (below_step (by repeat (first | (with_reducible first | exact HB.out | apply below_alloc | apply pw_below_drewN | apply below_drew1) | exact HB.out)) hb); clear HB; have HB := n0_; clear n0_; (try clear hb); (try clear hb2); (try clear hk); (try clear hi)))
              go_ret
              exact ⟨by first | rfl | (simp [errW_none, errW_some] <;> rfl) | (simp [*, errW_none, errW_some] <;> rfl), by repeat (first | (with_reducible first | exact HB.out | apply below_alloc | apply pw_below_drewN | apply below_drew1) | exact HB.out)⟩
          · rw [if_neg c9] at H
            exact absurd H (by simp)
        · rw [if_neg c8] at H
          exact absurd H (by simp)
      · replace c7 := Bool.eq_false_iff.mpr c7
        subst c7
        have H1 : (remontoirlaw04_MaskOne.l0 kj4 a0 a1 t128 t129 0) = some r := by rw [if_neg (show ¬ (false = true) by decide)] at H; exact H
        clear H
        have H := H1
        clear H1
        have H' := Aside0.mk H
        clear H
        go_wp2
        go_loopg [7] kj4 (fun kq v7 w' => ∃ (x7_2 : Int), v7 = .int .i64 x7_2 ∧ Aside0 (remontoirlaw04_MaskOne.l0 kq a0 a1 t128 t129 x7_2 = some r) ∧ Aside0 (kq ≤ kj4) ∧ Aside0 (Below w.heap.size w w'))
        case atStart => exact ⟨(0), (by first | rfl | (simp; done) | (simp [*]; done)), H', ⟨Nat.le_refl _⟩, ⟨by repeat (first | (with_reducible first | exact HB.out | apply below_alloc | apply pw_below_drewN | apply below_drew1) | exact HB.out)⟩⟩
        case round =>
          clear H'
          try clear c1
          try clear p2
          try clear c4
          try clear c6
          try clear c6b0
          try clear c7
          try clear c8
          try clear c8b0
          try clear c8b1
          try clear c9
          try clear c9b0
          try clear c9b1
          try clear c11
          try clear c12
          try clear p2
          obtain ⟨x7_2, rfl, HA, HK2, HB⟩ := hrel
          cases gk with
          | zero => exact absurd HA.out (by simp [remontoirlaw04_MaskOne.l0])
          | succ k2 =>
            have H := HA.out
            clear HA
            simp only [remontoirlaw04_MaskOne.l0] at H
            by_cases c14 : x7_2 < 64
            · rw [if_pos c14] at H
              have c14b0 : decide (x7_2 < 64) = true := decide_eq_true c14
              clear c14
              by_cases c15 : x7_2 = a1
              · rw [if_pos c15] at H
                have c15b0 : (x7_2 == a1) = true := beq_iff_eq.mpr c15
                have c15b1 : (x7_2 != a1) = false := bne_eq_false_iff_eq.mpr c15
                clear c15
                have H' := Aside0.mk H
                clear H
                go_wp2
                go_roundg k2
                case measure => have := HJ4.out; have := HK2.out; omega
                case rel => exact ⟨(wrap64 (x7_2 + 1)), (by first | rfl | (simp; done) | (simp [*]; done)), H', ⟨by have := HJ4.out; have := HK2.out; omega⟩, ⟨by repeat (first | (with_reducible first | exact HB.out | apply below_alloc | apply pw_below_drewN | apply below_drew1) | exact HB.out)⟩⟩
              · rw [if_neg c15] at H
                have c15b0 : (x7_2 == a1) = false := beq_eq_false_iff_ne.mpr c15
                have c15b1 : (x7_2 != a1) = true := bne_iff_ne.mpr c15
                replace H := Option.bind_eq_some_iff.mp H
                obtain ⟨t132, A160, H⟩ := H
                replace H : ((mask_Has.f a0 x7_2).bind fun t133 => (if (t132 != t133) = true then (none) else ((mask_Has.f t129 x7_2).bind fun t134 => (if (t134 != t133) = true then (none) else (remontoirlaw04_MaskOne.l0 k2 a0 a1 t128 t129 (wrap64 (x7_2 + 1))))))) = some r := H
                have A16 := Aside0.mk A160
                clear A160
                replace H := Option.bind_eq_some_iff.mp H
                obtain ⟨t133, A170, H⟩ := H
                replace H : (if (t132 != t133) = true then (none) else ((mask_Has.f t129 x7_2).bind fun t134 => (if (t134 != t133) = true then (none) else (remontoirlaw04_MaskOne.l0 k2 a0 a1 t128 t129 (wrap64 (x7_2 + 1)))))) = some r := H
                have A17 := Aside0.mk A170
                clear A170
                by_cases c18 : (t132 != t133) = true
                · rw [if_pos c18] at H
                  exact absurd H (by simp)
                · rw [if_neg c18] at H
                  have c18b0 : (t132 != t133) = false := by simpa using c18
                  (try (have c18b1 : decide (t132 = t133) = true := by simpa using c18))
                  (try (have c18b2 : (t132 == t133) = true := by simpa using c18))
                  clear c18
                  replace H := Option.bind_eq_some_iff.mp H
                  obtain ⟨t134, A190, H⟩ := H
                  replace H : (if (t134 != t133) = true then (none) else (remontoirlaw04_MaskOne.l0 k2 a0 a1 t128 t129 (wrap64 (x7_2 + 1)))) = some r := H
                  have A19 := Aside0.mk A190
                  clear A190
                  by_cases c20 : (t134 != t133) = true
                  · rw [if_pos c20] at H
                    exact absurd H (by simp)
                  · rw [if_neg c20] at H
                    have c20b0 : (t134 != t133) = false := by simpa using c20
                    (try (have c20b1 : decide (t134 = t133) = true := by simpa using c20))
                    (try (have c20b2 : (t134 == t133) = true := by simpa using c20))
                    clear c20
                    have H' := Aside0.mk H
                    clear H
                    go_wp2_with (first | (go_at_call 9; (with_reducible refine (mask_Has.calls t128 x7_2 t132 _ A16.out).mono ?_); rintro e w' ⟨rfl, ⟨nd, rfl⟩⟩) | (go_at_call 9; (with_reducible refine (mask_Has.calls a0 x7_2 t133 _ A17.out).mono ?_); rintro e w' ⟨rfl, ⟨nd, rfl⟩⟩) | (go_at_call 9; (with_reducible refine (mask_Has.calls t129 x7_2 t134 _ A19.out).mono ?_); rintro e w' ⟨rfl, ⟨nd, rfl⟩⟩))
                    go_roundg k2
                    case measure => have := HJ4.out; have := HK2.out; omega
                    case rel => exact ⟨(wrap64 (x7_2 + 1)), (by first | rfl | (simp; done) | (simp [*]; done)), H', ⟨by have := HJ4.out; have := HK2.out; omega⟩, ⟨by repeat (first | (with_reducible first | exact HB.out | apply below_alloc | apply pw_below_drewN | apply below_drew1) | exact HB.out)⟩⟩
            · rw [if_neg c14] at H
              have c14b0 : decide (x7_2 < 64) = false := decide_eq_false c14
              clear c14
              replace H := Option.bind_eq_some_iff.mp H
              obtain ⟨t135, A210, H⟩ := H
              replace H : (if t135 = true then ((mask_Has.f t129 a1).bind fun t136 => (if t136 = true then (none) else ((mask_With.f t129 a1).bind fun t137 => (if t137 = t128 then ((mask_Without.f t128 a1).bind fun t138 => (if t138 = t129 then ((mask_With.f t128 a1).bind fun t139 => (if t139 = t128 then ((mask_Without.f t129 a1).bind fun t140 => (if t140 = t129 then ((remontoirlaw04_wakes.f k2).bind fun t141 => (some t141)) else (none))) else (none))) else (none))) else (none))))) else (none)) = some r := H
              have A21 := Aside0.mk A210
              clear A210
              by_cases c22 : t135 = true
              · subst c22
                have H1 : ((mask_Has.f t129 a1).bind fun t136 => (if t136 = true then (none) else ((mask_With.f t129 a1).bind fun t137 => (if t137 = t128 then ((mask_Without.f t128 a1).bind fun t138 => (if t138 = t129 then ((mask_With.f t128 a1).bind fun t139 => (if t139 = t128 then ((mask_Without.f t129 a1).bind fun t140 => (if t140 = t129 then ((remontoirlaw04_wakes.f k2).bind fun t141 => (some t141)) else (none))) else (none))) else (none))) else (none))))) = some r := by rw [if_pos rfl] at H; exact H
                clear H
                have H := H1
                clear H1
                replace H := Option.bind_eq_some_iff.mp H
                obtain ⟨t136, A230, H⟩ := H
                replace H : (if t136 = true then (none) else ((mask_With.f t129 a1).bind fun t137 => (if t137 = t128 then ((mask_Without.f t128 a1).bind fun t138 => (if t138 = t129 then ((mask_With.f t128 a1).bind fun t139 => (if t139 = t128 then ((mask_Without.f t129 a1).bind fun t140 => (if t140 = t129 then ((remontoirlaw04_wakes.f k2).bind fun t141 => (some t141)) else (none))) else (none))) else (none))) else (none)))) = some r := H
                have A23 := Aside0.mk A230
                clear A230
                by_cases c24 : t136 = true
                · subst c24
                  have H1 : (none) = some r := by rw [if_pos rfl] at H; exact H
                  clear H
                  have H := H1
                  clear H1
                  exact absurd H (by simp)
                · replace c24 := Bool.eq_false_iff.mpr c24
                  subst c24
                  have H1 : ((mask_With.f t129 a1).bind fun t137 => (if t137 = t128 then ((mask_Without.f t128 a1).bind fun t138 => (if t138 = t129 then ((mask_With.f t128 a1).bind fun t139 => (if t139 = t128 then ((mask_Without.f t129 a1).bind fun t140 => (if t140 = t129 then ((remontoirlaw04_wakes.f k2).bind fun t141 => (some t141)) else (none))) else (none))) else (none))) else (none))) = some r := by rw [if_neg (show ¬ (false = true) by decide)] at H; exact H
                  clear H
                  have H := H1
                  clear H1
                  replace H := Option.bind_eq_some_iff.mp H
                  obtain ⟨t137, A250, H⟩ := H
                  replace H : (if t137 = t128 then ((mask_Without.f t128 a1).bind fun t138 => (if t138 = t129 then ((mask_With.f t128 a1).bind fun t139 => (if t139 = t128 then ((mask_Without.f t129 a1).bind fun t140 => (if t140 = t129 then ((remontoirlaw04_wakes.f k2).bind fun t141 => (some t141)) else (none))) else (none))) else (none))) else (none)) = some r := H
                  have A25 := Aside0.mk A250
                  clear A250
                  by_cases c26 : t137 = t128
                  · rw [if_pos c26] at H
                    have c26b0 : (t137 == t128) = true := beq_iff_eq.mpr c26
                    have c26b1 : (t137 != t128) = false := bne_eq_false_iff_eq.mpr c26
                    clear c26
                    replace H := Option.bind_eq_some_iff.mp H
                    obtain ⟨t138, A270, H⟩ := H
                    replace H : (if t138 = t129 then ((mask_With.f t128 a1).bind fun t139 => (if t139 = t128 then ((mask_Without.f t129 a1).bind fun t140 => (if t140 = t129 then ((remontoirlaw04_wakes.f k2).bind fun t141 => (some t141)) else (none))) else (none))) else (none)) = some r := H
                    have A27 := Aside0.mk A270
                    clear A270
                    by_cases c28 : t138 = t129
                    · rw [if_pos c28] at H
                      have c28b0 : (t138 == t129) = true := beq_iff_eq.mpr c28
                      have c28b1 : (t138 != t129) = false := bne_eq_false_iff_eq.mpr c28
                      clear c28
                      replace H := Option.bind_eq_some_iff.mp H
                      obtain ⟨t139, A290, H⟩ := H
                      replace H : (if t139 = t128 then ((mask_Without.f t129 a1).bind fun t140 => (if t140 = t129 then ((remontoirlaw04_wakes.f k2).bind fun t141 => (some t141)) else (none))) else (none)) = some r := H
                      have A29 := Aside0.mk A290
                      clear A290
                      by_cases c30 : t139 = t128
                      · rw [if_pos c30] at H
                        have c30b0 : (t139 == t128) = true := beq_iff_eq.mpr c30
                        have c30b1 : (t139 != t128) = false := bne_eq_false_iff_eq.mpr c30
                        clear c30
                        replace H := Option.bind_eq_some_iff.mp H
                        obtain ⟨t140, A310, H⟩ := H
                        replace H : (if t140 = t129 then ((remontoirlaw04_wakes.f k2).bind fun t141 => (some t141)) else (none)) = some r := H
                        have A31 := Aside0.mk A310
                        clear A310
                        by_cases c32 : t140 = t129
                        · rw [if_pos c32] at H
                          have c32b0 : (t140 == t129) = true := beq_iff_eq.mpr c32
                          have c32b1 : (t140 != t129) = false := bne_eq_false_iff_eq.mpr c32
                          clear c32
                          replace H := Option.bind_eq_some_iff.mp H
                          obtain ⟨t141, A330, H⟩ := H
                          replace H : (some t141) = some r := H
                          have A33 := Aside0.mk A330
                          clear A330
                          obtain rfl := Option.some.inj H
                          go_wp2_with (first | ((with_reducible refine gate_callee (f := 9) rfl ?_); refine goesL_ (some 64) rfl rfl Tryd.func9 (by kernel_rfl) rfl #[.int .u64 t128, .int .i64 a1] rfl (by (try simp only [List.map_toArray, List.map_cons, List.map_nil]); first | done | rfl | (simp only [List.length_drop, List.length_take]; rfl)) ?_; (with_reducible refine (mask_Has.calls t128 a1 true _ A21.out).mono ?_); rintro e w' ⟨rfl, ⟨nd, rfl⟩⟩; refine ⟨_, rfl, ?_⟩) | (go_at_call 9; (with_reducible refine (mask_Has.calls t129 a1 false _ A23.out).mono ?_); rintro e w' ⟨rfl, ⟨nd, rfl⟩⟩) | (go_at_call 11; (with_reducible refine (mask_With.calls t129 a1 t137 _ A25.out).mono ?_); rintro e w' ⟨rfl, ⟨nd, rfl⟩⟩) | (go_at_call 12; (with_reducible refine (mask_Without.calls t128 a1 t138 _ A27.out).mono ?_); rintro e w' ⟨rfl, ⟨nd, rfl⟩⟩) | (go_at_call 11; (with_reducible refine (mask_With.calls t128 a1 t139 _ A29.out).mono ?_); rintro e w' ⟨rfl, ⟨nd, rfl⟩⟩) | (go_at_call 12; (with_reducible refine (mask_Without.calls t129 a1 t140 _ A31.out).mono ?_); rintro e w' ⟨rfl, ⟨nd, rfl⟩⟩) | (go_at_call 10; (with_reducible refine (remontoirlaw04_wakes.calls k2  t141 _ A33.out (TabOk.below HT0.out (by repeat (first | (with_reducible first | exact HB.out | apply below_alloc | apply pw_below_drewN | apply below_drew1) | exact HB.out)))).mono ?_); rintro e w34 ⟨rfl, hb⟩; have n0_ := Aside0.mk (below_step (by repeat (first | (with_reducible first | exact HB.out | apply below_alloc | apply pw_below_drewN | apply below_drew1) | exact HB.out)) hb); clear HB; have HB := n0_; clear n0_; (try clear hb); (try clear hb2); (try clear hk); (try clear hi)))
                          go_ret
                          exact ⟨by first | rfl | (simp [errW_none, errW_some] <;> rfl) | (simp [*, errW_none, errW_some] <;> rfl), by repeat (first | (with_reducible first | exact HB.out | apply below_alloc | apply pw_below_drewN | apply below_drew1) | exact HB.out)⟩
                        · rw [if_neg c32] at H
                          exact absurd H (by simp)
                      · rw [if_neg c30] at H
                        exact absurd H (by simp)
                    · rw [if_neg c28] at H
                      exact absurd H (by simp)
                  · rw [if_neg c26] at H
                    exact absurd H (by simp)
              · replace c22 := Bool.eq_false_iff.mpr c22
                subst c22
                have H1 : (none) = some r := by rw [if_neg (show ¬ (false = true) by decide)] at H; exact H
                clear H
                have H := H1
                clear H1
                exact absurd H (by simp)

/-! ### mask_List: function 13 -/
def mask_List.l0 : Nat → Int → List Int → Int → Option (List Int)
  | 0, _, _, _ => none
  | k + 1, x0, x3, x5 => if x5 < 64 then ((mask_Has.f x0 x5).bind fun t142 => (if t142 = true then (if x3.length < 17592186044416 then (mask_List.l0 k x0 (x3 ++ [x5]) (wrap64 (x5 + 1))) else (none)) else (mask_List.l0 k x0 x3 (wrap64 (x5 + 1))))) else (some x3)
def mask_List.f (k : Nat) (a0 : Int) : Option (List Int) := mask_List.l0 k a0 ([] : List Int) 0
theorem mask_List.mono_l : ∀ k, (∀ y0 y1 y2, LeO (mask_List.l0 k y0 y1 y2) (mask_List.l0 (k + 1) y0 y1 y2))
  | 0 => fun _ _ _ r h => by simp [mask_List.l0] at h
  | k + 1 => by
    have ih0 := mask_List.mono_l k
    · intro y0 y1 y2
      unfold mask_List.l0
      repeat' first
      | (with_reducible exact ih0 _ _ _)
      | (with_reducible exact LeO.refl _)
      | (with_reducible exact LeO.none _)
      | (with_reducible refine LeO.ite ?_ ?_)
      | (with_reducible refine LeO.bind ?_ (fun _ => ?_))
      | exact ih0 _ _ _
      | exact LeO.none _
      | refine LeO.ite ?_ ?_
      | refine LeO.bind ?_ (fun _ => ?_)
theorem mask_List.mono : ∀ a0 k, LeO (mask_List.f k a0) (mask_List.f (k + 1) a0) := by
  intro a0 k
  have ih0 := mask_List.mono_l k
  unfold mask_List.f
  repeat' first
      | (with_reducible exact ih0 _ _ _)
      | (with_reducible exact LeO.refl _)
      | (with_reducible exact LeO.none _)
      | (with_reducible refine LeO.ite ?_ ?_)
      | (with_reducible refine LeO.bind ?_ (fun _ => ?_))
      | exact ih0 _ _ _
      | exact LeO.none _
      | refine LeO.ite ?_ ?_
      | refine LeO.bind ?_ (fun _ => ?_)
set_option maxHeartbeats 8000000 in
set_option maxRecDepth 100000 in
theorem mask_List.calls (k : Nat) (a0 : Int) (r : List Int) (w : World) (h : mask_List.f k a0 = some r) :
    Calls Tryd.prog 13 #[.int .u64 a0] w fun e w' => ∃ v0_ : Value, e = .returned (v0_) ∧ Kd.R (Kd.int .i64) 3 w' w.heap.size (fun _ => True) v0_ r ∧ Below w.heap.size w w' := by
  have HB := Aside0.mk (Below.refl w.heap.size w)
  have H : (mask_List.l0 k a0 ([] : List Int) 0) = some r := h
  clear h
  have H' := Aside0.mk H
  clear H
  go_enter Tryd.func13, Tryd.ntmps13
  go_wp2
  go_loopg [3, 5] k (fun kq v3 v5 w' => ∃ (x3_1 : List Int) (x5_1 : Int), v5 = .int .i64 x5_1 ∧ Aside0 (mask_List.l0 kq a0 x3_1 x5_1 = some r) ∧ Aside0 (kq ≤ k) ∧ Aside0 (Kd.R (Kd.int .i64) 3 w' w.heap.size (fun _ => True) v3 x3_1) ∧ Aside0 (Below w.heap.size w w'))
  case atStart => exact ⟨(([] : List Int)), (0), (by first | rfl | (simp; done) | (simp [*]; done)), H', ⟨Nat.le_refl _⟩, ⟨by first | exact Kd.R_nil _ _ _ _ _ | exact Kd.N_nil _ _ _ _ _ | exact Kd.V_nil _ _ _ _ _ | exact Kd.Q_nil _ _ _ _ _ | exact Kd.S_nil _ _ _ _ _⟩, ⟨by repeat (first | (with_reducible first | exact HB.out | apply below_alloc | apply pw_below_drewN | apply below_drew1) | exact HB.out)⟩⟩
  case round =>
    clear H'
    try clear c1
    obtain ⟨x3_1, x5_1, rfl, HA, HK1, HO_3, HB⟩ := hrel
    cases gk with
    | zero => exact absurd HA.out (by simp [mask_List.l0])
    | succ k1 =>
      have H := HA.out
      clear HA
      simp only [mask_List.l0] at H
      by_cases c2 : x5_1 < 64
      · rw [if_pos c2] at H
        have c2b0 : decide (x5_1 < 64) = true := decide_eq_true c2
        clear c2
        replace H := Option.bind_eq_some_iff.mp H
        obtain ⟨t142, A30, H⟩ := H
        replace H : (if t142 = true then (if x3_1.length < 17592186044416 then (mask_List.l0 k1 a0 (x3_1 ++ [x5_1]) (wrap64 (x5_1 + 1))) else (none)) else (mask_List.l0 k1 a0 x3_1 (wrap64 (x5_1 + 1)))) = some r := H
        have A3 := Aside0.mk A30
        clear A30
        by_cases c4 : t142 = true
        · subst c4
          have H1 : (if x3_1.length < 17592186044416 then (mask_List.l0 k1 a0 (x3_1 ++ [x5_1]) (wrap64 (x5_1 + 1))) else (none)) = some r := by rw [if_pos rfl] at H; exact H
          clear H
          have H := H1
          clear H1
          by_cases c5 : x3_1.length < 17592186044416
          · rw [if_pos c5] at H
            have LMc5 := Aside0.mk c5
            clear c5
            obtain ⟨y143, hy143⟩ : ∃ y_ : List Int, y_ = (x3_1 ++ [x5_1]) := ⟨_, rfl⟩
            replace H : (mask_List.l0 k1 a0 y143 (wrap64 (x5_1 + 1))) = some r := by first | (rw [hy143]; with_reducible exact H) | (have H2_ := (Option.bind_some _ _).symm.trans H; rw [hy143]; with_reducible exact H2_) | (have H2_ := (Option.bind_some _ _).symm.trans H; with_reducible exact H2_) | with_reducible exact H | (rw [hy143]; exact H) | exact H
            have Ny143 := Aside0.mk hy143
            clear hy143
            have H' := Aside0.mk H
            clear H
            go_wp2_with (first | ((with_reducible refine gate_callee (f := 9) rfl ?_); refine goesL_ (some 10) rfl rfl Tryd.func9 (by kernel_rfl) rfl #[.int .u64 a0, .int .i64 x5_1] rfl (by (try simp only [List.map_toArray, List.map_cons, List.map_nil]); first | done | rfl | (simp only [List.length_drop, List.length_take]; rfl)) ?_; (with_reducible refine (mask_Has.calls a0 x5_1 true _ A3.out).mono ?_); rintro e w' ⟨rfl, ⟨nd, rfl⟩⟩; refine ⟨_, rfl, ?_⟩) | ((with_reducible refine gate_builtin (b := .append) (xs := #[.tmp 11, .tmp 13]) rfl ?_); at_builtin; refine Kd.R_append (Kd.int .i64) (w0 := w) w.heap.size rfl (.tmp 11) (.tmp 13) 28 3 (.int .i64 0) 8 rfl Tryd.underlying28 info3 rfl (by decide) (by omega) u3 x3_1 x5_1 [.int .i64 x5_1] (fun _ => True) (fun _ => False) rfl rfl ?aP (fun _ hk => hk.elim) ?aF ?aO ?aB ?aS ?aL ?_; (case aP => exact rfl); (case aB => exact (by repeat (first | (with_reducible first | exact HB.out | apply below_alloc | apply pw_below_drewN | apply below_drew1) | exact HB.out))); (case aF => exact (fun _ _ => trivial)); (case aO => exact (by (with_reducible repeat (first | apply Kd.R_alloc | apply Kd.R_drewN | apply Kd.R_drew)); exact HO_3.out)); (case aS => exact (below_size (by repeat (first | (with_reducible first | exact HB.out | apply below_alloc | apply pw_below_drewN | apply below_drew1) | exact HB.out)))); (case aL => have := LMc5.out; omega); intro v144 w6 ho hb hg hat; rw [← Ny143.out] at ho; have n0_ := Aside0.mk (hb); have n1_ := Aside0.mk (ho); clear HB; clear HO_3; have HB := n0_; have HO145 := n1_; clear n0_ n1_; clear ho hb hg hat))
            go_roundg k1
            case measure => have := HK1.out; omega
            case rel => exact ⟨(y143), (wrap64 (x5_1 + 1)), (by first | rfl | (simp; done) | (simp [*]; done)), H', ⟨by have := HK1.out; omega⟩, ⟨by (with_reducible repeat (first | apply Kd.R_alloc | apply Kd.R_drewN | apply Kd.R_drew)); exact HO145.out⟩, ⟨by repeat (first | (with_reducible first | exact HB.out | apply below_alloc | apply pw_below_drewN | apply below_drew1) | exact HB.out)⟩⟩
          · rw [if_neg c5] at H
            exact absurd H (by simp)
        · replace c4 := Bool.eq_false_iff.mpr c4
          subst c4
          have H1 : (mask_List.l0 k1 a0 x3_1 (wrap64 (x5_1 + 1))) = some r := by rw [if_neg (show ¬ (false = true) by decide)] at H; exact H
          clear H
          have H := H1
          clear H1
          have H' := Aside0.mk H
          clear H
          go_wp2_with (first | ((with_reducible refine gate_callee (f := 9) rfl ?_); refine goesL_ (some 10) rfl rfl Tryd.func9 (by kernel_rfl) rfl #[.int .u64 a0, .int .i64 x5_1] rfl (by (try simp only [List.map_toArray, List.map_cons, List.map_nil]); first | done | rfl | (simp only [List.length_drop, List.length_take]; rfl)) ?_; (with_reducible refine (mask_Has.calls a0 x5_1 false _ A3.out).mono ?_); rintro e w' ⟨rfl, ⟨nd, rfl⟩⟩; refine ⟨_, rfl, ?_⟩))
          go_roundg k1
          case measure => have := HK1.out; omega
          case rel => exact ⟨(x3_1), (wrap64 (x5_1 + 1)), (by first | rfl | (simp; done) | (simp [*]; done)), H', ⟨by have := HK1.out; omega⟩, ⟨by (with_reducible repeat (first | apply Kd.R_alloc | apply Kd.R_drewN | apply Kd.R_drew)); exact HO_3.out⟩, ⟨by repeat (first | (with_reducible first | exact HB.out | apply below_alloc | apply pw_below_drewN | apply below_drew1) | exact HB.out)⟩⟩
      · rw [if_neg c2] at H
        have c2b0 : decide (x5_1 < 64) = false := decide_eq_false c2
        clear c2
        obtain rfl := Option.some.inj H
        go_wp2
        go_ret
        exact ⟨_, by first | rfl | (simp [errW_none, errW_some] <;> rfl) | (simp [*, errW_none, errW_some] <;> rfl), by (with_reducible repeat (first | apply Kd.R_alloc | apply Kd.R_drewN | apply Kd.R_drew)); exact HO_3.out, by repeat (first | (with_reducible first | exact HB.out | apply below_alloc | apply pw_below_drewN | apply below_drew1) | exact HB.out)⟩

end Go.Proofs.YtholnjcfhjjphaaDoor.PAll
