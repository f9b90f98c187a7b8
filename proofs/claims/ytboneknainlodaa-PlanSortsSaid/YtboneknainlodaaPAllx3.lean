-- Printed by a program of ours (wip/common/mkprint.py), turned from the kit's print; Lean checks it.
import Derived.Test.YtboneknainlodaaPAllx0
import Derived.Test.YtboneknainlodaaPAllx1
import Derived.Test.YtboneknainlodaaPAllx2
namespace Go.Proofs.Ytboneknainlodaa.PAll
open Go.Proofs.Ytboneknainlodaa.PBase Go.Proofs.Ytboneknainlodaa.Giv
open Go.RowKit Go.Proofs.YtboneknainlodaaW.PrintWords Go.Proofs.YtboneknainlodaaW.PrintLast Go.Proofs.YtboneknainlodaaW.PrintMore
attribute [local go_sem] max2_int min2_int max_two min_two max_three min_three max_four min_four   -- for this text's walks alone
set_option linter.unusedVariables false
set_option linter.unusedSimpArgs false

attribute [local go_sem high] eqA32
/-! ### remontoirkeep_Dues: function 9 -/
def remontoirkeep_Dues.l0 : Nat → List (S32) → List (S32) → Int → Option (Bool)
  | 0, _, _, _ => none
  | k + 1, x0, x1, x5 => if x5 < (x0.length : Int) then (if 0 ≤ x5 then (if x5 < (x1.length : Int) then (if (!(((rd_T32 x0 x5).f0) == ((rd_T32 x1 x5).f0)) || (!(((rd_T32 x0 x5).f1) == ((rd_T32 x1 x5).f1)))) = true then (some false) else (remontoirkeep_Dues.l0 k x0 x1 (wrap64 (x5 + 1)))) else (none)) else (none)) else (some true)
def remontoirkeep_Dues.f (k : Nat) (l0 : List (S32)) (l1 : List (S32)) : Option (Bool) := if (l0.length : Int) = (l1.length : Int) then (remontoirkeep_Dues.l0 k l0 l1 0) else (some false)
theorem remontoirkeep_Dues.mono_l : ∀ k, (∀ y0 y1 y2, LeO (remontoirkeep_Dues.l0 k y0 y1 y2) (remontoirkeep_Dues.l0 (k + 1) y0 y1 y2))
  | 0 => fun _ _ _ r h => by simp [remontoirkeep_Dues.l0] at h
  | k + 1 => by
    have ih0 := remontoirkeep_Dues.mono_l k
    · intro y0 y1 y2
      unfold remontoirkeep_Dues.l0
      repeat' first
      | (with_reducible exact ih0 _ _ _)
      | (with_reducible exact LeO.refl _)
      | (with_reducible exact LeO.none _)
      | (with_reducible refine LeO.ite ?_ ?_)
      | (with_reducible refine LeO.bind ?_ (fun _ => ?_))
      | exact ih0 _ _ _
      | exact LeO.none _
      | refine LeO.ite ?_ ?_
      | refine LeO.bind ?_ (fun _ => ?_)
theorem remontoirkeep_Dues.mono : ∀ a0 a1 k, LeO (remontoirkeep_Dues.f k a0 a1) (remontoirkeep_Dues.f (k + 1) a0 a1) := by
  intro a0 a1 k
  have ih0 := remontoirkeep_Dues.mono_l k
  unfold remontoirkeep_Dues.f
  repeat' first
      | (with_reducible exact ih0 _ _ _)
      | (with_reducible exact LeO.refl _)
      | (with_reducible exact LeO.none _)
      | (with_reducible refine LeO.ite ?_ ?_)
      | (with_reducible refine LeO.bind ?_ (fun _ => ?_))
      | exact ih0 _ _ _
      | exact LeO.none _
      | refine LeO.ite ?_ ?_
      | refine LeO.bind ?_ (fun _ => ?_)
set_option maxHeartbeats 8000000 in
set_option maxRecDepth 100000 in
theorem remontoirkeep_Dues.calls (k : Nat) (A0 : Option Addr) (c0 : Nat) (l0 : List (S32)) (A1 : Option Addr) (c1 : Nat) (l1 : List (S32)) (r : Bool) (w : World) (hr0 : Kd.C k32 w A0 l0.length l0) (hc0 : l0.length ≤ c0) (hr1 : Kd.C k32 w A1 l1.length l1) (hc1 : l1.length ≤ c1) (h : remontoirkeep_Dues.f k l0 l1 = some r) :
    Calls Try.prog 9 #[.slice A0 l0.length c0, .slice A1 l1.length c1] w fun e w' => e = .returned (.bool r) ∧ Drawn0 w w' := by
  have hu32 := Try.underlying32
  have HR0 := Aside0.mk hr0
  have HC0 := Aside0.mk hc0
  clear hr0 hc0
  have HR1 := Aside0.mk hr1
  have HC1 := Aside0.mk hc1
  clear hr1 hc1
  have H : (if (l0.length : Int) = (l1.length : Int) then (remontoirkeep_Dues.l0 k l0 l1 0) else (some false)) = some r := h
  clear h
  by_cases c3 : (l0.length : Int) = (l1.length : Int)
  · rw [if_pos c3] at H
    have c3b0 : ((l0.length : Int) == (l1.length : Int)) = true := beq_iff_eq.mpr c3
    have c3b1 : ((l0.length : Int) != (l1.length : Int)) = false := bne_eq_false_iff_eq.mpr c3
    have c3b2 : (l0.length == l1.length) = true := by first | simpa using c3 | (simp at c3 ⊢; omega)
    clear c3
    have H' := Aside0.mk H
    clear H
    go_enter Try.func9, Try.ntmps9
    go_wp2
    repeat (go_quiet (fail); try go_wp2)
    go_loopg [5] k (fun kq v5 w' => ∃ (x5_1 : Int), v5 = .int .i64 x5_1 ∧ Aside0 (remontoirkeep_Dues.l0 kq l0 l1 x5_1 = some r) ∧ Aside0 (kq ≤ k) ∧ Drawn0 w w')
    case atStart => exact ⟨(0), (by first | rfl | (simp; done) | (simp [*]; done)), H', ⟨Nat.le_refl _⟩, by repeat (first | exact Drawn0.refl _ | apply Drawn0.step)⟩
    case round =>
      clear H'
      try clear c1
      try clear p2
      try clear c3
      try clear c3b0
      try clear c3b1
      try clear c3b2
      obtain ⟨x5_1, rfl, HA, HK1, ⟨m1, rfl⟩⟩ := hrel
      cases gk with
      | zero => exact absurd HA.out (by simp [remontoirkeep_Dues.l0])
      | succ k1 =>
        have H := HA.out
        clear HA
        simp only [remontoirkeep_Dues.l0] at H
        by_cases c4 : x5_1 < (l0.length : Int)
        · rw [if_pos c4] at H
          have c4b0 : decide (x5_1 < (l0.length : Int)) = true := decide_eq_true c4
          clear c4
          by_cases c5 : 0 ≤ x5_1
          · rw [if_pos c5] at H
            have c5b0 : decide (0 ≤ x5_1) = true := decide_eq_true c5
            clear c5
            by_cases c6 : x5_1 < (l1.length : Int)
            · rw [if_pos c6] at H
              have c6b0 : decide (x5_1 < (l1.length : Int)) = true := decide_eq_true c6
              clear c6
              by_cases c7 : (!(((rd_T32 l0 x5_1).f0) == ((rd_T32 l1 x5_1).f0)) || (!(((rd_T32 l0 x5_1).f1) == ((rd_T32 l1 x5_1).f1)))) = true
              · rw [if_pos c7] at H
                have c7b0 : (!(((rd_T32 l0 x5_1).f0) == ((rd_T32 l1 x5_1).f0)) || (!(((rd_T32 l0 x5_1).f1) == ((rd_T32 l1 x5_1).f1)))) = true := c7
                clear c7
                obtain rfl := Option.some.inj H
                have p141 : 0 ≤ (x5_1 : Int) := of_decide_eq_true (by first | (with_reducible assumption) | assumption)
                have q141 : x5_1 < (l0.length : Int) := of_decide_eq_true (by first | (with_reducible assumption) | assumption)
                obtain ⟨ad141, e141, hx141_0, hx141_1⟩ := at_T32 HR0.out x5_1 p141 q141
                cases e141
                replace p141 := eq_true p141
                replace q141 := eq_true q141
                have p142 : 0 ≤ (x5_1 : Int) := of_decide_eq_true (by first | (with_reducible assumption) | assumption)
                have q142 : x5_1 < (l1.length : Int) := of_decide_eq_true (by first | (with_reducible assumption) | assumption)
                obtain ⟨ad142, e142, hx142_0, hx142_1⟩ := at_T32 HR1.out x5_1 p142 q142
                cases e142
                replace p142 := eq_true p142
                replace q142 := eq_true q142
                go_wp2
                repeat (go_quiet (fail); try go_wp2)
                go_ret
                exact ⟨by first | rfl | (simp; done) | (simp [*]; done), by repeat (first | exact Drawn0.refl _ | apply Drawn0.step)⟩
              · rw [if_neg c7] at H
                have c7b0 : (!(((rd_T32 l0 x5_1).f0) == ((rd_T32 l1 x5_1).f0)) || (!(((rd_T32 l0 x5_1).f1) == ((rd_T32 l1 x5_1).f1)))) = false := by simpa using c7
                clear c7
                have H' := Aside0.mk H
                clear H
                have p141 : 0 ≤ (x5_1 : Int) := of_decide_eq_true (by first | (with_reducible assumption) | assumption)
                have q141 : x5_1 < (l0.length : Int) := of_decide_eq_true (by first | (with_reducible assumption) | assumption)
                obtain ⟨ad141, e141, hx141_0, hx141_1⟩ := at_T32 HR0.out x5_1 p141 q141
                cases e141
                replace p141 := eq_true p141
                replace q141 := eq_true q141
                have p142 : 0 ≤ (x5_1 : Int) := of_decide_eq_true (by first | (with_reducible assumption) | assumption)
                have q142 : x5_1 < (l1.length : Int) := of_decide_eq_true (by first | (with_reducible assumption) | assumption)
                obtain ⟨ad142, e142, hx142_0, hx142_1⟩ := at_T32 HR1.out x5_1 p142 q142
                cases e142
                replace p142 := eq_true p142
                replace q142 := eq_true q142
                go_wp2
                repeat (go_quiet (fail); try go_wp2)
                go_roundg k1
                case measure => have := HK1.out; omega
                case rel => exact ⟨(wrap64 (x5_1 + 1)), (by first | rfl | (simp; done) | (simp [*]; done)), H', ⟨by have := HK1.out; omega⟩, by repeat (first | exact Drawn0.refl _ | apply Drawn0.step)⟩
            · rw [if_neg c6] at H
              exact absurd H (by simp)
          · rw [if_neg c5] at H
            exact absurd H (by simp)
        · rw [if_neg c4] at H
          have c4b0 : decide (x5_1 < (l0.length : Int)) = false := decide_eq_false c4
          clear c4
          obtain rfl := Option.some.inj H
          go_wp2
          repeat (go_quiet (fail); try go_wp2)
          go_ret
          exact ⟨by first | rfl | (simp; done) | (simp [*]; done), by repeat (first | exact Drawn0.refl _ | apply Drawn0.step)⟩
  · rw [if_neg c3] at H
    have c3b0 : ((l0.length : Int) == (l1.length : Int)) = false := beq_eq_false_iff_ne.mpr c3
    have c3b1 : ((l0.length : Int) != (l1.length : Int)) = true := bne_iff_ne.mpr c3
    have c3b2 : (l0.length == l1.length) = false := by first | simpa using c3 | (simp at c3 ⊢; omega)
    obtain rfl := Option.some.inj H
    go_enter Try.func9, Try.ntmps9
    go_wp2
    repeat (go_quiet (fail); try go_wp2)
    go_ret
    exact ⟨by first | rfl | (simp; done) | (simp [*]; done), by repeat (first | exact Drawn0.refl _ | apply Drawn0.step)⟩

/-! ### remontoirlaw07_PlanSplits: function 3 -/
def remontoirlaw07_PlanSplits.j0 : Nat → List (S32) → List (S32) → List (S32) → List (S32) → List (S32) → Bool → Option (Bool)
  | 0, _, _, _, _, _, _ => none
  | k + 1, x0, x9, x11, x13, x14, x66 => if x66 = true then (none) else ((plan_Good.f x0).bind fun t163 => (if t163 = true then ((plan_Good.f x13).bind fun t164 => (if t164 = true then ((plan_Good.f x14).bind fun t165 => (if t165 = true then ((some (([] : List (S32)) : List (S32))).bind fun y166 => (if y166.length + x9.length < 8796093022208 then ((some (y166 ++ x9 : List (S32))).bind fun y169 => (if y169.length + x11.length < 8796093022208 then ((remontoirkeep_Dues.f k (y169 ++ x11) x13).bind fun t175 => (if t175 = true then ((some (([] : List (S32)) : List (S32))).bind fun y176 => (if y176.length + x13.length < 8796093022208 then ((some (y176 ++ x13 : List (S32))).bind fun y179 => (if y179.length + x14.length < 8796093022208 then ((remontoirkeep_Dues.f k (y179 ++ x14) x0).bind fun t185 => (if t185 = true then ((remontoirlaw07_wakes.f k).bind fun t186 => (some t186)) else (none))) else (none))) else (none))) else (none))) else (none))) else (none))) else (none))) else (none))) else ((remontoirlaw07_wakes.f k).bind fun t187 => (some t187))))
def remontoirlaw07_PlanSplits.f (k : Nat) (l0 : List (S32)) (a1 : Int) (a2 : Int) : Option (Bool) := if (l0.length : Int) > 60 then ((remontoirlaw07_wakes.f k).bind fun t143 => (some t143)) else ((plan_Split.f k l0 (mn a1 a2)).bind fun bt144 => ((plan_Split.f k bt144.2 (mx a1 a2)).bind fun bt150 => ((plan_Split.f k l0 (mx a1 a2)).bind fun bt156 => (if (wrap64 ((bt144.1.length : Int) + (bt150.1.length : Int))) = (bt156.1.length : Int) then ((remontoirkeep_Dues.f k bt150.2 bt156.2).bind fun t162 => (if t162 = true then (remontoirlaw07_PlanSplits.j0 k l0 bt144.1 bt150.1 bt156.1 bt156.2 ((wrap64 ((bt156.1.length : Int) + (bt156.2.length : Int))) != (l0.length : Int))) else (remontoirlaw07_PlanSplits.j0 k l0 bt144.1 bt150.1 bt156.1 bt156.2 true))) else (remontoirlaw07_PlanSplits.j0 k l0 bt144.1 bt150.1 bt156.1 bt156.2 true)))))
theorem remontoirlaw07_PlanSplits.mono_l : ∀ k, (∀ y0 y1 y2 y3 y4 y5, LeO (remontoirlaw07_PlanSplits.j0 k y0 y1 y2 y3 y4 y5) (remontoirlaw07_PlanSplits.j0 (k + 1) y0 y1 y2 y3 y4 y5))
  | 0 => fun _ _ _ _ _ _ r h => by simp [remontoirlaw07_PlanSplits.j0] at h
  | k + 1 => by
    have ih0 := remontoirlaw07_PlanSplits.mono_l k
    · intro y0 y1 y2 y3 y4 y5
      unfold remontoirlaw07_PlanSplits.j0
      repeat' first
      | (with_reducible exact ih0 _ _ _ _ _ _)
      | (with_reducible exact plan_Split.mono _ _ _)
      | (with_reducible exact remontoirkeep_Dues.mono _ _ _)
      | (with_reducible exact remontoirlaw07_wakes.mono _)
      | (with_reducible exact LeO.refl _)
      | (with_reducible exact LeO.none _)
      | (with_reducible refine LeO.ite ?_ ?_)
      | (with_reducible refine LeO.bind ?_ (fun _ => ?_))
      | exact ih0 _ _ _ _ _ _
      | exact plan_Split.mono _ _ _
      | exact remontoirkeep_Dues.mono _ _ _
      | exact remontoirlaw07_wakes.mono _
      | exact LeO.none _
      | refine LeO.ite ?_ ?_
      | refine LeO.bind ?_ (fun _ => ?_)
theorem remontoirlaw07_PlanSplits.mono : ∀ a0 a1 a2 k, LeO (remontoirlaw07_PlanSplits.f k a0 a1 a2) (remontoirlaw07_PlanSplits.f (k + 1) a0 a1 a2) := by
  intro a0 a1 a2 k
  have ih0 := remontoirlaw07_PlanSplits.mono_l k
  unfold remontoirlaw07_PlanSplits.f
  repeat' first
      | (with_reducible exact ih0 _ _ _ _ _ _)
      | (with_reducible exact plan_Split.mono _ _ _)
      | (with_reducible exact remontoirkeep_Dues.mono _ _ _)
      | (with_reducible exact remontoirlaw07_wakes.mono _)
      | (with_reducible exact LeO.refl _)
      | (with_reducible exact LeO.none _)
      | (with_reducible refine LeO.ite ?_ ?_)
      | (with_reducible refine LeO.bind ?_ (fun _ => ?_))
      | exact ih0 _ _ _ _ _ _
      | exact plan_Split.mono _ _ _
      | exact remontoirkeep_Dues.mono _ _ _
      | exact remontoirlaw07_wakes.mono _
      | exact LeO.none _
      | refine LeO.ite ?_ ?_
      | refine LeO.bind ?_ (fun _ => ?_)
set_option maxHeartbeats 8000000 in
set_option maxRecDepth 100000 in
theorem remontoirlaw07_PlanSplits.calls (k : Nat) (A0 : Option Addr) (c0 : Nat) (l0 : List (S32)) (a1 : Int) (a2 : Int) (r : Bool) (w : World) (hr0 : Kd.C k32 w A0 l0.length l0) (hc0 : l0.length ≤ c0) (h : remontoirlaw07_PlanSplits.f k l0 a1 a2 = some r) (hT0 : TabOk w) :
    Calls Try.prog 3 #[.slice A0 l0.length c0, .int .u64 a1, .int .u64 a2] w fun e w' => e = .returned (.bool r) ∧ Below w.heap.size w w' := by
  have HT0 := Aside0.mk hT0
  clear hT0
  have HR0 := Aside0.mk hr0
  have HC0 := Aside0.mk hc0
  clear hr0 hc0
  have HB := Aside0.mk (Below.refl w.heap.size w)
  have H : (if (l0.length : Int) > 60 then ((remontoirlaw07_wakes.f k).bind fun t143 => (some t143)) else ((plan_Split.f k l0 (mn a1 a2)).bind fun bt144 => ((plan_Split.f k bt144.2 (mx a1 a2)).bind fun bt150 => ((plan_Split.f k l0 (mx a1 a2)).bind fun bt156 => (if (wrap64 ((bt144.1.length : Int) + (bt150.1.length : Int))) = (bt156.1.length : Int) then ((remontoirkeep_Dues.f k bt150.2 bt156.2).bind fun t162 => (if t162 = true then (remontoirlaw07_PlanSplits.j0 k l0 bt144.1 bt150.1 bt156.1 bt156.2 ((wrap64 ((bt156.1.length : Int) + (bt156.2.length : Int))) != (l0.length : Int))) else (remontoirlaw07_PlanSplits.j0 k l0 bt144.1 bt150.1 bt156.1 bt156.2 true))) else (remontoirlaw07_PlanSplits.j0 k l0 bt144.1 bt150.1 bt156.1 bt156.2 true)))))) = some r := h
  clear h
  by_cases c4 : (l0.length : Int) > 60
  · rw [if_pos c4] at H
    have c4b0 : decide (60 < (l0.length : Int)) = true := decide_eq_true c4
    have c4b1 : decide (60 < l0.length) = true := decide_eq_true (by omega)
    clear c4
    replace H := Option.bind_eq_some_iff.mp H
    obtain ⟨t143, A50, H⟩ := H
    replace H : (some t143) = some r := H
    have A5 := Aside0.mk A50
    clear A50
    obtain rfl := Option.some.inj H
    go_enter Try.func3, Try.ntmps3
    go_wp2_with (first | ((with_reducible refine gate_callee (f := 7) rfl ?_); refine goesL_ (some 18) rfl rfl Try.func7 (by kernel_rfl) rfl #[] rfl (by (try simp only [List.map_toArray, List.map_cons, List.map_nil]); first | done | rfl | (simp only [List.length_drop, List.length_take]; rfl)) ?_; (with_reducible refine (remontoirlaw07_wakes.calls k  t143 _ A5.out (TabOk.below HT0.out (by repeat (first | (with_reducible first | exact HB.out | apply below_alloc | apply pw_below_drewN | apply below_drew1) | exact HB.out)))).mono ?_); rintro e w6 ⟨rfl, hb⟩; refine ⟨_, rfl, ?_⟩; have n0_ := Aside0.mk (below_step (by repeat (first | (with_reducible first | exact HB.out | apply below_alloc | apply pw_below_drewN | apply below_drew1) | exact HB.out)) hb); clear HB; have HB := n0_; clear n0_; (try clear hb); (try clear hb2); (try clear hk); (try clear hi)))
    go_ret
    exact ⟨by first | rfl | (simp [errW_none, errW_some] <;> rfl) | (simp [*, errW_none, errW_some] <;> rfl), by repeat (first | (with_reducible first | exact HB.out | apply below_alloc | apply pw_below_drewN | apply below_drew1) | exact HB.out)⟩
  · rw [if_neg c4] at H
    have c4b0 : decide (60 < (l0.length : Int)) = false := decide_eq_false c4
    have c4b1 : decide (60 < l0.length) = false := decide_eq_false (by omega)
    clear c4
    obtain ⟨ji7, hji7⟩ : ∃ j_ : Int, (mn a1 a2) = j_ := ⟨_, rfl⟩
    replace H : ((plan_Split.f k l0 (ji7)).bind fun bt144 => ((plan_Split.f k bt144.2 (mx a1 a2)).bind fun bt150 => ((plan_Split.f k l0 (mx a1 a2)).bind fun bt156 => (if (wrap64 ((bt144.1.length : Int) + (bt150.1.length : Int))) = (bt156.1.length : Int) then ((remontoirkeep_Dues.f k bt150.2 bt156.2).bind fun t162 => (if t162 = true then (remontoirlaw07_PlanSplits.j0 k l0 bt144.1 bt150.1 bt156.1 bt156.2 ((wrap64 ((bt156.1.length : Int) + (bt156.2.length : Int))) != (l0.length : Int))) else (remontoirlaw07_PlanSplits.j0 k l0 bt144.1 bt150.1 bt156.1 bt156.2 true))) else (remontoirlaw07_PlanSplits.j0 k l0 bt144.1 bt150.1 bt156.1 bt156.2 true))))) = some r := by first | (rw [hji7] at H; exact H) | (simp only [hji7] at H ⊢; exact H)
    have hji7_ : (if a2 < a1 then a2 else a1) = ji7 := hji7
    obtain ⟨ji8, hji8⟩ : ∃ j_ : Int, (mx a1 a2) = j_ := ⟨_, rfl⟩
    replace H : ((plan_Split.f k l0 (ji7)).bind fun bt144 => ((plan_Split.f k bt144.2 (ji8)).bind fun bt150 => ((plan_Split.f k l0 (ji8)).bind fun bt156 => (if (wrap64 ((bt144.1.length : Int) + (bt150.1.length : Int))) = (bt156.1.length : Int) then ((remontoirkeep_Dues.f k bt150.2 bt156.2).bind fun t162 => (if t162 = true then (remontoirlaw07_PlanSplits.j0 k l0 bt144.1 bt150.1 bt156.1 bt156.2 ((wrap64 ((bt156.1.length : Int) + (bt156.2.length : Int))) != (l0.length : Int))) else (remontoirlaw07_PlanSplits.j0 k l0 bt144.1 bt150.1 bt156.1 bt156.2 true))) else (remontoirlaw07_PlanSplits.j0 k l0 bt144.1 bt150.1 bt156.1 bt156.2 true))))) = some r := by first | (rw [hji8] at H; exact H) | (simp only [hji8] at H ⊢; exact H)
    have hji8_ : (if a1 < a2 then a2 else a1) = ji8 := hji8
    replace H := Option.bind_eq_some_iff.mp H
    obtain ⟨⟨t144, t145⟩, A90, H⟩ := H
    replace H : ((plan_Split.f k t145 (ji8)).bind fun bt150 => ((plan_Split.f k l0 (ji8)).bind fun bt156 => (if (wrap64 ((t144.length : Int) + (bt150.1.length : Int))) = (bt156.1.length : Int) then ((remontoirkeep_Dues.f k bt150.2 bt156.2).bind fun t162 => (if t162 = true then (remontoirlaw07_PlanSplits.j0 k l0 t144 bt150.1 bt156.1 bt156.2 ((wrap64 ((bt156.1.length : Int) + (bt156.2.length : Int))) != (l0.length : Int))) else (remontoirlaw07_PlanSplits.j0 k l0 t144 bt150.1 bt156.1 bt156.2 true))) else (remontoirlaw07_PlanSplits.j0 k l0 t144 bt150.1 bt156.1 bt156.2 true)))) = some r := H
    have A9 := Aside0.mk A90
    clear A90
    replace H := Option.bind_eq_some_iff.mp H
    obtain ⟨⟨t150, t151⟩, A100, H⟩ := H
    replace H : ((plan_Split.f k l0 (ji8)).bind fun bt156 => (if (wrap64 ((t144.length : Int) + (t150.length : Int))) = (bt156.1.length : Int) then ((remontoirkeep_Dues.f k t151 bt156.2).bind fun t162 => (if t162 = true then (remontoirlaw07_PlanSplits.j0 k l0 t144 t150 bt156.1 bt156.2 ((wrap64 ((bt156.1.length : Int) + (bt156.2.length : Int))) != (l0.length : Int))) else (remontoirlaw07_PlanSplits.j0 k l0 t144 t150 bt156.1 bt156.2 true))) else (remontoirlaw07_PlanSplits.j0 k l0 t144 t150 bt156.1 bt156.2 true))) = some r := H
    have A10 := Aside0.mk A100
    clear A100
    replace H := Option.bind_eq_some_iff.mp H
    obtain ⟨⟨t156, t157⟩, A110, H⟩ := H
    replace H : (if (wrap64 ((t144.length : Int) + (t150.length : Int))) = (t156.length : Int) then ((remontoirkeep_Dues.f k t151 t157).bind fun t162 => (if t162 = true then (remontoirlaw07_PlanSplits.j0 k l0 t144 t150 t156 t157 ((wrap64 ((t156.length : Int) + (t157.length : Int))) != (l0.length : Int))) else (remontoirlaw07_PlanSplits.j0 k l0 t144 t150 t156 t157 true))) else (remontoirlaw07_PlanSplits.j0 k l0 t144 t150 t156 t157 true)) = some r := H
    have A11 := Aside0.mk A110
    clear A110
    have HC12 := Aside0.mk H
    clear H
    go_enter Try.func3, Try.ntmps3
    go_upto_region 7 with (first | ((with_reducible refine gate_callee (f := 8) rfl ?_); refine goesL_ (some 28) rfl rfl Try.func8 (by kernel_rfl) rfl #[.slice A0 l0.length c0, .int .u64 ji7] rfl (by (try simp only [List.map_toArray, List.map_cons, List.map_nil]); first | done | (simp only [hji7]; rfl) | rfl | (simp only [List.length_drop, List.length_take]; rfl)) ?_; (with_reducible refine (plan_Split.calls k _ _ l0 ji7 t144 t145 _ ?side1 ?side2 A9.out).mono ?_); (case side1 => repeat (first | exact HR0.out | (with_reducible refine Kd.C_alloc ?_ _) | (with_reducible refine Kd.C_drewN ?_ _) | (with_reducible refine Kd.C_drew ?_))); (case side2 => exact HC0.out); rintro e w13 ⟨v146, v148, rfl, ho0, ho1, hb⟩; refine ⟨_, rfl, ?_⟩; have n0_ := Aside0.mk (Kd.R_lower ho0 (below_size (by repeat (first | (with_reducible first | exact HB.out | apply below_alloc | apply pw_below_drewN | apply below_drew1) | exact HB.out)))); have n1_ := Aside0.mk (Kd.R_lower ho1 (below_size (by repeat (first | (with_reducible first | exact HB.out | apply below_alloc | apply pw_below_drewN | apply below_drew1) | exact HB.out)))); have n2_ := Aside0.mk (below_step (by repeat (first | (with_reducible first | exact HB.out | apply below_alloc | apply pw_below_drewN | apply below_drew1) | exact HB.out)) hb); clear HB; have HO147 := n0_; have HO149 := n1_; have HB := n2_; clear n0_ n1_ n2_; (try clear hb); (try clear hb2); (try clear hk); (try clear hi); (try clear ho0); (try clear ho1); obtain ⟨Ao14, co14, eo14⟩ := Kd.R_slice HO149.out; subst eo14) | ((with_reducible refine gate_callee (f := 8) rfl ?_); refine goesL_ (some 34) rfl rfl Try.func8 (by kernel_rfl) rfl #[.slice Ao14 t145.length co14, .int .u64 ji8] rfl (by (try simp only [List.map_toArray, List.map_cons, List.map_nil]); first | done | (simp only [hji8]; rfl) | rfl | (simp only [List.length_drop, List.length_take]; rfl)) ?_; (with_reducible refine (plan_Split.calls k _ _ t145 ji8 t150 t151 _ ?side1 ?side2 A10.out).mono ?_); (case side1 => repeat (first | exact (Kd.R_reads' HO149.out).2.2 | (with_reducible refine Kd.C_alloc ?_ _) | (with_reducible refine Kd.C_drewN ?_ _) | (with_reducible refine Kd.C_drew ?_))); (case side2 => exact (Kd.R_reads' HO149.out).2.1); rintro e w15 ⟨v152, v154, rfl, ho0, ho1, hb⟩; refine ⟨_, rfl, ?_⟩; have n0_ := Aside0.mk (Kd.R_mono (Kd.R_told (Kd.R_told (Kd.R_old (by (with_reducible repeat (first | apply Kd.R_alloc | apply Kd.R_drewN | apply Kd.R_drew)); exact HO147.out) hb) (Kd.R_base ho0)) (Kd.R_base ho1)) (fun _ h_ => h_.1)); have n1_ := Aside0.mk (Kd.R_mono (Kd.R_told (Kd.R_told (Kd.R_old (by (with_reducible repeat (first | apply Kd.R_alloc | apply Kd.R_drewN | apply Kd.R_drew)); exact HO149.out) hb) (Kd.R_base ho0)) (Kd.R_base ho1)) (fun _ h_ => h_.1)); have n2_ := Aside0.mk (Kd.R_lower (Kd.R_new' (Kd.R_new' ho0 (Kd.R_lt (by (with_reducible repeat (first | apply Kd.R_alloc | apply Kd.R_drewN | apply Kd.R_drew)); exact HO147.out))) (Kd.R_lt (by (with_reducible repeat (first | apply Kd.R_alloc | apply Kd.R_drewN | apply Kd.R_drew)); exact HO149.out))) (below_size (by repeat (first | (with_reducible first | exact HB.out | apply below_alloc | apply pw_below_drewN | apply below_drew1) | exact HB.out)))); have n3_ := Aside0.mk (Kd.R_lower (Kd.R_new' (Kd.R_new' ho1 (Kd.R_lt (by (with_reducible repeat (first | apply Kd.R_alloc | apply Kd.R_drewN | apply Kd.R_drew)); exact HO147.out))) (Kd.R_lt (by (with_reducible repeat (first | apply Kd.R_alloc | apply Kd.R_drewN | apply Kd.R_drew)); exact HO149.out))) (below_size (by repeat (first | (with_reducible first | exact HB.out | apply below_alloc | apply pw_below_drewN | apply below_drew1) | exact HB.out)))); have n4_ := Aside0.mk (below_step (by repeat (first | (with_reducible first | exact HB.out | apply below_alloc | apply pw_below_drewN | apply below_drew1) | exact HB.out)) hb); clear HO147; clear HO149; clear HB; have HO147 := n0_; have HO149 := n1_; have HO153 := n2_; have HO155 := n3_; have HB := n4_; clear n0_ n1_ n2_ n3_ n4_; (try clear hb); (try clear hb2); (try clear hk); (try clear hi); (try clear ho0); (try clear ho1)) | ((with_reducible refine gate_callee (f := 8) rfl ?_); refine goesL_ (some 40) rfl rfl Try.func8 (by kernel_rfl) rfl #[.slice A0 l0.length c0, .int .u64 ji8] rfl (by (try simp only [List.map_toArray, List.map_cons, List.map_nil]); first | done | (simp only [hji8]; rfl) | rfl | (simp only [List.length_drop, List.length_take]; rfl)) ?_; (with_reducible refine (plan_Split.calls k _ _ l0 ji8 t156 t157 _ ?side1 ?side2 A11.out).mono ?_); (case side1 => repeat (first | exact (Kd.C_below HR0.out HB.out) | (with_reducible refine Kd.C_alloc ?_ _) | (with_reducible refine Kd.C_drewN ?_ _) | (with_reducible refine Kd.C_drew ?_))); (case side2 => exact HC0.out); rintro e w16 ⟨v158, v160, rfl, ho0, ho1, hb⟩; refine ⟨_, rfl, ?_⟩; have n0_ := Aside0.mk (Kd.R_mono (Kd.R_told (Kd.R_told (Kd.R_old (by (with_reducible repeat (first | apply Kd.R_alloc | apply Kd.R_drewN | apply Kd.R_drew)); exact HO147.out) hb) (Kd.R_base ho0)) (Kd.R_base ho1)) (fun _ h_ => h_.1)); have n1_ := Aside0.mk (Kd.R_mono (Kd.R_told (Kd.R_told (Kd.R_old (by (with_reducible repeat (first | apply Kd.R_alloc | apply Kd.R_drewN | apply Kd.R_drew)); exact HO149.out) hb) (Kd.R_base ho0)) (Kd.R_base ho1)) (fun _ h_ => h_.1)); have n2_ := Aside0.mk (Kd.R_mono (Kd.R_told (Kd.R_told (Kd.R_old (by (with_reducible repeat (first | apply Kd.R_alloc | apply Kd.R_drewN | apply Kd.R_drew)); exact HO153.out) hb) (Kd.R_base ho0)) (Kd.R_base ho1)) (fun _ h_ => h_.1)); have n3_ := Aside0.mk (Kd.R_mono (Kd.R_told (Kd.R_told (Kd.R_old (by (with_reducible repeat (first | apply Kd.R_alloc | apply Kd.R_drewN | apply Kd.R_drew)); exact HO155.out) hb) (Kd.R_base ho0)) (Kd.R_base ho1)) (fun _ h_ => h_.1)); have n4_ := Aside0.mk (Kd.R_lower (Kd.R_new' (Kd.R_new' (Kd.R_new' (Kd.R_new' ho0 (Kd.R_lt (by (with_reducible repeat (first | apply Kd.R_alloc | apply Kd.R_drewN | apply Kd.R_drew)); exact HO147.out))) (Kd.R_lt (by (with_reducible repeat (first | apply Kd.R_alloc | apply Kd.R_drewN | apply Kd.R_drew)); exact HO149.out))) (Kd.R_lt (by (with_reducible repeat (first | apply Kd.R_alloc | apply Kd.R_drewN | apply Kd.R_drew)); exact HO153.out))) (Kd.R_lt (by (with_reducible repeat (first | apply Kd.R_alloc | apply Kd.R_drewN | apply Kd.R_drew)); exact HO155.out))) (below_size (by repeat (first | (with_reducible first | exact HB.out | apply below_alloc | apply pw_below_drewN | apply below_drew1) | exact HB.out)))); have n5_ := Aside0.mk (Kd.R_lower (Kd.R_new' (Kd.R_new' (Kd.R_new' (Kd.R_new' ho1 (Kd.R_lt (by (with_reducible repeat (first | apply Kd.R_alloc | apply Kd.R_drewN | apply Kd.R_drew)); exact HO147.out))) (Kd.R_lt (by (with_reducible repeat (first | apply Kd.R_alloc | apply Kd.R_drewN | apply Kd.R_drew)); exact HO149.out))) (Kd.R_lt (by (with_reducible repeat (first | apply Kd.R_alloc | apply Kd.R_drewN | apply Kd.R_drew)); exact HO153.out))) (Kd.R_lt (by (with_reducible repeat (first | apply Kd.R_alloc | apply Kd.R_drewN | apply Kd.R_drew)); exact HO155.out))) (below_size (by repeat (first | (with_reducible first | exact HB.out | apply below_alloc | apply pw_below_drewN | apply below_drew1) | exact HB.out)))); have n6_ := Aside0.mk (below_step (by repeat (first | (with_reducible first | exact HB.out | apply below_alloc | apply pw_below_drewN | apply below_drew1) | exact HB.out)) hb); clear HO147; clear HO149; clear HO153; clear HO155; clear HB; have HO147 := n0_; have HO149 := n1_; have HO153 := n2_; have HO155 := n3_; have HO159 := n4_; have HO161 := n5_; have HB := n6_; clear n0_ n1_ n2_ n3_ n4_ n5_ n6_; (try clear hb); (try clear hb2); (try clear hk); (try clear hi); (try clear ho0); (try clear ho1)))
    (try simp only [Act.put, List.setIfInBounds_toArray, List.set_cons_zero, List.set_cons_succ])
    go_cut [66] (fun v66 wc => ∃ (kq : Nat) (x66_11 : Bool), v66 = .bool x66_11 ∧ Aside0 (remontoirlaw07_PlanSplits.j0 kq l0 t144 t150 t156 t157 x66_11 = some r) ∧ Aside0 (kq ≤ k) ∧ Aside0 (Kd.R k32 32 wc w.heap.size (fun k_ => some k_ ≠ (v152 : Value).ownBlock ∧ some k_ ≠ (v158 : Value).ownBlock ∧ some k_ ≠ (v160 : Value).ownBlock) v146 t144) ∧ Aside0 (Kd.R k32 32 wc w.heap.size (fun k_ => some k_ ≠ (v146 : Value).ownBlock ∧ some k_ ≠ (v158 : Value).ownBlock ∧ some k_ ≠ (v160 : Value).ownBlock) v152 t150) ∧ Aside0 (Kd.R k32 32 wc w.heap.size (fun k_ => some k_ ≠ (v146 : Value).ownBlock ∧ some k_ ≠ (v152 : Value).ownBlock ∧ some k_ ≠ (v160 : Value).ownBlock) v158 t156) ∧ Aside0 (Kd.R k32 32 wc w.heap.size (fun k_ => some k_ ≠ (v146 : Value).ownBlock ∧ some k_ ≠ (v152 : Value).ownBlock ∧ some k_ ≠ (v158 : Value).ownBlock) v160 t157) ∧ Aside0 (Below w.heap.size w wc))
    case first =>
      have H := HC12.out
      clear HC12
      by_cases c17 : (wrap64 ((t144.length : Int) + (t150.length : Int))) = (t156.length : Int)
      · rw [if_pos c17] at H
        have c17b0 : ((wrap64 ((t144.length : Int) + (t150.length : Int))) == (t156.length : Int)) = true := beq_iff_eq.mpr c17
        have c17b1 : ((wrap64 ((t144.length : Int) + (t150.length : Int))) != (t156.length : Int)) = false := bne_eq_false_iff_eq.mpr c17
        clear c17
        (first | rw [c17b0] | (simp only [i64_w, i32_w]; rw [c17b0]) | skip)
        replace H := Option.bind_eq_some_iff.mp H
        obtain ⟨t162, A180, H⟩ := H
        replace H : (if t162 = true then (remontoirlaw07_PlanSplits.j0 k l0 t144 t150 t156 t157 ((wrap64 ((t156.length : Int) + (t157.length : Int))) != (l0.length : Int))) else (remontoirlaw07_PlanSplits.j0 k l0 t144 t150 t156 t157 true)) = some r := H
        have A18 := Aside0.mk A180
        clear A180
        by_cases c19 : t162 = true
        · subst c19
          have H1 : (remontoirlaw07_PlanSplits.j0 k l0 t144 t150 t156 t157 ((wrap64 ((t156.length : Int) + (t157.length : Int))) != (l0.length : Int))) = some r := by rw [if_pos rfl] at H; exact H
          clear H
          have H := H1
          clear H1
          have H' := Aside0.mk H
          clear H
          obtain ⟨Ao20, co20, eo20⟩ := Kd.R_slice HO147.out
          subst eo20
          obtain ⟨Ao21, co21, eo21⟩ := Kd.R_slice HO153.out
          subst eo21
          obtain ⟨Ao22, co22, eo22⟩ := Kd.R_slice HO159.out
          subst eo22
          obtain ⟨Ao23, co23, eo23⟩ := Kd.R_slice HO155.out
          subst eo23
          obtain ⟨Ao24, co24, eo24⟩ := Kd.R_slice HO161.out
          subst eo24
          go_wp2_with (first | (go_at_call 9; (with_reducible refine (remontoirkeep_Dues.calls k _ _ t151 _ _ t157 true _ ?side1 ?side2 ?side3 ?side4 A18.out).mono ?_); (case side1 => repeat (first | exact (Kd.R_reads' HO155.out).2.2 | (with_reducible refine Kd.C_alloc ?_ _) | (with_reducible refine Kd.C_drewN ?_ _) | (with_reducible refine Kd.C_drew ?_))); (case side2 => exact (Kd.R_reads' HO155.out).2.1); (case side3 => repeat (first | exact (Kd.R_reads' HO161.out).2.2 | (with_reducible refine Kd.C_alloc ?_ _) | (with_reducible refine Kd.C_drewN ?_ _) | (with_reducible refine Kd.C_drew ?_))); (case side4 => exact (Kd.R_reads' HO161.out).2.1); rintro e w' ⟨rfl, ⟨nd, rfl⟩⟩))
          go_meet
          case rel => exact ⟨_, (((wrap64 ((t156.length : Int) + (t157.length : Int))) != (l0.length : Int))), (by first | rfl | (simp; done) | (simp [*]; done)), H', ⟨by first | omega | exact Nat.le_refl _⟩, ⟨by (with_reducible repeat (first | apply Kd.R_alloc | apply Kd.R_drewN | apply Kd.R_drew)); exact Kd.R_mono HO147.out (fun _ hk => ⟨hk.1.1.1.2, ⟨hk.1.2, hk.2⟩⟩)⟩, ⟨by (with_reducible repeat (first | apply Kd.R_alloc | apply Kd.R_drewN | apply Kd.R_drew)); exact Kd.R_mono HO153.out (fun _ hk => ⟨hk.1.1.1.2, ⟨hk.1.2, hk.2⟩⟩)⟩, ⟨by (with_reducible repeat (first | apply Kd.R_alloc | apply Kd.R_drewN | apply Kd.R_drew)); exact Kd.R_mono HO159.out (fun _ hk => ⟨hk.1.1.1.2, ⟨hk.1.2, hk.1.1.1.1⟩⟩)⟩, ⟨by (with_reducible repeat (first | apply Kd.R_alloc | apply Kd.R_drewN | apply Kd.R_drew)); exact Kd.R_mono HO161.out (fun _ hk => ⟨hk.1.1.1.2, ⟨hk.1.2, hk.1.1.1.1⟩⟩)⟩, ⟨by repeat (first | (with_reducible first | exact HB.out | apply below_alloc | apply pw_below_drewN | apply below_drew1) | exact HB.out)⟩⟩
        · replace c19 := Bool.eq_false_iff.mpr c19
          subst c19
          have H1 : (remontoirlaw07_PlanSplits.j0 k l0 t144 t150 t156 t157 true) = some r := by rw [if_neg (show ¬ (false = true) by decide)] at H; exact H
          clear H
          have H := H1
          clear H1
          have H' := Aside0.mk H
          clear H
          obtain ⟨Ao25, co25, eo25⟩ := Kd.R_slice HO147.out
          subst eo25
          obtain ⟨Ao26, co26, eo26⟩ := Kd.R_slice HO153.out
          subst eo26
          obtain ⟨Ao27, co27, eo27⟩ := Kd.R_slice HO159.out
          subst eo27
          obtain ⟨Ao28, co28, eo28⟩ := Kd.R_slice HO155.out
          subst eo28
          obtain ⟨Ao29, co29, eo29⟩ := Kd.R_slice HO161.out
          subst eo29
          go_wp2_with (first | (go_at_call 9; (with_reducible refine (remontoirkeep_Dues.calls k _ _ t151 _ _ t157 false _ ?side1 ?side2 ?side3 ?side4 A18.out).mono ?_); (case side1 => repeat (first | exact (Kd.R_reads' HO155.out).2.2 | (with_reducible refine Kd.C_alloc ?_ _) | (with_reducible refine Kd.C_drewN ?_ _) | (with_reducible refine Kd.C_drew ?_))); (case side2 => exact (Kd.R_reads' HO155.out).2.1); (case side3 => repeat (first | exact (Kd.R_reads' HO161.out).2.2 | (with_reducible refine Kd.C_alloc ?_ _) | (with_reducible refine Kd.C_drewN ?_ _) | (with_reducible refine Kd.C_drew ?_))); (case side4 => exact (Kd.R_reads' HO161.out).2.1); rintro e w' ⟨rfl, ⟨nd, rfl⟩⟩))
          go_meet
          case rel => exact ⟨_, (true), (by first | rfl | (simp; done) | (simp [*]; done)), H', ⟨by first | omega | exact Nat.le_refl _⟩, ⟨by (with_reducible repeat (first | apply Kd.R_alloc | apply Kd.R_drewN | apply Kd.R_drew)); exact Kd.R_mono HO147.out (fun _ hk => ⟨hk.1.1.1.2, ⟨hk.1.2, hk.2⟩⟩)⟩, ⟨by (with_reducible repeat (first | apply Kd.R_alloc | apply Kd.R_drewN | apply Kd.R_drew)); exact Kd.R_mono HO153.out (fun _ hk => ⟨hk.1.1.1.2, ⟨hk.1.2, hk.2⟩⟩)⟩, ⟨by (with_reducible repeat (first | apply Kd.R_alloc | apply Kd.R_drewN | apply Kd.R_drew)); exact Kd.R_mono HO159.out (fun _ hk => ⟨hk.1.1.1.2, ⟨hk.1.2, hk.1.1.1.1⟩⟩)⟩, ⟨by (with_reducible repeat (first | apply Kd.R_alloc | apply Kd.R_drewN | apply Kd.R_drew)); exact Kd.R_mono HO161.out (fun _ hk => ⟨hk.1.1.1.2, ⟨hk.1.2, hk.1.1.1.1⟩⟩)⟩, ⟨by repeat (first | (with_reducible first | exact HB.out | apply below_alloc | apply pw_below_drewN | apply below_drew1) | exact HB.out)⟩⟩
      · rw [if_neg c17] at H
        have c17b0 : ((wrap64 ((t144.length : Int) + (t150.length : Int))) == (t156.length : Int)) = false := beq_eq_false_iff_ne.mpr c17
        have c17b1 : ((wrap64 ((t144.length : Int) + (t150.length : Int))) != (t156.length : Int)) = true := bne_iff_ne.mpr c17
        (first | rw [c17b0] | (simp only [i64_w, i32_w]; rw [c17b0]) | skip)
        have H' := Aside0.mk H
        clear H
        obtain ⟨Ao30, co30, eo30⟩ := Kd.R_slice HO147.out
        subst eo30
        obtain ⟨Ao31, co31, eo31⟩ := Kd.R_slice HO153.out
        subst eo31
        obtain ⟨Ao32, co32, eo32⟩ := Kd.R_slice HO159.out
        subst eo32
        go_wp2
        go_meet
        case rel => exact ⟨_, (true), (by first | rfl | (simp; done) | (simp [*]; done)), H', ⟨by first | omega | exact Nat.le_refl _⟩, ⟨by (with_reducible repeat (first | apply Kd.R_alloc | apply Kd.R_drewN | apply Kd.R_drew)); exact Kd.R_mono HO147.out (fun _ hk => ⟨hk.1.1.1.2, ⟨hk.1.2, hk.2⟩⟩)⟩, ⟨by (with_reducible repeat (first | apply Kd.R_alloc | apply Kd.R_drewN | apply Kd.R_drew)); exact Kd.R_mono HO153.out (fun _ hk => ⟨hk.1.1.1.2, ⟨hk.1.2, hk.2⟩⟩)⟩, ⟨by (with_reducible repeat (first | apply Kd.R_alloc | apply Kd.R_drewN | apply Kd.R_drew)); exact Kd.R_mono HO159.out (fun _ hk => ⟨hk.1.1.1.2, ⟨hk.1.2, hk.1.1.1.1⟩⟩)⟩, ⟨by (with_reducible repeat (first | apply Kd.R_alloc | apply Kd.R_drewN | apply Kd.R_drew)); exact Kd.R_mono HO161.out (fun _ hk => ⟨hk.1.1.1.2, ⟨hk.1.2, hk.1.1.1.1⟩⟩)⟩, ⟨by repeat (first | (with_reducible first | exact HB.out | apply below_alloc | apply pw_below_drewN | apply below_drew1) | exact HB.out)⟩⟩
    case rest =>
      clear HC12
      try clear c1
      try clear p2
      try clear c3
      try clear c4
      try clear c4b0
      try clear c4b1
      try clear p6
      try clear c7
      try clear c8
      try clear c17
      try clear c17b0
      try clear c17b1
      try clear c19
      obtain ⟨kq, x66_11, rfl, HA, HJ11, HO_9, HO_11, HO_13, HO_14, HB⟩ := hcut
      cases kq with
      | zero => exact absurd HA.out (by simp [remontoirlaw07_PlanSplits.j0])
      | succ kj11 =>
        have H := HA.out
        clear HA
        simp only [remontoirlaw07_PlanSplits.j0] at H
        by_cases c33 : x66_11 = true
        · subst c33
          have H1 : (none) = some r := by rw [if_pos rfl] at H; exact H
          clear H
          have H := H1
          clear H1
          exact absurd H (by simp)
        · replace c33 := Bool.eq_false_iff.mpr c33
          subst c33
          have H1 : ((plan_Good.f l0).bind fun t163 => (if t163 = true then ((plan_Good.f t156).bind fun t164 => (if t164 = true then ((plan_Good.f t157).bind fun t165 => (if t165 = true then ((some (([] : List (S32)) : List (S32))).bind fun y166 => (if y166.length + t144.length < 8796093022208 then ((some (y166 ++ t144 : List (S32))).bind fun y169 => (if y169.length + t150.length < 8796093022208 then ((remontoirkeep_Dues.f kj11 (y169 ++ t150) t156).bind fun t175 => (if t175 = true then ((some (([] : List (S32)) : List (S32))).bind fun y176 => (if y176.length + t156.length < 8796093022208 then ((some (y176 ++ t156 : List (S32))).bind fun y179 => (if y179.length + t157.length < 8796093022208 then ((remontoirkeep_Dues.f kj11 (y179 ++ t157) l0).bind fun t185 => (if t185 = true then ((remontoirlaw07_wakes.f kj11).bind fun t186 => (some t186)) else (none))) else (none))) else (none))) else (none))) else (none))) else (none))) else (none))) else (none))) else ((remontoirlaw07_wakes.f kj11).bind fun t187 => (some t187)))) = some r := by rw [if_neg (show ¬ (false = true) by decide)] at H; exact H
          clear H
          have H := H1
          clear H1
          replace H := Option.bind_eq_some_iff.mp H
          obtain ⟨t163, A340, H⟩ := H
          replace H : (if t163 = true then ((plan_Good.f t156).bind fun t164 => (if t164 = true then ((plan_Good.f t157).bind fun t165 => (if t165 = true then ((some (([] : List (S32)) : List (S32))).bind fun y166 => (if y166.length + t144.length < 8796093022208 then ((some (y166 ++ t144 : List (S32))).bind fun y169 => (if y169.length + t150.length < 8796093022208 then ((remontoirkeep_Dues.f kj11 (y169 ++ t150) t156).bind fun t175 => (if t175 = true then ((some (([] : List (S32)) : List (S32))).bind fun y176 => (if y176.length + t156.length < 8796093022208 then ((some (y176 ++ t156 : List (S32))).bind fun y179 => (if y179.length + t157.length < 8796093022208 then ((remontoirkeep_Dues.f kj11 (y179 ++ t157) l0).bind fun t185 => (if t185 = true then ((remontoirlaw07_wakes.f kj11).bind fun t186 => (some t186)) else (none))) else (none))) else (none))) else (none))) else (none))) else (none))) else (none))) else (none))) else ((remontoirlaw07_wakes.f kj11).bind fun t187 => (some t187))) = some r := H
          have A34 := Aside0.mk A340
          clear A340
          by_cases c35 : t163 = true
          · subst c35
            have H1 : ((plan_Good.f t156).bind fun t164 => (if t164 = true then ((plan_Good.f t157).bind fun t165 => (if t165 = true then ((some (([] : List (S32)) : List (S32))).bind fun y166 => (if y166.length + t144.length < 8796093022208 then ((some (y166 ++ t144 : List (S32))).bind fun y169 => (if y169.length + t150.length < 8796093022208 then ((remontoirkeep_Dues.f kj11 (y169 ++ t150) t156).bind fun t175 => (if t175 = true then ((some (([] : List (S32)) : List (S32))).bind fun y176 => (if y176.length + t156.length < 8796093022208 then ((some (y176 ++ t156 : List (S32))).bind fun y179 => (if y179.length + t157.length < 8796093022208 then ((remontoirkeep_Dues.f kj11 (y179 ++ t157) l0).bind fun t185 => (if t185 = true then ((remontoirlaw07_wakes.f kj11).bind fun t186 => (some t186)) else (none))) else (none))) else (none))) else (none))) else (none))) else (none))) else (none))) else (none))) = some r := by rw [if_pos rfl] at H; exact H
            clear H
            have H := H1
            clear H1
            replace H := Option.bind_eq_some_iff.mp H
            obtain ⟨t164, A360, H⟩ := H
            replace H : (if t164 = true then ((plan_Good.f t157).bind fun t165 => (if t165 = true then ((some (([] : List (S32)) : List (S32))).bind fun y166 => (if y166.length + t144.length < 8796093022208 then ((some (y166 ++ t144 : List (S32))).bind fun y169 => (if y169.length + t150.length < 8796093022208 then ((remontoirkeep_Dues.f kj11 (y169 ++ t150) t156).bind fun t175 => (if t175 = true then ((some (([] : List (S32)) : List (S32))).bind fun y176 => (if y176.length + t156.length < 8796093022208 then ((some (y176 ++ t156 : List (S32))).bind fun y179 => (if y179.length + t157.length < 8796093022208 then ((remontoirkeep_Dues.f kj11 (y179 ++ t157) l0).bind fun t185 => (if t185 = true then ((remontoirlaw07_wakes.f kj11).bind fun t186 => (some t186)) else (none))) else (none))) else (none))) else (none))) else (none))) else (none))) else (none))) else (none)) = some r := H
            have A36 := Aside0.mk A360
            clear A360
            by_cases c37 : t164 = true
            · subst c37
              have H1 : ((plan_Good.f t157).bind fun t165 => (if t165 = true then ((some (([] : List (S32)) : List (S32))).bind fun y166 => (if y166.length + t144.length < 8796093022208 then ((some (y166 ++ t144 : List (S32))).bind fun y169 => (if y169.length + t150.length < 8796093022208 then ((remontoirkeep_Dues.f kj11 (y169 ++ t150) t156).bind fun t175 => (if t175 = true then ((some (([] : List (S32)) : List (S32))).bind fun y176 => (if y176.length + t156.length < 8796093022208 then ((some (y176 ++ t156 : List (S32))).bind fun y179 => (if y179.length + t157.length < 8796093022208 then ((remontoirkeep_Dues.f kj11 (y179 ++ t157) l0).bind fun t185 => (if t185 = true then ((remontoirlaw07_wakes.f kj11).bind fun t186 => (some t186)) else (none))) else (none))) else (none))) else (none))) else (none))) else (none))) else (none))) = some r := by rw [if_pos rfl] at H; exact H
              clear H
              have H := H1
              clear H1
              replace H := Option.bind_eq_some_iff.mp H
              obtain ⟨t165, A380, H⟩ := H
              replace H : (if t165 = true then ((some (([] : List (S32)) : List (S32))).bind fun y166 => (if y166.length + t144.length < 8796093022208 then ((some (y166 ++ t144 : List (S32))).bind fun y169 => (if y169.length + t150.length < 8796093022208 then ((remontoirkeep_Dues.f kj11 (y169 ++ t150) t156).bind fun t175 => (if t175 = true then ((some (([] : List (S32)) : List (S32))).bind fun y176 => (if y176.length + t156.length < 8796093022208 then ((some (y176 ++ t156 : List (S32))).bind fun y179 => (if y179.length + t157.length < 8796093022208 then ((remontoirkeep_Dues.f kj11 (y179 ++ t157) l0).bind fun t185 => (if t185 = true then ((remontoirlaw07_wakes.f kj11).bind fun t186 => (some t186)) else (none))) else (none))) else (none))) else (none))) else (none))) else (none))) else (none)) = some r := H
              have A38 := Aside0.mk A380
              clear A380
              by_cases c39 : t165 = true
              · subst c39
                have H1 : ((some (([] : List (S32)) : List (S32))).bind fun y166 => (if y166.length + t144.length < 8796093022208 then ((some (y166 ++ t144 : List (S32))).bind fun y169 => (if y169.length + t150.length < 8796093022208 then ((remontoirkeep_Dues.f kj11 (y169 ++ t150) t156).bind fun t175 => (if t175 = true then ((some (([] : List (S32)) : List (S32))).bind fun y176 => (if y176.length + t156.length < 8796093022208 then ((some (y176 ++ t156 : List (S32))).bind fun y179 => (if y179.length + t157.length < 8796093022208 then ((remontoirkeep_Dues.f kj11 (y179 ++ t157) l0).bind fun t185 => (if t185 = true then ((remontoirlaw07_wakes.f kj11).bind fun t186 => (some t186)) else (none))) else (none))) else (none))) else (none))) else (none))) else (none))) = some r := by rw [if_pos rfl] at H; exact H
                clear H
                have H := H1
                clear H1
                obtain ⟨y166, hy166⟩ : ∃ y_ : List (S32), y_ = (([] : List (S32))) := ⟨_, rfl⟩
                replace H : (if y166.length + t144.length < 8796093022208 then ((some (y166 ++ t144 : List (S32))).bind fun y169 => (if y169.length + t150.length < 8796093022208 then ((remontoirkeep_Dues.f kj11 (y169 ++ t150) t156).bind fun t175 => (if t175 = true then ((some (([] : List (S32)) : List (S32))).bind fun y176 => (if y176.length + t156.length < 8796093022208 then ((some (y176 ++ t156 : List (S32))).bind fun y179 => (if y179.length + t157.length < 8796093022208 then ((remontoirkeep_Dues.f kj11 (y179 ++ t157) l0).bind fun t185 => (if t185 = true then ((remontoirlaw07_wakes.f kj11).bind fun t186 => (some t186)) else (none))) else (none))) else (none))) else (none))) else (none))) else (none)) = some r := by first | (rw [hy166]; with_reducible exact H) | (have H2_ := (Option.bind_some _ _).symm.trans H; rw [hy166]; with_reducible exact H2_) | (have H2_ := (Option.bind_some _ _).symm.trans H; with_reducible exact H2_) | with_reducible exact H | (rw [hy166]; exact H) | exact H
                have Ny166 := Aside0.mk hy166
                clear hy166
                by_cases c40 : y166.length + t144.length < 8796093022208
                · rw [if_pos c40] at H
                  have LMc40 := Aside0.mk c40
                  clear c40
                  obtain ⟨y169, hy169⟩ : ∃ y_ : List (S32), y_ = (y166 ++ t144) := ⟨_, rfl⟩
                  replace H : (if y169.length + t150.length < 8796093022208 then ((remontoirkeep_Dues.f kj11 (y169 ++ t150) t156).bind fun t175 => (if t175 = true then ((some (([] : List (S32)) : List (S32))).bind fun y176 => (if y176.length + t156.length < 8796093022208 then ((some (y176 ++ t156 : List (S32))).bind fun y179 => (if y179.length + t157.length < 8796093022208 then ((remontoirkeep_Dues.f kj11 (y179 ++ t157) l0).bind fun t185 => (if t185 = true then ((remontoirlaw07_wakes.f kj11).bind fun t186 => (some t186)) else (none))) else (none))) else (none))) else (none))) else (none)) = some r := by first | (rw [hy169]; with_reducible exact H) | (have H2_ := (Option.bind_some _ _).symm.trans H; rw [hy169]; with_reducible exact H2_) | (have H2_ := (Option.bind_some _ _).symm.trans H; with_reducible exact H2_) | with_reducible exact H | (rw [hy169]; exact H) | exact H
                  have Ny169 := Aside0.mk hy169
                  clear hy169
                  by_cases c41 : y169.length + t150.length < 8796093022208
                  · rw [if_pos c41] at H
                    have LMc41 := Aside0.mk c41
                    clear c41
                    obtain ⟨y172, hy172⟩ : ∃ y_ : List (S32), y_ = (y169 ++ t150) := ⟨_, rfl⟩
                    replace H : ((remontoirkeep_Dues.f kj11 y172 t156).bind fun t175 => (if t175 = true then ((some (([] : List (S32)) : List (S32))).bind fun y176 => (if y176.length + t156.length < 8796093022208 then ((some (y176 ++ t156 : List (S32))).bind fun y179 => (if y179.length + t157.length < 8796093022208 then ((remontoirkeep_Dues.f kj11 (y179 ++ t157) l0).bind fun t185 => (if t185 = true then ((remontoirlaw07_wakes.f kj11).bind fun t186 => (some t186)) else (none))) else (none))) else (none))) else (none))) = some r := by first | (rw [hy172]; with_reducible exact H) | (have H2_ := (Option.bind_some _ _).symm.trans H; rw [hy172]; with_reducible exact H2_) | (have H2_ := (Option.bind_some _ _).symm.trans H; with_reducible exact H2_) | with_reducible exact H | (rw [hy172]; exact H) | exact H
                    have Ny172 := Aside0.mk hy172
                    clear hy172
                    replace H := Option.bind_eq_some_iff.mp H
                    obtain ⟨t175, A420, H⟩ := H
                    replace H : (if t175 = true then ((some (([] : List (S32)) : List (S32))).bind fun y176 => (if y176.length + t156.length < 8796093022208 then ((some (y176 ++ t156 : List (S32))).bind fun y179 => (if y179.length + t157.length < 8796093022208 then ((remontoirkeep_Dues.f kj11 (y179 ++ t157) l0).bind fun t185 => (if t185 = true then ((remontoirlaw07_wakes.f kj11).bind fun t186 => (some t186)) else (none))) else (none))) else (none))) else (none)) = some r := H
                    have A42 := Aside0.mk A420
                    clear A420
                    by_cases c43 : t175 = true
                    · subst c43
                      have H1 : ((some (([] : List (S32)) : List (S32))).bind fun y176 => (if y176.length + t156.length < 8796093022208 then ((some (y176 ++ t156 : List (S32))).bind fun y179 => (if y179.length + t157.length < 8796093022208 then ((remontoirkeep_Dues.f kj11 (y179 ++ t157) l0).bind fun t185 => (if t185 = true then ((remontoirlaw07_wakes.f kj11).bind fun t186 => (some t186)) else (none))) else (none))) else (none))) = some r := by rw [if_pos rfl] at H; exact H
                      clear H
                      have H := H1
                      clear H1
                      obtain ⟨y176, hy176⟩ : ∃ y_ : List (S32), y_ = (([] : List (S32))) := ⟨_, rfl⟩
                      replace H : (if y176.length + t156.length < 8796093022208 then ((some (y176 ++ t156 : List (S32))).bind fun y179 => (if y179.length + t157.length < 8796093022208 then ((remontoirkeep_Dues.f kj11 (y179 ++ t157) l0).bind fun t185 => (if t185 = true then ((remontoirlaw07_wakes.f kj11).bind fun t186 => (some t186)) else (none))) else (none))) else (none)) = some r := by first | (rw [hy176]; with_reducible exact H) | (have H2_ := (Option.bind_some _ _).symm.trans H; rw [hy176]; with_reducible exact H2_) | (have H2_ := (Option.bind_some _ _).symm.trans H; with_reducible exact H2_) | with_reducible exact H | (rw [hy176]; exact H) | exact H
                      have Ny176 := Aside0.mk hy176
                      clear hy176
                      by_cases c44 : y176.length + t156.length < 8796093022208
                      · rw [if_pos c44] at H
                        have LMc44 := Aside0.mk c44
                        clear c44
                        obtain ⟨y179, hy179⟩ : ∃ y_ : List (S32), y_ = (y176 ++ t156) := ⟨_, rfl⟩
                        replace H : (if y179.length + t157.length < 8796093022208 then ((remontoirkeep_Dues.f kj11 (y179 ++ t157) l0).bind fun t185 => (if t185 = true then ((remontoirlaw07_wakes.f kj11).bind fun t186 => (some t186)) else (none))) else (none)) = some r := by first | (rw [hy179]; with_reducible exact H) | (have H2_ := (Option.bind_some _ _).symm.trans H; rw [hy179]; with_reducible exact H2_) | (have H2_ := (Option.bind_some _ _).symm.trans H; with_reducible exact H2_) | with_reducible exact H | (rw [hy179]; exact H) | exact H
                        have Ny179 := Aside0.mk hy179
                        clear hy179
                        by_cases c45 : y179.length + t157.length < 8796093022208
                        · rw [if_pos c45] at H
                          have LMc45 := Aside0.mk c45
                          clear c45
                          obtain ⟨y182, hy182⟩ : ∃ y_ : List (S32), y_ = (y179 ++ t157) := ⟨_, rfl⟩
                          replace H : ((remontoirkeep_Dues.f kj11 y182 l0).bind fun t185 => (if t185 = true then ((remontoirlaw07_wakes.f kj11).bind fun t186 => (some t186)) else (none))) = some r := by first | (rw [hy182]; with_reducible exact H) | (have H2_ := (Option.bind_some _ _).symm.trans H; rw [hy182]; with_reducible exact H2_) | (have H2_ := (Option.bind_some _ _).symm.trans H; with_reducible exact H2_) | with_reducible exact H | (rw [hy182]; exact H) | exact H
                          have Ny182 := Aside0.mk hy182
                          clear hy182
                          replace H := Option.bind_eq_some_iff.mp H
                          obtain ⟨t185, A460, H⟩ := H
                          replace H : (if t185 = true then ((remontoirlaw07_wakes.f kj11).bind fun t186 => (some t186)) else (none)) = some r := H
                          have A46 := Aside0.mk A460
                          clear A460
                          by_cases c47 : t185 = true
                          · subst c47
                            have H1 : ((remontoirlaw07_wakes.f kj11).bind fun t186 => (some t186)) = some r := by rw [if_pos rfl] at H; exact H
                            clear H
                            have H := H1
                            clear H1
                            replace H := Option.bind_eq_some_iff.mp H
                            obtain ⟨t186, A480, H⟩ := H
                            replace H : (some t186) = some r := H
                            have A48 := Aside0.mk A480
                            clear A480
                            obtain rfl := Option.some.inj H
                            go_wp2_with (first | ((with_reducible refine gate_callee (f := 10) rfl ?_); refine goesL_ (some 68) rfl rfl Try.func10 (by kernel_rfl) rfl #[.slice A0 l0.length c0] rfl (by (try simp only [List.map_toArray, List.map_cons, List.map_nil]); first | done | rfl | (simp only [List.length_drop, List.length_take]; rfl)) ?_; (with_reducible refine (plan_Good.calls _ _ l0 true _ ?side1 ?side2 A34.out (TabOk.below HT0.out (by repeat (first | (with_reducible first | exact HB.out | apply below_alloc | apply pw_below_drewN | apply below_drew1) | exact HB.out)))).mono ?_); (case side1 => repeat (first | exact (Kd.C_below HR0.out HB.out) | (with_reducible refine Kd.C_alloc ?_ _) | (with_reducible refine Kd.C_drewN ?_ _) | (with_reducible refine Kd.C_drew ?_))); (case side2 => exact HC0.out); rintro e w49 ⟨rfl, hb⟩; refine ⟨_, rfl, ?_⟩; have n0_ := Aside0.mk (Kd.R_below (by (with_reducible repeat (first | apply Kd.R_alloc | apply Kd.R_drewN | apply Kd.R_drew)); exact HO_9.out) hb); have n1_ := Aside0.mk (Kd.R_below (by (with_reducible repeat (first | apply Kd.R_alloc | apply Kd.R_drewN | apply Kd.R_drew)); exact HO_11.out) hb); have n2_ := Aside0.mk (Kd.R_below (by (with_reducible repeat (first | apply Kd.R_alloc | apply Kd.R_drewN | apply Kd.R_drew)); exact HO_13.out) hb); have n3_ := Aside0.mk (Kd.R_below (by (with_reducible repeat (first | apply Kd.R_alloc | apply Kd.R_drewN | apply Kd.R_drew)); exact HO_14.out) hb); have n4_ := Aside0.mk (below_step (by repeat (first | (with_reducible first | exact HB.out | apply below_alloc | apply pw_below_drewN | apply below_drew1) | exact HB.out)) hb); clear HO_9; clear HO_11; clear HO_13; clear HO_14; clear HB; have HO_9 := n0_; have HO_11 := n1_; have HO_13 := n2_; have HO_14 := n3_; have HB := n4_; clear n0_ n1_ n2_ n3_ n4_; (try clear hb); (try clear hb2); (try clear hk); (try clear hi); obtain ⟨Ao50, co50, eo50⟩ := Kd.R_slice HO_13.out; subst eo50) | ((with_reducible refine gate_callee (f := 10) rfl ?_); refine goesL_ (some 70) rfl rfl Try.func10 (by kernel_rfl) rfl #[.slice Ao50 t156.length co50] rfl (by (try simp only [List.map_toArray, List.map_cons, List.map_nil]); first | done | rfl | (simp only [List.length_drop, List.length_take]; rfl)) ?_; (with_reducible refine (plan_Good.calls _ _ t156 true _ ?side1 ?side2 A36.out (TabOk.below HT0.out (by repeat (first | (with_reducible first | exact HB.out | apply below_alloc | apply pw_below_drewN | apply below_drew1) | exact HB.out)))).mono ?_); (case side1 => repeat (first | exact (Kd.R_reads' HO_13.out).2.2 | (with_reducible refine Kd.C_alloc ?_ _) | (with_reducible refine Kd.C_drewN ?_ _) | (with_reducible refine Kd.C_drew ?_))); (case side2 => exact (Kd.R_reads' HO_13.out).2.1); rintro e w51 ⟨rfl, hb⟩; refine ⟨_, rfl, ?_⟩; have n0_ := Aside0.mk (Kd.R_below (by (with_reducible repeat (first | apply Kd.R_alloc | apply Kd.R_drewN | apply Kd.R_drew)); exact HO_9.out) hb); have n1_ := Aside0.mk (Kd.R_below (by (with_reducible repeat (first | apply Kd.R_alloc | apply Kd.R_drewN | apply Kd.R_drew)); exact HO_11.out) hb); have n2_ := Aside0.mk (Kd.R_below (by (with_reducible repeat (first | apply Kd.R_alloc | apply Kd.R_drewN | apply Kd.R_drew)); exact HO_13.out) hb); have n3_ := Aside0.mk (Kd.R_below (by (with_reducible repeat (first | apply Kd.R_alloc | apply Kd.R_drewN | apply Kd.R_drew)); exact HO_14.out) hb); have n4_ := Aside0.mk (below_step (by repeat (first | (with_reducible first | exact HB.out | apply below_alloc | apply pw_below_drewN | apply below_drew1) | exact HB.out)) hb); clear HO_9; clear HO_11; clear HO_13; clear HO_14; clear HB; have HO_9 := n0_; have HO_11 := n1_; have HO_13 := n2_; have HO_14 := n3_; have HB := n4_; clear n0_ n1_ n2_ n3_ n4_; (try clear hb); (try clear hb2); (try clear hk); (try clear hi); obtain ⟨Ao52, co52, eo52⟩ := Kd.R_slice HO_14.out; subst eo52) | (go_at_call 10; (with_reducible refine (plan_Good.calls _ _ t157 true _ ?side1 ?side2 A38.out (TabOk.below HT0.out (by repeat (first | (with_reducible first | exact HB.out | apply below_alloc | apply pw_below_drewN | apply below_drew1) | exact HB.out)))).mono ?_); (case side1 => repeat (first | exact (Kd.R_reads' HO_14.out).2.2 | (with_reducible refine Kd.C_alloc ?_ _) | (with_reducible refine Kd.C_drewN ?_ _) | (with_reducible refine Kd.C_drew ?_))); (case side2 => exact (Kd.R_reads' HO_14.out).2.1); rintro e w53 ⟨rfl, hb⟩; have n0_ := Aside0.mk (Kd.R_below (by (with_reducible repeat (first | apply Kd.R_alloc | apply Kd.R_drewN | apply Kd.R_drew)); exact HO_9.out) hb); have n1_ := Aside0.mk (Kd.R_below (by (with_reducible repeat (first | apply Kd.R_alloc | apply Kd.R_drewN | apply Kd.R_drew)); exact HO_11.out) hb); have n2_ := Aside0.mk (Kd.R_below (by (with_reducible repeat (first | apply Kd.R_alloc | apply Kd.R_drewN | apply Kd.R_drew)); exact HO_13.out) hb); have n3_ := Aside0.mk (Kd.R_below (by (with_reducible repeat (first | apply Kd.R_alloc | apply Kd.R_drewN | apply Kd.R_drew)); exact HO_14.out) hb); have n4_ := Aside0.mk (below_step (by repeat (first | (with_reducible first | exact HB.out | apply below_alloc | apply pw_below_drewN | apply below_drew1) | exact HB.out)) hb); clear HO_9; clear HO_11; clear HO_13; clear HO_14; clear HB; have HO_9 := n0_; have HO_11 := n1_; have HO_13 := n2_; have HO_14 := n3_; have HB := n4_; clear n0_ n1_ n2_ n3_ n4_; (try clear hb); (try clear hb2); (try clear hk); (try clear hi)) | ((with_reducible refine gate_dst (N := 76) rfl ?_); (try (refine gate_guard (by rfl) ?_; dsimp only)); refine Kd.R_lit k32 _ 32 ?hg (N := 76) ?hd (xs := ([] : List (S32))) (inner := []) (ok := fun _ => True) (okp := fun _ => True) ?hr ?hp (fun _ hk => hk) trivial (Below.refl _ _) (Nat.le_refl _) (by simp) ?_; (case hd => rfl); (case hg => rfl); (case hr => first | (go_simp; done) | (go_simp; rfl)); (case hp => exact (Reps.none _ _)); intro v167 w54 ho55 hb hg_ hnew_; clear hg_ hnew_; (first | rw [← Ny166.out] at ho55 | (simp only [Int.reduceToNat] at ho55; rw [← Ny166.out] at ho55)); have n0_ := Aside0.mk (Kd.R_elder' (by (with_reducible repeat (first | apply Kd.R_alloc | apply Kd.R_drewN | apply Kd.R_drew)); exact HO_9.out) (Kd.R_base ho55) hb); have n1_ := Aside0.mk (Kd.R_elder' (by (with_reducible repeat (first | apply Kd.R_alloc | apply Kd.R_drewN | apply Kd.R_drew)); exact HO_11.out) (Kd.R_base ho55) hb); have n2_ := Aside0.mk (Kd.R_elder' (by (with_reducible repeat (first | apply Kd.R_alloc | apply Kd.R_drewN | apply Kd.R_drew)); exact HO_13.out) (Kd.R_base ho55) hb); have n3_ := Aside0.mk (Kd.R_elder' (by (with_reducible repeat (first | apply Kd.R_alloc | apply Kd.R_drewN | apply Kd.R_drew)); exact HO_14.out) (Kd.R_base ho55) hb); have n4_ := Aside0.mk (Kd.R_lower (Kd.R_new' (Kd.R_new' (Kd.R_new' (Kd.R_new' ho55 (Kd.R_lt (by (with_reducible repeat (first | apply Kd.R_alloc | apply Kd.R_drewN | apply Kd.R_drew)); exact HO_9.out))) (Kd.R_lt (by (with_reducible repeat (first | apply Kd.R_alloc | apply Kd.R_drewN | apply Kd.R_drew)); exact HO_11.out))) (Kd.R_lt (by (with_reducible repeat (first | apply Kd.R_alloc | apply Kd.R_drewN | apply Kd.R_drew)); exact HO_13.out))) (Kd.R_lt (by (with_reducible repeat (first | apply Kd.R_alloc | apply Kd.R_drewN | apply Kd.R_drew)); exact HO_14.out))) (below_size (by repeat (first | (with_reducible first | exact HB.out | apply below_alloc | apply pw_below_drewN | apply below_drew1) | exact HB.out)))); have n5_ := Aside0.mk (below_step (by repeat (first | (with_reducible first | exact HB.out | apply below_alloc | apply pw_below_drewN | apply below_drew1) | exact HB.out)) hb); clear HO_9; clear HO_11; clear HO_13; clear HO_14; clear HB; have HO_9 := n0_; have HO_11 := n1_; have HO_13 := n2_; have HO_14 := n3_; have HO168 := n4_; have HB := n5_; clear n0_ n1_ n2_ n3_ n4_ n5_; clear hb ho55; obtain ⟨Ao57, co57, eo57⟩ := Kd.R_slice HO_9.out; subst eo57) | ((with_reducible refine gate_builtin (b := .append) (xs := #[.tmp 76, .tmp 77]) rfl ?_); (try (refine gate_guard (by rfl) ?_; dsimp only)); at_builtin; refine Kd.R_append_rows k32 (w0 := w) w.heap.size rfl (.tmp 76) (.tmp 77) 22 32 (.agg #[(.int .i64 0), (.int .u64 0)]) 16 rfl Try.underlying22 info32 rfl (by decide) (by omega) v167 y166 t144 _ _ _ (fun k_ => some k_ ≠ (.slice Ao57 t144.length co57 : Value).ownBlock ∧ some k_ ≠ (v152 : Value).ownBlock ∧ some k_ ≠ (.slice Ao50 t156.length co50 : Value).ownBlock ∧ some k_ ≠ (.slice Ao52 t157.length co52 : Value).ownBlock) (fun _ => False) rfl rfl ?aO ?aR (fun _ _ h => h) (fun _ h => h.elim) ?aF ?aB ?aS ?aL ?_; (case aR => repeat (first | exact (Kd.R_reads' HO_9.out).2.2 | (with_reducible refine Kd.C_alloc ?_ _) | (with_reducible refine Kd.C_drewN ?_ _) | (with_reducible refine Kd.C_drew ?_))); (case aB => exact (by repeat (first | (with_reducible first | exact HB.out | apply below_alloc | apply pw_below_drewN | apply below_drew1) | exact HB.out))); (case aF => exact (fun k_ hk => ⟨Kd.fresh' (Kd.R_lt (by (with_reducible repeat (first | apply Kd.R_alloc | apply Kd.R_drewN | apply Kd.R_drew)); exact HO_9.out)) k_ hk, Kd.fresh' (Kd.R_lt (by (with_reducible repeat (first | apply Kd.R_alloc | apply Kd.R_drewN | apply Kd.R_drew)); exact HO_11.out)) k_ hk, Kd.fresh' (Kd.R_lt (by (with_reducible repeat (first | apply Kd.R_alloc | apply Kd.R_drewN | apply Kd.R_drew)); exact HO_13.out)) k_ hk, Kd.fresh' (Kd.R_lt (by (with_reducible repeat (first | apply Kd.R_alloc | apply Kd.R_drewN | apply Kd.R_drew)); exact HO_14.out)) k_ hk⟩)); (case aO => exact (by (with_reducible repeat (first | apply Kd.R_alloc | apply Kd.R_drewN | apply Kd.R_drew)); exact Kd.R_mono HO168.out (fun _ hk => ⟨hk.1.1.1.2, ⟨hk.1.1.2, ⟨hk.1.2, hk.2⟩⟩⟩))); (case aS => exact (below_size (by repeat (first | (with_reducible first | exact HB.out | apply below_alloc | apply pw_below_drewN | apply below_drew1) | exact HB.out)))); (case aL => have := LMc40.out; omega); intro v170 w56 ho hb hg hat; rw [← Ny169.out] at ho; have n0_ := Aside0.mk (Kd.R_after (ok := (fun k_ => some k_ ≠ (v152 : Value).ownBlock ∧ some k_ ≠ (.slice Ao50 t156.length co50 : Value).ownBlock ∧ some k_ ≠ (.slice Ao52 t157.length co52 : Value).ownBlock)) (by (with_reducible repeat (first | apply Kd.R_alloc | apply Kd.R_drewN | apply Kd.R_drew)); exact HO_9.out) hg hat); have n1_ := Aside0.mk (Kd.R_after (ok := (fun k_ => some k_ ≠ (.slice Ao57 t144.length co57 : Value).ownBlock ∧ some k_ ≠ (.slice Ao50 t156.length co50 : Value).ownBlock ∧ some k_ ≠ (.slice Ao52 t157.length co52 : Value).ownBlock)) (by (with_reducible repeat (first | apply Kd.R_alloc | apply Kd.R_drewN | apply Kd.R_drew)); exact HO_11.out) hg hat); have n2_ := Aside0.mk (Kd.R_after (ok := (fun k_ => some k_ ≠ (.slice Ao57 t144.length co57 : Value).ownBlock ∧ some k_ ≠ (v152 : Value).ownBlock ∧ some k_ ≠ (.slice Ao52 t157.length co52 : Value).ownBlock)) (by (with_reducible repeat (first | apply Kd.R_alloc | apply Kd.R_drewN | apply Kd.R_drew)); exact HO_13.out) hg hat); have n3_ := Aside0.mk (Kd.R_after (ok := (fun k_ => some k_ ≠ (.slice Ao57 t144.length co57 : Value).ownBlock ∧ some k_ ≠ (v152 : Value).ownBlock ∧ some k_ ≠ (.slice Ao50 t156.length co50 : Value).ownBlock)) (by (with_reducible repeat (first | apply Kd.R_alloc | apply Kd.R_drewN | apply Kd.R_drew)); exact HO_14.out) hg hat); have n4_ := Aside0.mk (hb); have n5_ := Aside0.mk (ho); clear HO_9; clear HO_11; clear HO_13; clear HO_14; clear HB; clear HO168; have HO_9 := n0_; have HO_11 := n1_; have HO_13 := n2_; have HO_14 := n3_; have HB := n4_; have HO171 := n5_; clear n0_ n1_ n2_ n3_ n4_ n5_; clear ho hb hg hat; obtain ⟨Ao59, co59, eo59⟩ := Kd.R_slice HO_11.out; subst eo59) | ((with_reducible refine gate_builtin (b := .append) (xs := #[.tmp 78, .tmp 79]) rfl ?_); (try (refine gate_guard (by rfl) ?_; dsimp only)); at_builtin; refine Kd.R_append_rows k32 (w0 := w) w.heap.size rfl (.tmp 78) (.tmp 79) 22 32 (.agg #[(.int .i64 0), (.int .u64 0)]) 16 rfl Try.underlying22 info32 rfl (by decide) (by omega) v170 y169 t150 _ _ _ (fun k_ => some k_ ≠ (.slice Ao57 t144.length co57 : Value).ownBlock ∧ some k_ ≠ (.slice Ao59 t150.length co59 : Value).ownBlock ∧ some k_ ≠ (.slice Ao50 t156.length co50 : Value).ownBlock ∧ some k_ ≠ (.slice Ao52 t157.length co52 : Value).ownBlock) (fun _ => False) rfl rfl ?aO ?aR (fun _ _ h => h) (fun _ h => h.elim) ?aF ?aB ?aS ?aL ?_; (case aR => repeat (first | exact (Kd.R_reads' HO_11.out).2.2 | (with_reducible refine Kd.C_alloc ?_ _) | (with_reducible refine Kd.C_drewN ?_ _) | (with_reducible refine Kd.C_drew ?_))); (case aB => exact (by repeat (first | (with_reducible first | exact HB.out | apply below_alloc | apply pw_below_drewN | apply below_drew1) | exact HB.out))); (case aF => exact (fun k_ hk => ⟨Kd.fresh' (Kd.R_lt (by (with_reducible repeat (first | apply Kd.R_alloc | apply Kd.R_drewN | apply Kd.R_drew)); exact HO_9.out)) k_ hk, Kd.fresh' (Kd.R_lt (by (with_reducible repeat (first | apply Kd.R_alloc | apply Kd.R_drewN | apply Kd.R_drew)); exact HO_11.out)) k_ hk, Kd.fresh' (Kd.R_lt (by (with_reducible repeat (first | apply Kd.R_alloc | apply Kd.R_drewN | apply Kd.R_drew)); exact HO_13.out)) k_ hk, Kd.fresh' (Kd.R_lt (by (with_reducible repeat (first | apply Kd.R_alloc | apply Kd.R_drewN | apply Kd.R_drew)); exact HO_14.out)) k_ hk⟩)); (case aO => exact (by (with_reducible repeat (first | apply Kd.R_alloc | apply Kd.R_drewN | apply Kd.R_drew)); exact HO171.out)); (case aS => exact (below_size (by repeat (first | (with_reducible first | exact HB.out | apply below_alloc | apply pw_below_drewN | apply below_drew1) | exact HB.out)))); (case aL => have := LMc41.out; omega); intro v173 w58 ho hb hg hat; rw [← Ny172.out] at ho; have n0_ := Aside0.mk (Kd.R_after (ok := (fun k_ => some k_ ≠ (.slice Ao59 t150.length co59 : Value).ownBlock ∧ some k_ ≠ (.slice Ao50 t156.length co50 : Value).ownBlock ∧ some k_ ≠ (.slice Ao52 t157.length co52 : Value).ownBlock)) (by (with_reducible repeat (first | apply Kd.R_alloc | apply Kd.R_drewN | apply Kd.R_drew)); exact HO_9.out) hg hat); have n1_ := Aside0.mk (Kd.R_after (ok := (fun k_ => some k_ ≠ (.slice Ao57 t144.length co57 : Value).ownBlock ∧ some k_ ≠ (.slice Ao50 t156.length co50 : Value).ownBlock ∧ some k_ ≠ (.slice Ao52 t157.length co52 : Value).ownBlock)) (by (with_reducible repeat (first | apply Kd.R_alloc | apply Kd.R_drewN | apply Kd.R_drew)); exact HO_11.out) hg hat); have n2_ := Aside0.mk (Kd.R_after (ok := (fun k_ => some k_ ≠ (.slice Ao57 t144.length co57 : Value).ownBlock ∧ some k_ ≠ (.slice Ao59 t150.length co59 : Value).ownBlock ∧ some k_ ≠ (.slice Ao52 t157.length co52 : Value).ownBlock)) (by (with_reducible repeat (first | apply Kd.R_alloc | apply Kd.R_drewN | apply Kd.R_drew)); exact HO_13.out) hg hat); have n3_ := Aside0.mk (Kd.R_after (ok := (fun k_ => some k_ ≠ (.slice Ao57 t144.length co57 : Value).ownBlock ∧ some k_ ≠ (.slice Ao59 t150.length co59 : Value).ownBlock ∧ some k_ ≠ (.slice Ao50 t156.length co50 : Value).ownBlock)) (by (with_reducible repeat (first | apply Kd.R_alloc | apply Kd.R_drewN | apply Kd.R_drew)); exact HO_14.out) hg hat); have n4_ := Aside0.mk (hb); have n5_ := Aside0.mk (ho); clear HO_9; clear HO_11; clear HO_13; clear HO_14; clear HB; clear HO171; have HO_9 := n0_; have HO_11 := n1_; have HO_13 := n2_; have HO_14 := n3_; have HB := n4_; have HO174 := n5_; clear n0_ n1_ n2_ n3_ n4_ n5_; clear ho hb hg hat; obtain ⟨Ao60, co60, eo60⟩ := Kd.R_slice HO174.out; subst eo60) | (go_at_call 9; (with_reducible refine (remontoirkeep_Dues.calls kj11 _ _ y172 _ _ t156 true _ ?side1 ?side2 ?side3 ?side4 A42.out).mono ?_); (case side1 => repeat (first | exact (Kd.R_reads' HO174.out).2.2 | (with_reducible refine Kd.C_alloc ?_ _) | (with_reducible refine Kd.C_drewN ?_ _) | (with_reducible refine Kd.C_drew ?_))); (case side2 => exact (Kd.R_reads' HO174.out).2.1); (case side3 => repeat (first | exact (Kd.R_reads' HO_13.out).2.2 | (with_reducible refine Kd.C_alloc ?_ _) | (with_reducible refine Kd.C_drewN ?_ _) | (with_reducible refine Kd.C_drew ?_))); (case side4 => exact (Kd.R_reads' HO_13.out).2.1); rintro e w' ⟨rfl, ⟨nd, rfl⟩⟩) | ((with_reducible refine gate_dst (N := 85) rfl ?_); (try (refine gate_guard (by rfl) ?_; dsimp only)); refine Kd.R_lit k32 _ 32 ?hg (N := 85) ?hd (xs := ([] : List (S32))) (inner := []) (ok := fun _ => True) (okp := fun _ => True) ?hr ?hp (fun _ hk => hk) trivial (Below.refl _ _) (Nat.le_refl _) (by simp) ?_; (case hd => rfl); (case hg => rfl); (case hr => first | (go_simp; done) | (go_simp; rfl)); (case hp => exact (Reps.none _ _)); intro v177 w61 ho62 hb hg_ hnew_; clear hg_ hnew_; (first | rw [← Ny176.out] at ho62 | (simp only [Int.reduceToNat] at ho62; rw [← Ny176.out] at ho62)); have n0_ := Aside0.mk (Kd.R_elder' (by (with_reducible repeat (first | apply Kd.R_alloc | apply Kd.R_drewN | apply Kd.R_drew)); exact HO_9.out) (Kd.R_base ho62) hb); have n1_ := Aside0.mk (Kd.R_elder' (by (with_reducible repeat (first | apply Kd.R_alloc | apply Kd.R_drewN | apply Kd.R_drew)); exact HO_11.out) (Kd.R_base ho62) hb); have n2_ := Aside0.mk (Kd.R_elder' (by (with_reducible repeat (first | apply Kd.R_alloc | apply Kd.R_drewN | apply Kd.R_drew)); exact HO_13.out) (Kd.R_base ho62) hb); have n3_ := Aside0.mk (Kd.R_elder' (by (with_reducible repeat (first | apply Kd.R_alloc | apply Kd.R_drewN | apply Kd.R_drew)); exact HO_14.out) (Kd.R_base ho62) hb); have n4_ := Aside0.mk (Kd.R_elder' (by (with_reducible repeat (first | apply Kd.R_alloc | apply Kd.R_drewN | apply Kd.R_drew)); exact HO174.out) (Kd.R_base ho62) hb); have n5_ := Aside0.mk (Kd.R_lower (Kd.R_new' (Kd.R_new' (Kd.R_new' (Kd.R_new' (Kd.R_new' ho62 (Kd.R_lt (by (with_reducible repeat (first | apply Kd.R_alloc | apply Kd.R_drewN | apply Kd.R_drew)); exact HO_9.out))) (Kd.R_lt (by (with_reducible repeat (first | apply Kd.R_alloc | apply Kd.R_drewN | apply Kd.R_drew)); exact HO_11.out))) (Kd.R_lt (by (with_reducible repeat (first | apply Kd.R_alloc | apply Kd.R_drewN | apply Kd.R_drew)); exact HO_13.out))) (Kd.R_lt (by (with_reducible repeat (first | apply Kd.R_alloc | apply Kd.R_drewN | apply Kd.R_drew)); exact HO_14.out))) (Kd.R_lt (by (with_reducible repeat (first | apply Kd.R_alloc | apply Kd.R_drewN | apply Kd.R_drew)); exact HO174.out))) (below_size (by repeat (first | (with_reducible first | exact HB.out | apply below_alloc | apply pw_below_drewN | apply below_drew1) | exact HB.out)))); have n6_ := Aside0.mk (below_step (by repeat (first | (with_reducible first | exact HB.out | apply below_alloc | apply pw_below_drewN | apply below_drew1) | exact HB.out)) hb); clear HO_9; clear HO_11; clear HO_13; clear HO_14; clear HO174; clear HB; have HO_9 := n0_; have HO_11 := n1_; have HO_13 := n2_; have HO_14 := n3_; have HO174 := n4_; have HO178 := n5_; have HB := n6_; clear n0_ n1_ n2_ n3_ n4_ n5_ n6_; clear hb ho62) | ((with_reducible refine gate_builtin (b := .append) (xs := #[.tmp 85, .tmp 86]) rfl ?_); (try (refine gate_guard (by rfl) ?_; dsimp only)); at_builtin; refine Kd.R_append_rows k32 (w0 := w) w.heap.size rfl (.tmp 85) (.tmp 86) 22 32 (.agg #[(.int .i64 0), (.int .u64 0)]) 16 rfl Try.underlying22 info32 rfl (by decide) (by omega) v177 y176 t156 _ _ _ (fun k_ => some k_ ≠ (.slice Ao57 t144.length co57 : Value).ownBlock ∧ some k_ ≠ (.slice Ao59 t150.length co59 : Value).ownBlock ∧ some k_ ≠ (.slice Ao50 t156.length co50 : Value).ownBlock ∧ some k_ ≠ (.slice Ao52 t157.length co52 : Value).ownBlock ∧ some k_ ≠ (.slice Ao60 y172.length co60 : Value).ownBlock) (fun _ => False) rfl rfl ?aO ?aR (fun _ _ h => h) (fun _ h => h.elim) ?aF ?aB ?aS ?aL ?_; (case aR => repeat (first | exact (Kd.R_reads' HO_13.out).2.2 | (with_reducible refine Kd.C_alloc ?_ _) | (with_reducible refine Kd.C_drewN ?_ _) | (with_reducible refine Kd.C_drew ?_))); (case aB => exact (by repeat (first | (with_reducible first | exact HB.out | apply below_alloc | apply pw_below_drewN | apply below_drew1) | exact HB.out))); (case aF => exact (fun k_ hk => ⟨Kd.fresh' (Kd.R_lt (by (with_reducible repeat (first | apply Kd.R_alloc | apply Kd.R_drewN | apply Kd.R_drew)); exact HO_9.out)) k_ hk, Kd.fresh' (Kd.R_lt (by (with_reducible repeat (first | apply Kd.R_alloc | apply Kd.R_drewN | apply Kd.R_drew)); exact HO_11.out)) k_ hk, Kd.fresh' (Kd.R_lt (by (with_reducible repeat (first | apply Kd.R_alloc | apply Kd.R_drewN | apply Kd.R_drew)); exact HO_13.out)) k_ hk, Kd.fresh' (Kd.R_lt (by (with_reducible repeat (first | apply Kd.R_alloc | apply Kd.R_drewN | apply Kd.R_drew)); exact HO_14.out)) k_ hk, Kd.fresh' (Kd.R_lt (by (with_reducible repeat (first | apply Kd.R_alloc | apply Kd.R_drewN | apply Kd.R_drew)); exact HO174.out)) k_ hk⟩)); (case aO => exact (by (with_reducible repeat (first | apply Kd.R_alloc | apply Kd.R_drewN | apply Kd.R_drew)); exact Kd.R_mono HO178.out (fun _ hk => ⟨hk.1.1.1.1.2, ⟨hk.1.1.1.2, ⟨hk.1.1.2, ⟨hk.1.2, hk.2⟩⟩⟩⟩))); (case aS => exact (below_size (by repeat (first | (with_reducible first | exact HB.out | apply below_alloc | apply pw_below_drewN | apply below_drew1) | exact HB.out)))); (case aL => have := LMc44.out; omega); intro v180 w63 ho hb hg hat; rw [← Ny179.out] at ho; have n0_ := Aside0.mk (Kd.R_after (ok := (fun k_ => some k_ ≠ (.slice Ao59 t150.length co59 : Value).ownBlock ∧ some k_ ≠ (.slice Ao50 t156.length co50 : Value).ownBlock ∧ some k_ ≠ (.slice Ao52 t157.length co52 : Value).ownBlock ∧ some k_ ≠ (.slice Ao60 y172.length co60 : Value).ownBlock)) (by (with_reducible repeat (first | apply Kd.R_alloc | apply Kd.R_drewN | apply Kd.R_drew)); exact Kd.R_mono HO_9.out (fun _ hk => ⟨⟨hk.1.1.1, ⟨hk.1.1.2.1, ⟨hk.1.1.2.2, hk.1.2⟩⟩⟩, hk.2⟩)) hg hat); have n1_ := Aside0.mk (Kd.R_after (ok := (fun k_ => some k_ ≠ (.slice Ao57 t144.length co57 : Value).ownBlock ∧ some k_ ≠ (.slice Ao50 t156.length co50 : Value).ownBlock ∧ some k_ ≠ (.slice Ao52 t157.length co52 : Value).ownBlock ∧ some k_ ≠ (.slice Ao60 y172.length co60 : Value).ownBlock)) (by (with_reducible repeat (first | apply Kd.R_alloc | apply Kd.R_drewN | apply Kd.R_drew)); exact Kd.R_mono HO_11.out (fun _ hk => ⟨⟨hk.1.1.1, ⟨hk.1.1.2.1, ⟨hk.1.1.2.2, hk.1.2⟩⟩⟩, hk.2⟩)) hg hat); have n2_ := Aside0.mk (Kd.R_after (ok := (fun k_ => some k_ ≠ (.slice Ao57 t144.length co57 : Value).ownBlock ∧ some k_ ≠ (.slice Ao59 t150.length co59 : Value).ownBlock ∧ some k_ ≠ (.slice Ao52 t157.length co52 : Value).ownBlock ∧ some k_ ≠ (.slice Ao60 y172.length co60 : Value).ownBlock)) (by (with_reducible repeat (first | apply Kd.R_alloc | apply Kd.R_drewN | apply Kd.R_drew)); exact Kd.R_mono HO_13.out (fun _ hk => ⟨⟨hk.1.1.1, ⟨hk.1.1.2.1, ⟨hk.1.1.2.2, hk.1.2⟩⟩⟩, hk.2⟩)) hg hat); have n3_ := Aside0.mk (Kd.R_after (ok := (fun k_ => some k_ ≠ (.slice Ao57 t144.length co57 : Value).ownBlock ∧ some k_ ≠ (.slice Ao59 t150.length co59 : Value).ownBlock ∧ some k_ ≠ (.slice Ao50 t156.length co50 : Value).ownBlock ∧ some k_ ≠ (.slice Ao60 y172.length co60 : Value).ownBlock)) (by (with_reducible repeat (first | apply Kd.R_alloc | apply Kd.R_drewN | apply Kd.R_drew)); exact Kd.R_mono HO_14.out (fun _ hk => ⟨⟨hk.1.1.1, ⟨hk.1.1.2.1, ⟨hk.1.1.2.2, hk.1.2⟩⟩⟩, hk.2⟩)) hg hat); have n4_ := Aside0.mk (Kd.R_after (ok := (fun k_ => some k_ ≠ (.slice Ao57 t144.length co57 : Value).ownBlock ∧ some k_ ≠ (.slice Ao59 t150.length co59 : Value).ownBlock ∧ some k_ ≠ (.slice Ao50 t156.length co50 : Value).ownBlock ∧ some k_ ≠ (.slice Ao52 t157.length co52 : Value).ownBlock)) (by (with_reducible repeat (first | apply Kd.R_alloc | apply Kd.R_drewN | apply Kd.R_drew)); exact HO174.out) hg hat); have n5_ := Aside0.mk (hb); have n6_ := Aside0.mk (ho); clear HO_9; clear HO_11; clear HO_13; clear HO_14; clear HO174; clear HB; clear HO178; have HO_9 := n0_; have HO_11 := n1_; have HO_13 := n2_; have HO_14 := n3_; have HO174 := n4_; have HB := n5_; have HO181 := n6_; clear n0_ n1_ n2_ n3_ n4_ n5_ n6_; clear ho hb hg hat) | ((with_reducible refine gate_builtin (b := .append) (xs := #[.tmp 87, .tmp 88]) rfl ?_); (try (refine gate_guard (by rfl) ?_; dsimp only)); at_builtin; refine Kd.R_append_rows k32 (w0 := w) w.heap.size rfl (.tmp 87) (.tmp 88) 22 32 (.agg #[(.int .i64 0), (.int .u64 0)]) 16 rfl Try.underlying22 info32 rfl (by decide) (by omega) v180 y179 t157 _ _ _ (fun k_ => some k_ ≠ (.slice Ao57 t144.length co57 : Value).ownBlock ∧ some k_ ≠ (.slice Ao59 t150.length co59 : Value).ownBlock ∧ some k_ ≠ (.slice Ao50 t156.length co50 : Value).ownBlock ∧ some k_ ≠ (.slice Ao52 t157.length co52 : Value).ownBlock ∧ some k_ ≠ (.slice Ao60 y172.length co60 : Value).ownBlock) (fun _ => False) rfl rfl ?aO ?aR (fun _ _ h => h) (fun _ h => h.elim) ?aF ?aB ?aS ?aL ?_; (case aR => repeat (first | exact (Kd.R_reads' HO_14.out).2.2 | (with_reducible refine Kd.C_alloc ?_ _) | (with_reducible refine Kd.C_drewN ?_ _) | (with_reducible refine Kd.C_drew ?_))); (case aB => exact (by repeat (first | (with_reducible first | exact HB.out | apply below_alloc | apply pw_below_drewN | apply below_drew1) | exact HB.out))); (case aF => exact (fun k_ hk => ⟨Kd.fresh' (Kd.R_lt (by (with_reducible repeat (first | apply Kd.R_alloc | apply Kd.R_drewN | apply Kd.R_drew)); exact HO_9.out)) k_ hk, Kd.fresh' (Kd.R_lt (by (with_reducible repeat (first | apply Kd.R_alloc | apply Kd.R_drewN | apply Kd.R_drew)); exact HO_11.out)) k_ hk, Kd.fresh' (Kd.R_lt (by (with_reducible repeat (first | apply Kd.R_alloc | apply Kd.R_drewN | apply Kd.R_drew)); exact HO_13.out)) k_ hk, Kd.fresh' (Kd.R_lt (by (with_reducible repeat (first | apply Kd.R_alloc | apply Kd.R_drewN | apply Kd.R_drew)); exact HO_14.out)) k_ hk, Kd.fresh' (Kd.R_lt (by (with_reducible repeat (first | apply Kd.R_alloc | apply Kd.R_drewN | apply Kd.R_drew)); exact HO174.out)) k_ hk⟩)); (case aO => exact (by (with_reducible repeat (first | apply Kd.R_alloc | apply Kd.R_drewN | apply Kd.R_drew)); exact HO181.out)); (case aS => exact (below_size (by repeat (first | (with_reducible first | exact HB.out | apply below_alloc | apply pw_below_drewN | apply below_drew1) | exact HB.out)))); (case aL => have := LMc45.out; omega); intro v183 w64 ho hb hg hat; rw [← Ny182.out] at ho; have n0_ := Aside0.mk (Kd.R_after (ok := (fun k_ => some k_ ≠ (.slice Ao59 t150.length co59 : Value).ownBlock ∧ some k_ ≠ (.slice Ao50 t156.length co50 : Value).ownBlock ∧ some k_ ≠ (.slice Ao52 t157.length co52 : Value).ownBlock ∧ some k_ ≠ (.slice Ao60 y172.length co60 : Value).ownBlock)) (by (with_reducible repeat (first | apply Kd.R_alloc | apply Kd.R_drewN | apply Kd.R_drew)); exact HO_9.out) hg hat); have n1_ := Aside0.mk (Kd.R_after (ok := (fun k_ => some k_ ≠ (.slice Ao57 t144.length co57 : Value).ownBlock ∧ some k_ ≠ (.slice Ao50 t156.length co50 : Value).ownBlock ∧ some k_ ≠ (.slice Ao52 t157.length co52 : Value).ownBlock ∧ some k_ ≠ (.slice Ao60 y172.length co60 : Value).ownBlock)) (by (with_reducible repeat (first | apply Kd.R_alloc | apply Kd.R_drewN | apply Kd.R_drew)); exact HO_11.out) hg hat); have n2_ := Aside0.mk (Kd.R_after (ok := (fun k_ => some k_ ≠ (.slice Ao57 t144.length co57 : Value).ownBlock ∧ some k_ ≠ (.slice Ao59 t150.length co59 : Value).ownBlock ∧ some k_ ≠ (.slice Ao52 t157.length co52 : Value).ownBlock ∧ some k_ ≠ (.slice Ao60 y172.length co60 : Value).ownBlock)) (by (with_reducible repeat (first | apply Kd.R_alloc | apply Kd.R_drewN | apply Kd.R_drew)); exact HO_13.out) hg hat); have n3_ := Aside0.mk (Kd.R_after (ok := (fun k_ => some k_ ≠ (.slice Ao57 t144.length co57 : Value).ownBlock ∧ some k_ ≠ (.slice Ao59 t150.length co59 : Value).ownBlock ∧ some k_ ≠ (.slice Ao50 t156.length co50 : Value).ownBlock ∧ some k_ ≠ (.slice Ao60 y172.length co60 : Value).ownBlock)) (by (with_reducible repeat (first | apply Kd.R_alloc | apply Kd.R_drewN | apply Kd.R_drew)); exact HO_14.out) hg hat); have n4_ := Aside0.mk (Kd.R_after (ok := (fun k_ => some k_ ≠ (.slice Ao57 t144.length co57 : Value).ownBlock ∧ some k_ ≠ (.slice Ao59 t150.length co59 : Value).ownBlock ∧ some k_ ≠ (.slice Ao50 t156.length co50 : Value).ownBlock ∧ some k_ ≠ (.slice Ao52 t157.length co52 : Value).ownBlock)) (by (with_reducible repeat (first | apply Kd.R_alloc | apply Kd.R_drewN | apply Kd.R_drew)); exact HO174.out) hg hat); have n5_ := Aside0.mk (hb); have n6_ := Aside0.mk (ho); clear HO_9; clear HO_11; clear HO_13; clear HO_14; clear HO174; clear HB; clear HO181; have HO_9 := n0_; have HO_11 := n1_; have HO_13 := n2_; have HO_14 := n3_; have HO174 := n4_; have HB := n5_; have HO184 := n6_; clear n0_ n1_ n2_ n3_ n4_ n5_ n6_; clear ho hb hg hat; obtain ⟨Ao65, co65, eo65⟩ := Kd.R_slice HO184.out; subst eo65) | (go_at_call 9; (with_reducible refine (remontoirkeep_Dues.calls kj11 _ _ y182 _ _ l0 true _ ?side1 ?side2 ?side3 ?side4 A46.out).mono ?_); (case side1 => repeat (first | exact (Kd.R_reads' HO184.out).2.2 | (with_reducible refine Kd.C_alloc ?_ _) | (with_reducible refine Kd.C_drewN ?_ _) | (with_reducible refine Kd.C_drew ?_))); (case side2 => exact (Kd.R_reads' HO184.out).2.1); (case side3 => repeat (first | exact (Kd.C_below HR0.out HB.out) | (with_reducible refine Kd.C_alloc ?_ _) | (with_reducible refine Kd.C_drewN ?_ _) | (with_reducible refine Kd.C_drew ?_))); (case side4 => exact HC0.out); rintro e w' ⟨rfl, ⟨nd, rfl⟩⟩) | (go_at_call 7; (with_reducible refine (remontoirlaw07_wakes.calls kj11  t186 _ A48.out (TabOk.below HT0.out (by repeat (first | (with_reducible first | exact HB.out | apply below_alloc | apply pw_below_drewN | apply below_drew1) | exact HB.out)))).mono ?_); rintro e w66 ⟨rfl, hb⟩; have n0_ := Aside0.mk (Kd.R_below (by (with_reducible repeat (first | apply Kd.R_alloc | apply Kd.R_drewN | apply Kd.R_drew)); exact HO_9.out) hb); have n1_ := Aside0.mk (Kd.R_below (by (with_reducible repeat (first | apply Kd.R_alloc | apply Kd.R_drewN | apply Kd.R_drew)); exact HO_11.out) hb); have n2_ := Aside0.mk (Kd.R_below (by (with_reducible repeat (first | apply Kd.R_alloc | apply Kd.R_drewN | apply Kd.R_drew)); exact HO_13.out) hb); have n3_ := Aside0.mk (Kd.R_below (by (with_reducible repeat (first | apply Kd.R_alloc | apply Kd.R_drewN | apply Kd.R_drew)); exact HO_14.out) hb); have n4_ := Aside0.mk (Kd.R_below (by (with_reducible repeat (first | apply Kd.R_alloc | apply Kd.R_drewN | apply Kd.R_drew)); exact HO174.out) hb); have n5_ := Aside0.mk (Kd.R_below (by (with_reducible repeat (first | apply Kd.R_alloc | apply Kd.R_drewN | apply Kd.R_drew)); exact HO184.out) hb); have n6_ := Aside0.mk (below_step (by repeat (first | (with_reducible first | exact HB.out | apply below_alloc | apply pw_below_drewN | apply below_drew1) | exact HB.out)) hb); clear HO_9; clear HO_11; clear HO_13; clear HO_14; clear HO174; clear HO184; clear HB; have HO_9 := n0_; have HO_11 := n1_; have HO_13 := n2_; have HO_14 := n3_; have HO174 := n4_; have HO184 := n5_; have HB := n6_; clear n0_ n1_ n2_ n3_ n4_ n5_ n6_; (try clear hb); (try clear hb2); (try clear hk); (try clear hi)))
                            go_ret
                            exact ⟨by first | rfl | (simp [errW_none, errW_some] <;> rfl) | (simp only [← hji7, ← hji8]; first | rfl | (simp [errW_none, errW_some] <;> rfl)) | (simp [*, errW_none, errW_some] <;> rfl), by repeat (first | (with_reducible first | exact HB.out | apply below_alloc | apply pw_below_drewN | apply below_drew1) | exact HB.out)⟩
                          · replace c47 := Bool.eq_false_iff.mpr c47
                            subst c47
                            have H1 : (none) = some r := by rw [if_neg (show ¬ (false = true) by decide)] at H; exact H
                            clear H
                            have H := H1
                            clear H1
                            exact absurd H (by simp)
                        · rw [if_neg c45] at H
                          exact absurd H (by simp)
                      · rw [if_neg c44] at H
                        exact absurd H (by simp)
                    · replace c43 := Bool.eq_false_iff.mpr c43
                      subst c43
                      have H1 : (none) = some r := by rw [if_neg (show ¬ (false = true) by decide)] at H; exact H
                      clear H
                      have H := H1
                      clear H1
                      exact absurd H (by simp)
                  · rw [if_neg c41] at H
                    exact absurd H (by simp)
                · rw [if_neg c40] at H
                  exact absurd H (by simp)
              · replace c39 := Bool.eq_false_iff.mpr c39
                subst c39
                have H1 : (none) = some r := by rw [if_neg (show ¬ (false = true) by decide)] at H; exact H
                clear H
                have H := H1
                clear H1
                exact absurd H (by simp)
            · replace c37 := Bool.eq_false_iff.mpr c37
              subst c37
              have H1 : (none) = some r := by rw [if_neg (show ¬ (false = true) by decide)] at H; exact H
              clear H
              have H := H1
              clear H1
              exact absurd H (by simp)
          · replace c35 := Bool.eq_false_iff.mpr c35
            subst c35
            have H1 : ((remontoirlaw07_wakes.f kj11).bind fun t187 => (some t187)) = some r := by rw [if_neg (show ¬ (false = true) by decide)] at H; exact H
            clear H
            have H := H1
            clear H1
            replace H := Option.bind_eq_some_iff.mp H
            obtain ⟨t187, A670, H⟩ := H
            replace H : (some t187) = some r := H
            have A67 := Aside0.mk A670
            clear A670
            obtain rfl := Option.some.inj H
            go_wp2_with (first | ((with_reducible refine gate_callee (f := 10) rfl ?_); refine goesL_ (some 68) rfl rfl Try.func10 (by kernel_rfl) rfl #[.slice A0 l0.length c0] rfl (by (try simp only [List.map_toArray, List.map_cons, List.map_nil]); first | done | rfl | (simp only [List.length_drop, List.length_take]; rfl)) ?_; (with_reducible refine (plan_Good.calls _ _ l0 false _ ?side1 ?side2 A34.out (TabOk.below HT0.out (by repeat (first | (with_reducible first | exact HB.out | apply below_alloc | apply pw_below_drewN | apply below_drew1) | exact HB.out)))).mono ?_); (case side1 => repeat (first | exact (Kd.C_below HR0.out HB.out) | (with_reducible refine Kd.C_alloc ?_ _) | (with_reducible refine Kd.C_drewN ?_ _) | (with_reducible refine Kd.C_drew ?_))); (case side2 => exact HC0.out); rintro e w68 ⟨rfl, hb⟩; refine ⟨_, rfl, ?_⟩; have n0_ := Aside0.mk (Kd.R_below (by (with_reducible repeat (first | apply Kd.R_alloc | apply Kd.R_drewN | apply Kd.R_drew)); exact HO_9.out) hb); have n1_ := Aside0.mk (Kd.R_below (by (with_reducible repeat (first | apply Kd.R_alloc | apply Kd.R_drewN | apply Kd.R_drew)); exact HO_11.out) hb); have n2_ := Aside0.mk (Kd.R_below (by (with_reducible repeat (first | apply Kd.R_alloc | apply Kd.R_drewN | apply Kd.R_drew)); exact HO_13.out) hb); have n3_ := Aside0.mk (Kd.R_below (by (with_reducible repeat (first | apply Kd.R_alloc | apply Kd.R_drewN | apply Kd.R_drew)); exact HO_14.out) hb); have n4_ := Aside0.mk (below_step (by repeat (first | (with_reducible first | exact HB.out | apply below_alloc | apply pw_below_drewN | apply below_drew1) | exact HB.out)) hb); clear HO_9; clear HO_11; clear HO_13; clear HO_14; clear HB; have HO_9 := n0_; have HO_11 := n1_; have HO_13 := n2_; have HO_14 := n3_; have HB := n4_; clear n0_ n1_ n2_ n3_ n4_; (try clear hb); (try clear hb2); (try clear hk); (try clear hi)) | ((with_reducible refine gate_callee (f := 7) rfl ?_); refine goesL_ (some 96) rfl rfl Try.func7 (by kernel_rfl) rfl #[] rfl (by (try simp only [List.map_toArray, List.map_cons, List.map_nil]); first | done | rfl | (simp only [List.length_drop, List.length_take]; rfl)) ?_; (with_reducible refine (remontoirlaw07_wakes.calls kj11  t187 _ A67.out (TabOk.below HT0.out (by repeat (first | (with_reducible first | exact HB.out | apply below_alloc | apply pw_below_drewN | apply below_drew1) | exact HB.out)))).mono ?_); rintro e w69 ⟨rfl, hb⟩; refine ⟨_, rfl, ?_⟩; have n0_ := Aside0.mk (Kd.R_below (by (with_reducible repeat (first | apply Kd.R_alloc | apply Kd.R_drewN | apply Kd.R_drew)); exact HO_9.out) hb); have n1_ := Aside0.mk (Kd.R_below (by (with_reducible repeat (first | apply Kd.R_alloc | apply Kd.R_drewN | apply Kd.R_drew)); exact HO_11.out) hb); have n2_ := Aside0.mk (Kd.R_below (by (with_reducible repeat (first | apply Kd.R_alloc | apply Kd.R_drewN | apply Kd.R_drew)); exact HO_13.out) hb); have n3_ := Aside0.mk (Kd.R_below (by (with_reducible repeat (first | apply Kd.R_alloc | apply Kd.R_drewN | apply Kd.R_drew)); exact HO_14.out) hb); have n4_ := Aside0.mk (below_step (by repeat (first | (with_reducible first | exact HB.out | apply below_alloc | apply pw_below_drewN | apply below_drew1) | exact HB.out)) hb); clear HO_9; clear HO_11; clear HO_13; clear HO_14; clear HB; have HO_9 := n0_; have HO_11 := n1_; have HO_13 := n2_; have HO_14 := n3_; have HB := n4_; clear n0_ n1_ n2_ n3_ n4_; (try clear hb); (try clear hb2); (try clear hk); (try clear hi)))
            go_ret
            exact ⟨by first | rfl | (simp [errW_none, errW_some] <;> rfl) | (simp only [← hji7, ← hji8]; first | rfl | (simp [errW_none, errW_some] <;> rfl)) | (simp [*, errW_none, errW_some] <;> rfl), by repeat (first | (with_reducible first | exact HB.out | apply below_alloc | apply pw_below_drewN | apply below_drew1) | exact HB.out)⟩

-- NOT PRINTED: function 21 (api_Due_21)

-- NOT PRINTED: function 38 (api_Due_38)

-- NOT PRINTED: function 48 (api_Due_48)

-- NOT PRINTED: function 39 (api_Due_39)

end Go.Proofs.Ytboneknainlodaa.PAll
