-- Printed by a program of ours (wip/common/mkprint.py), turned from the kit's print; Lean checks it.
import Derived.Test.YtdnonlapiheenaaPAllx0
import Derived.Test.YtdnonlapiheenaaPAllx1
import Derived.Test.YtdnonlapiheenaaPAllx2
import Derived.Test.YtdnonlapiheenaaPAllx6
namespace Go.Proofs.Ytdnonlapiheenaa.PAll
open Go.RowKit Go.Proofs.YtdnonlapiheenaaW.PrintWords Go.Proofs.YtdnonlapiheenaaW.PrintLast Go.Proofs.YtdnonlapiheenaaW.PrintMore
attribute [local go_sem] max2_int min2_int max_two min_two max_three min_three max_four min_four   -- for this text's walks alone
set_option linter.unusedVariables false
set_option linter.unusedSimpArgs false

/-! ### remontoirlaw08_TurnFirst: function 7 -/
mutual
def remontoirlaw08_TurnFirst.l0 : Nat → List (S23) → Int → List (S26) → Int → Option (Bool)
  | 0, _, _, _, _ => none
  | k + 1, x1, x5, x6, x7 => if x7 < (x1.length : Int) then (if 0 ≤ x7 then ((remontoirlaw08_job.f x7 ((rd_T23 x1 x7).f0) ((rd_T23 x1 x7).f1)).bind fun bt244 => (if x6.length < 5864062014805 then (remontoirlaw08_TurnFirst.l0 k x1 x5 (x6 ++ [(⟨bt244.1, bt244.2.1, bt244.2.2⟩ : S26)]) (wrap64 (x7 + 1))) else (none))) else (none)) else ((turn_First.f k x5 x6).bind fun t250 => (if (x6.length : Int) = 0 then (if t250 = (-1) then ((remontoirlaw08_wakes.f k).bind fun t251 => (some t251)) else (none)) else (if t250 < 0 then (remontoirlaw08_TurnFirst.j1 k x5 x6 t250 true) else (remontoirlaw08_TurnFirst.j1 k x5 x6 t250 (decide (t250 ≥ (x6.length : Int)))))))
def remontoirlaw08_TurnFirst.j1 : Nat → Int → List (S26) → Int → Bool → Option (Bool)
  | 0, _, _, _, _ => none
  | k + 1, x5, x6, x8, x53 => if x53 = true then (none) else (if 0 ≤ (x6.length : Int) then (if ((x6.length : Int) : Int).toNat ≤ 281474976710656 then (remontoirlaw08_TurnFirst.l1 k x5 x6 x8 (List.replicate ((x6.length : Int) : Int).toNat false) 0) else (none)) else (none))
def remontoirlaw08_TurnFirst.l1 : Nat → Int → List (S26) → Int → List Bool → Int → Option (Bool)
  | 0, _, _, _, _, _ => none
  | k + 1, x5, x6, x8, x9, x10 => if x10 < (x6.length : Int) then (if 0 ≤ x10 then ((turn_Ahead.f k x5 ((rd_T26 x6 x10).f0) ((rd_T26 x6 x10).f1) ((rd_T26 x6 x10).f2) x6).bind fun t256 => (if t256 < 0 then (none) else (if t256 ≥ (x6.length : Int) then (none) else (if 0 ≤ t256 then (if t256 < (x9.length : Int) then (if rdOf false x9 t256 = true then (none) else (if ((t256 == 0) != (x10 == x8)) = true then (none) else (remontoirlaw08_TurnFirst.l1 k x5 x6 x8 (x9.set (t256 : Int).toNat true) (wrap64 (x10 + 1))))) else (none)) else (none))))) else (none)) else ((remontoirlaw08_wakes.f k).bind fun t259 => (some t259))
end
def remontoirlaw08_TurnFirst.f (k : Nat) (a0 : Int) (l1 : List (S23)) : Option (Bool) := if (l1.length : Int) > 30 then ((remontoirlaw08_wakes.f k).bind fun t242 => (some t242)) else (remontoirlaw08_TurnFirst.l0 k l1 (wrap64 (1 + (Int.tmod (wrap64 (a0)) 1000))) ([] : List (S26)) 0)
theorem remontoirlaw08_TurnFirst.mono_l : ∀ k, (∀ y0 y1 y2 y3, LeO (remontoirlaw08_TurnFirst.l0 k y0 y1 y2 y3) (remontoirlaw08_TurnFirst.l0 (k + 1) y0 y1 y2 y3)) ∧ (∀ y0 y1 y2 y3, LeO (remontoirlaw08_TurnFirst.j1 k y0 y1 y2 y3) (remontoirlaw08_TurnFirst.j1 (k + 1) y0 y1 y2 y3)) ∧ (∀ y0 y1 y2 y3 y4, LeO (remontoirlaw08_TurnFirst.l1 k y0 y1 y2 y3 y4) (remontoirlaw08_TurnFirst.l1 (k + 1) y0 y1 y2 y3 y4))
  | 0 => ⟨fun _ _ _ _ r h => by simp [remontoirlaw08_TurnFirst.l0] at h, fun _ _ _ _ r h => by simp [remontoirlaw08_TurnFirst.j1] at h, fun _ _ _ _ _ r h => by simp [remontoirlaw08_TurnFirst.l1] at h⟩
  | k + 1 => by
    obtain ⟨ih0, ih1, ih2⟩ := remontoirlaw08_TurnFirst.mono_l k
    refine ⟨?_, ?_, ?_⟩
    · intro y0 y1 y2 y3
      unfold remontoirlaw08_TurnFirst.l0
      repeat' first
      | (with_reducible exact ih0 _ _ _ _)
      | (with_reducible exact ih1 _ _ _ _)
      | (with_reducible exact ih2 _ _ _ _ _)
      | (with_reducible exact remontoirlaw08_wakes.mono _)
      | (with_reducible exact turn_Ahead.mono _ _ _ _ _ _)
      | (with_reducible exact turn_First.mono _ _ _)
      | (with_reducible exact LeO.refl _)
      | (with_reducible exact LeO.none _)
      | (with_reducible refine LeO.ite ?_ ?_)
      | (with_reducible refine LeO.bind ?_ (fun _ => ?_))
      | exact ih0 _ _ _ _
      | exact ih1 _ _ _ _
      | exact ih2 _ _ _ _ _
      | exact remontoirlaw08_wakes.mono _
      | exact turn_Ahead.mono _ _ _ _ _ _
      | exact turn_First.mono _ _ _
      | exact LeO.none _
      | refine LeO.ite ?_ ?_
      | refine LeO.bind ?_ (fun _ => ?_)
    · intro y0 y1 y2 y3
      unfold remontoirlaw08_TurnFirst.j1
      repeat' first
      | (with_reducible exact ih0 _ _ _ _)
      | (with_reducible exact ih1 _ _ _ _)
      | (with_reducible exact ih2 _ _ _ _ _)
      | (with_reducible exact remontoirlaw08_wakes.mono _)
      | (with_reducible exact turn_Ahead.mono _ _ _ _ _ _)
      | (with_reducible exact turn_First.mono _ _ _)
      | (with_reducible exact LeO.refl _)
      | (with_reducible exact LeO.none _)
      | (with_reducible refine LeO.ite ?_ ?_)
      | (with_reducible refine LeO.bind ?_ (fun _ => ?_))
      | exact ih0 _ _ _ _
      | exact ih1 _ _ _ _
      | exact ih2 _ _ _ _ _
      | exact remontoirlaw08_wakes.mono _
      | exact turn_Ahead.mono _ _ _ _ _ _
      | exact turn_First.mono _ _ _
      | exact LeO.none _
      | refine LeO.ite ?_ ?_
      | refine LeO.bind ?_ (fun _ => ?_)
    · intro y0 y1 y2 y3 y4
      unfold remontoirlaw08_TurnFirst.l1
      repeat' first
      | (with_reducible exact ih0 _ _ _ _)
      | (with_reducible exact ih1 _ _ _ _)
      | (with_reducible exact ih2 _ _ _ _ _)
      | (with_reducible exact remontoirlaw08_wakes.mono _)
      | (with_reducible exact turn_Ahead.mono _ _ _ _ _ _)
      | (with_reducible exact turn_First.mono _ _ _)
      | (with_reducible exact LeO.refl _)
      | (with_reducible exact LeO.none _)
      | (with_reducible refine LeO.ite ?_ ?_)
      | (with_reducible refine LeO.bind ?_ (fun _ => ?_))
      | exact ih0 _ _ _ _
      | exact ih1 _ _ _ _
      | exact ih2 _ _ _ _ _
      | exact remontoirlaw08_wakes.mono _
      | exact turn_Ahead.mono _ _ _ _ _ _
      | exact turn_First.mono _ _ _
      | exact LeO.none _
      | refine LeO.ite ?_ ?_
      | refine LeO.bind ?_ (fun _ => ?_)
theorem remontoirlaw08_TurnFirst.mono : ∀ a0 a1 k, LeO (remontoirlaw08_TurnFirst.f k a0 a1) (remontoirlaw08_TurnFirst.f (k + 1) a0 a1) := by
  intro a0 a1 k
  obtain ⟨ih0, ih1, ih2⟩ := remontoirlaw08_TurnFirst.mono_l k
  unfold remontoirlaw08_TurnFirst.f
  repeat' first
      | (with_reducible exact ih0 _ _ _ _)
      | (with_reducible exact ih1 _ _ _ _)
      | (with_reducible exact ih2 _ _ _ _ _)
      | (with_reducible exact remontoirlaw08_wakes.mono _)
      | (with_reducible exact turn_Ahead.mono _ _ _ _ _ _)
      | (with_reducible exact turn_First.mono _ _ _)
      | (with_reducible exact LeO.refl _)
      | (with_reducible exact LeO.none _)
      | (with_reducible refine LeO.ite ?_ ?_)
      | (with_reducible refine LeO.bind ?_ (fun _ => ?_))
      | exact ih0 _ _ _ _
      | exact ih1 _ _ _ _
      | exact ih2 _ _ _ _ _
      | exact remontoirlaw08_wakes.mono _
      | exact turn_Ahead.mono _ _ _ _ _ _
      | exact turn_First.mono _ _ _
      | exact LeO.none _
      | refine LeO.ite ?_ ?_
      | refine LeO.bind ?_ (fun _ => ?_)
set_option maxHeartbeats 8000000 in
set_option maxRecDepth 100000 in
theorem remontoirlaw08_TurnFirst.calls (k : Nat) (a0 : Int) (A1 : Option Addr) (c1 : Nat) (l1 : List (S23)) (r : Bool) (w : World) (hr1 : Kd.C k23 w A1 l1.length l1) (hc1 : l1.length ≤ c1) (h : remontoirlaw08_TurnFirst.f k a0 l1 = some r) :
    Calls Try.prog 7 #[.int .u16 a0, .slice A1 l1.length c1] w fun e w' => e = .returned (.bool r) ∧ Below w.heap.size w w' := by
  have hu23 := Try.underlying23
  have hu26 := Try.underlying26
  have HR1 := Aside0.mk hr1
  have HC1 := Aside0.mk hc1
  clear hr1 hc1
  have HB := Aside0.mk (Below.refl w.heap.size w)
  have H : (if (l1.length : Int) > 30 then ((remontoirlaw08_wakes.f k).bind fun t242 => (some t242)) else (remontoirlaw08_TurnFirst.l0 k l1 (wrap64 (1 + (Int.tmod (wrap64 (a0)) 1000))) ([] : List (S26)) 0)) = some r := h
  clear h
  by_cases c3 : (l1.length : Int) > 30
  · rw [if_pos c3] at H
    have c3b0 : decide (30 < (l1.length : Int)) = true := decide_eq_true c3
    have c3b1 : decide (30 < l1.length) = true := decide_eq_true (by omega)
    clear c3
    replace H := Option.bind_eq_some_iff.mp H
    obtain ⟨t242, A40, H⟩ := H
    replace H : (some t242) = some r := H
    have A4 := Aside0.mk A40
    clear A40
    obtain rfl := Option.some.inj H
    go_enter Try.func7, Try.ntmps7
    go_wp2_with (first | ((with_reducible refine gate_callee (f := 10) rfl ?_); refine goesL_ (some 15) rfl rfl Try.func10 (by kernel_rfl) rfl #[] rfl (by (try simp only [List.map_toArray, List.map_cons, List.map_nil]); first | done | rfl | (simp only [List.length_drop, List.length_take]; rfl)) ?_; (with_reducible refine (remontoirlaw08_wakes.calls k  t242 _ A4.out).mono ?_); rintro e w5 ⟨rfl, hb⟩; refine ⟨_, rfl, ?_⟩; have n0_ := Aside0.mk (below_step (by repeat (first | (with_reducible first | exact HB.out | apply below_alloc | apply pw_below_drewN | apply below_drew1) | exact HB.out)) hb); clear HB; have HB := n0_; clear n0_; (try clear hb); (try clear hb2); (try clear hk); (try clear hi)))
    go_ret
    exact ⟨by first | rfl | (simp [errW_none, errW_some] <;> rfl) | (simp [*, errW_none, errW_some] <;> rfl), by repeat (first | (with_reducible first | exact HB.out | apply below_alloc | apply pw_below_drewN | apply below_drew1) | exact HB.out)⟩
  · rw [if_neg c3] at H
    have c3b0 : decide (30 < (l1.length : Int)) = false := decide_eq_false c3
    have c3b1 : decide (30 < l1.length) = false := decide_eq_false (by omega)
    clear c3
    have H' := Aside0.mk H
    clear H
    go_enter Try.func7, Try.ntmps7
    go_wp2
    go_loopg [6, 7] k (fun kq v6 v7 w' => ∃ (x6_1 : List (S26)) (x7_1 : Int), v7 = .int .i64 x7_1 ∧ Aside0 (remontoirlaw08_TurnFirst.l0 kq l1 (wrap64 (1 + (Int.tmod (wrap64 (a0)) 1000))) x6_1 x7_1 = some r) ∧ Aside0 (kq ≤ k) ∧ Aside0 (Kd.R k26 26 w' w.heap.size (fun _ => True) v6 x6_1) ∧ Aside0 (Below w.heap.size w w'))
    case atStart => exact ⟨(([] : List (S26))), (0), (by first | rfl | (simp; done) | (simp [*]; done)), H', ⟨Nat.le_refl _⟩, ⟨by first | exact Kd.R_nil _ _ _ _ _ | exact Kd.N_nil _ _ _ _ _ | exact Kd.V_nil _ _ _ _ _ | exact Kd.Q_nil _ _ _ _ _ | exact Kd.S_nil _ _ _ _ _⟩, ⟨by repeat (first | (with_reducible first | exact HB.out | apply below_alloc | apply pw_below_drewN | apply below_drew1) | exact HB.out)⟩⟩
    case round =>
      clear H'
      try clear c1
      try clear p2
      try clear c3
      try clear c3b0
      try clear c3b1
      obtain ⟨x6_1, x7_1, rfl, HA, HK1, HO_6, HB⟩ := hrel
      cases gk with
      | zero => exact absurd HA.out (by simp [remontoirlaw08_TurnFirst.l0])
      | succ k1 =>
        have H := HA.out
        clear HA
        simp only [remontoirlaw08_TurnFirst.l0] at H
        by_cases c6 : x7_1 < (l1.length : Int)
        · rw [if_pos c6] at H
          have c6b0 : decide (x7_1 < (l1.length : Int)) = true := decide_eq_true c6
          clear c6
          by_cases c7 : 0 ≤ x7_1
          · rw [if_pos c7] at H
            have c7b0 : decide (0 ≤ x7_1) = true := decide_eq_true c7
            clear c7
            replace H := Option.bind_eq_some_iff.mp H
            obtain ⟨⟨t244, t245, t246⟩, A80, H⟩ := H
            replace H : (if x6_1.length < 5864062014805 then (remontoirlaw08_TurnFirst.l0 k1 l1 (wrap64 (1 + (Int.tmod (wrap64 (a0)) 1000))) (x6_1 ++ [(⟨t244, t245, t246⟩ : S26)]) (wrap64 (x7_1 + 1))) else (none)) = some r := H
            have A8 := Aside0.mk A80
            clear A80
            by_cases c9 : x6_1.length < 5864062014805
            · rw [if_pos c9] at H
              have LMc9 := Aside0.mk c9
              clear c9
              obtain ⟨y247, hy247⟩ : ∃ y_ : List (S26), y_ = (x6_1 ++ [(⟨t244, t245, t246⟩ : S26)]) := ⟨_, rfl⟩
              replace H : (remontoirlaw08_TurnFirst.l0 k1 l1 (wrap64 (1 + (Int.tmod (wrap64 (a0)) 1000))) y247 (wrap64 (x7_1 + 1))) = some r := by first | (rw [hy247]; with_reducible exact H) | (have H2_ := (Option.bind_some _ _).symm.trans H; rw [hy247]; with_reducible exact H2_) | (have H2_ := (Option.bind_some _ _).symm.trans H; with_reducible exact H2_) | with_reducible exact H | (rw [hy247]; exact H) | exact H
              have Ny247 := Aside0.mk hy247
              clear hy247
              have H' := Aside0.mk H
              clear H
              have p243 : 0 ≤ (x7_1 : Int) := of_decide_eq_true (by first | (with_reducible assumption) | assumption)
              have q243 : x7_1 < (l1.length : Int) := of_decide_eq_true (by first | (with_reducible assumption) | assumption)
              obtain ⟨ad243, e243, hx243_0, hx243_1⟩ := at_T23 HR1.out x7_1 p243 q243
              cases e243
              replace hx243_0 := (HB.out.cell (World.block_lt_of_cell? w _ hx243_0)).trans hx243_0
              replace hx243_1 := (HB.out.cell (World.block_lt_of_cell? w _ hx243_1)).trans hx243_1
              replace p243 := eq_true p243
              replace q243 := eq_true q243
              go_wp2_with (first | ((with_reducible refine gate_callee (f := 8) rfl ?_); refine goesL_ (some 32) rfl rfl Try.func8 (by kernel_rfl) rfl #[.int .i64 x7_1, .agg #[.int .u16 ((rd_T23 l1 x7_1).f0), .int .u16 ((rd_T23 l1 x7_1).f1)]] rfl (by (try simp only [List.map_toArray, List.map_cons, List.map_nil]); first | done | rfl | (simp only [List.length_drop, List.length_take]; rfl)) ?_; (with_reducible refine (remontoirlaw08_job.calls x7_1 ((rd_T23 l1 x7_1).f0) ((rd_T23 l1 x7_1).f1) t244 t245 t246 _ A8.out).mono ?_); rintro e w10 ⟨rfl, hb⟩; refine ⟨_, rfl, ?_⟩; have n0_ := Aside0.mk (Kd.R_below (by (with_reducible repeat (first | apply Kd.R_alloc | apply Kd.R_drewN | apply Kd.R_drew)); exact HO_6.out) hb); have n1_ := Aside0.mk (below_step (by repeat (first | (with_reducible first | exact HB.out | apply below_alloc | apply pw_below_drewN | apply below_drew1) | exact HB.out)) hb); clear HO_6; clear HB; have HO_6 := n0_; have HB := n1_; clear n0_ n1_; (try clear hb); (try clear hb2); (try clear hk); (try clear hi)) | ((with_reducible refine gate_builtin (b := .append) (xs := #[.tmp 26, .tmp 33]) rfl ?_); (try (refine gate_guard (by rfl) ?_; dsimp only)); at_builtin; refine Kd.R_append k26 (w0 := w) w.heap.size rfl (.tmp 26) (.tmp 33) 33 26 (.agg #[(.int .i64 0), (.int .i64 0), (.int .i64 0)]) 24 rfl Try.underlying33 info26 rfl (by decide) (by omega) u6 x6_1 (⟨t244, t245, t246⟩ : S26) [.int .i64 t244, .int .i64 t245, .int .i64 t246] (fun _ => True) (fun _ => False) rfl rfl ?aP (fun _ hk => hk.elim) ?aF ?aO ?aB ?aS ?aL ?_; (case aP => exact k26_mkM _ _ _ (⟨t244, t245, t246⟩ : S26)); (case aB => exact (by repeat (first | (with_reducible first | exact HB.out | apply below_alloc | apply pw_below_drewN | apply below_drew1) | exact HB.out))); (case aF => exact (fun _ _ => trivial)); (case aO => exact (by (with_reducible repeat (first | apply Kd.R_alloc | apply Kd.R_drewN | apply Kd.R_drew)); exact HO_6.out)); (case aS => exact (below_size (by repeat (first | (with_reducible first | exact HB.out | apply below_alloc | apply pw_below_drewN | apply below_drew1) | exact HB.out)))); (case aL => have := LMc9.out; omega); intro v248 w11 ho hb hg hat; rw [← Ny247.out] at ho; have n0_ := Aside0.mk (hb); have n1_ := Aside0.mk (ho); clear HB; clear HO_6; have HB := n0_; have HO249 := n1_; clear n0_ n1_; clear ho hb hg hat))
              go_roundg k1
              case measure => have := HK1.out; omega
              case rel => exact ⟨(y247), (wrap64 (x7_1 + 1)), (by first | rfl | (simp; done) | (simp [*]; done)), H', ⟨by have := HK1.out; omega⟩, ⟨by (with_reducible repeat (first | apply Kd.R_alloc | apply Kd.R_drewN | apply Kd.R_drew)); exact HO249.out⟩, ⟨by repeat (first | (with_reducible first | exact HB.out | apply below_alloc | apply pw_below_drewN | apply below_drew1) | exact HB.out)⟩⟩
            · rw [if_neg c9] at H
              exact absurd H (by simp)
          · rw [if_neg c7] at H
            exact absurd H (by simp)
        · rw [if_neg c6] at H
          have c6b0 : decide (x7_1 < (l1.length : Int)) = false := decide_eq_false c6
          clear c6
          replace H := Option.bind_eq_some_iff.mp H
          obtain ⟨t250, A120, H⟩ := H
          replace H : (if (x6_1.length : Int) = 0 then (if t250 = (-1) then ((remontoirlaw08_wakes.f k1).bind fun t251 => (some t251)) else (none)) else (if t250 < 0 then (remontoirlaw08_TurnFirst.j1 k1 (wrap64 (1 + (Int.tmod (wrap64 (a0)) 1000))) x6_1 t250 true) else (remontoirlaw08_TurnFirst.j1 k1 (wrap64 (1 + (Int.tmod (wrap64 (a0)) 1000))) x6_1 t250 (decide (t250 ≥ (x6_1.length : Int)))))) = some r := H
          have A12 := Aside0.mk A120
          clear A120
          by_cases c13 : (x6_1.length : Int) = 0
          · rw [if_pos c13] at H
            have c13b0 : ((x6_1.length : Int) == 0) = true := beq_iff_eq.mpr c13
            have c13b1 : ((x6_1.length : Int) != 0) = false := bne_eq_false_iff_eq.mpr c13
            clear c13
            by_cases c14 : t250 = (-1)
            · rw [if_pos c14] at H
              have c14b0 : (t250 == (-1)) = true := beq_iff_eq.mpr c14
              have c14b1 : (t250 != (-1)) = false := bne_eq_false_iff_eq.mpr c14
              clear c14
              replace H := Option.bind_eq_some_iff.mp H
              obtain ⟨t251, A150, H⟩ := H
              replace H : (some t251) = some r := H
              have A15 := Aside0.mk A150
              clear A150
              obtain rfl := Option.some.inj H
              obtain ⟨Ao16, co16, eo16⟩ := Kd.R_slice HO_6.out
              subst eo16
              go_wp2_with (first | ((with_reducible refine gate_callee (f := 12) rfl ?_); refine goesL_ (some 37) rfl rfl Try.func12 (by kernel_rfl) rfl #[.int .i64 (wrap64 (1 + (Int.tmod (wrap64 (a0)) 1000))), .slice Ao16 x6_1.length co16] rfl (by (try simp only [List.map_toArray, List.map_cons, List.map_nil]); first | done | rfl | (simp only [List.length_drop, List.length_take]; rfl)) ?_; (with_reducible refine (turn_First.calls k1 (wrap64 (1 + (Int.tmod (wrap64 (a0)) 1000))) _ _ x6_1 t250 _ ?side1 ?side2 A12.out).mono ?_); (case side1 => repeat (first | exact (Kd.R_reads' HO_6.out).2.2 | (with_reducible refine Kd.C_alloc ?_ _) | (with_reducible refine Kd.C_drewN ?_ _) | (with_reducible refine Kd.C_drew ?_))); (case side2 => exact (Kd.R_reads' HO_6.out).2.1); rintro e w17 ⟨rfl, hb⟩; refine ⟨_, rfl, ?_⟩; have n0_ := Aside0.mk (Kd.R_below (by (with_reducible repeat (first | apply Kd.R_alloc | apply Kd.R_drewN | apply Kd.R_drew)); exact HO_6.out) hb); have n1_ := Aside0.mk (below_step (by repeat (first | (with_reducible first | exact HB.out | apply below_alloc | apply pw_below_drewN | apply below_drew1) | exact HB.out)) hb); clear HO_6; clear HB; have HO_6 := n0_; have HB := n1_; clear n0_ n1_; (try clear hb); (try clear hb2); (try clear hk); (try clear hi)) | (go_at_call 10; (with_reducible refine (remontoirlaw08_wakes.calls k1  t251 _ A15.out).mono ?_); rintro e w18 ⟨rfl, hb⟩; have n0_ := Aside0.mk (Kd.R_below (by (with_reducible repeat (first | apply Kd.R_alloc | apply Kd.R_drewN | apply Kd.R_drew)); exact HO_6.out) hb); have n1_ := Aside0.mk (below_step (by repeat (first | (with_reducible first | exact HB.out | apply below_alloc | apply pw_below_drewN | apply below_drew1) | exact HB.out)) hb); clear HO_6; clear HB; have HO_6 := n0_; have HB := n1_; clear n0_ n1_; (try clear hb); (try clear hb2); (try clear hk); (try clear hi)))
              go_ret
              exact ⟨by first | rfl | (simp [errW_none, errW_some] <;> rfl) | (simp [*, errW_none, errW_some] <;> rfl), by repeat (first | (with_reducible first | exact HB.out | apply below_alloc | apply pw_below_drewN | apply below_drew1) | exact HB.out)⟩
            · rw [if_neg c14] at H
              exact absurd H (by simp)
          · rw [if_neg c13] at H
            have c13b0 : ((x6_1.length : Int) == 0) = false := beq_eq_false_iff_ne.mpr c13
            have c13b1 : ((x6_1.length : Int) != 0) = true := bne_iff_ne.mpr c13
            have c13b2 : ¬ (x6_1 = []) := fun h_ => c13 (by rw [h_]; rfl)
            have HC19 := Aside0.mk H
            clear H
            obtain ⟨Ao20, co20, eo20⟩ := Kd.R_slice HO_6.out
            subst eo20
            go_upto_region 12 with (first | ((with_reducible refine gate_callee (f := 12) rfl ?_); refine goesL_ (some 37) rfl rfl Try.func12 (by kernel_rfl) rfl #[.int .i64 (wrap64 (1 + (Int.tmod (wrap64 (a0)) 1000))), .slice Ao20 x6_1.length co20] rfl (by (try simp only [List.map_toArray, List.map_cons, List.map_nil]); first | done | rfl | (simp only [List.length_drop, List.length_take]; rfl)) ?_; (with_reducible refine (turn_First.calls k1 (wrap64 (1 + (Int.tmod (wrap64 (a0)) 1000))) _ _ x6_1 t250 _ ?side1 ?side2 A12.out).mono ?_); (case side1 => repeat (first | exact (Kd.R_reads' HO_6.out).2.2 | (with_reducible refine Kd.C_alloc ?_ _) | (with_reducible refine Kd.C_drewN ?_ _) | (with_reducible refine Kd.C_drew ?_))); (case side2 => exact (Kd.R_reads' HO_6.out).2.1); rintro e w21 ⟨rfl, hb⟩; refine ⟨_, rfl, ?_⟩; have n0_ := Aside0.mk (Kd.R_below (by (with_reducible repeat (first | apply Kd.R_alloc | apply Kd.R_drewN | apply Kd.R_drew)); exact HO_6.out) hb); have n1_ := Aside0.mk (below_step (by repeat (first | (with_reducible first | exact HB.out | apply below_alloc | apply pw_below_drewN | apply below_drew1) | exact HB.out)) hb); clear HO_6; clear HB; have HO_6 := n0_; have HB := n1_; clear n0_ n1_; (try clear hb); (try clear hb2); (try clear hk); (try clear hi)))
            (try simp only [Act.put, List.setIfInBounds_toArray, List.set_cons_zero, List.set_cons_succ])
            go_cut [53] (fun v53 wc => ∃ (kq : Nat) (x53_18 : Bool), v53 = .bool x53_18 ∧ Aside0 (remontoirlaw08_TurnFirst.j1 kq (wrap64 (1 + (Int.tmod (wrap64 (a0)) 1000))) x6_1 t250 x53_18 = some r) ∧ Aside0 (kq ≤ k1) ∧ Aside0 (Kd.R k26 26 wc w.heap.size (fun _ => True) (.slice Ao20 x6_1.length co20) x6_1) ∧ Aside0 (Below w.heap.size w wc))
            case first =>
              have H := HC19.out
              clear HC19
              by_cases c22 : t250 < 0
              · rw [if_pos c22] at H
                have c22b0 : decide (t250 < 0) = true := decide_eq_true c22
                clear c22
                (first | rw [c22b0] | (simp only [i64_w, i32_w]; rw [c22b0]) | skip)
                have H' := Aside0.mk H
                clear H
                go_wp2
                go_meet
                case rel => exact ⟨_, (true), (by first | rfl | (simp; done) | (simp [*]; done)), H', ⟨by have := HK1.out; first | omega | exact Nat.le_refl _⟩, ⟨by (with_reducible repeat (first | apply Kd.R_alloc | apply Kd.R_drewN | apply Kd.R_drew)); exact HO_6.out⟩, ⟨by repeat (first | (with_reducible first | exact HB.out | apply below_alloc | apply pw_below_drewN | apply below_drew1) | exact HB.out)⟩⟩
              · rw [if_neg c22] at H
                have c22b0 : decide (t250 < 0) = false := decide_eq_false c22
                clear c22
                (first | rw [c22b0] | (simp only [i64_w, i32_w]; rw [c22b0]) | skip)
                have H' := Aside0.mk H
                clear H
                go_wp2
                go_meet
                case rel => exact ⟨_, (decide (t250 ≥ (x6_1.length : Int))), (by first | rfl | (simp; done) | (simp [*]; done)), H', ⟨by have := HK1.out; first | omega | exact Nat.le_refl _⟩, ⟨by (with_reducible repeat (first | apply Kd.R_alloc | apply Kd.R_drewN | apply Kd.R_drew)); exact HO_6.out⟩, ⟨by repeat (first | (with_reducible first | exact HB.out | apply below_alloc | apply pw_below_drewN | apply below_drew1) | exact HB.out)⟩⟩
            case rest =>
              clear HC19
              try clear c1
              try clear c2
              try clear p2
              try clear q2
              try clear hx2
              try clear c3
              try clear c3b0
              try clear c3b1
              try clear c6
              try clear c6b0
              try clear p6
              try clear c7
              try clear c7b0
              try clear c8
              try clear c9
              try clear c10
              try clear c12
              try clear c13
              try clear c13b0
              try clear c13b1
              try clear c13b2
              try clear c14
              try clear c14b0
              try clear c14b1
              try clear c22
              try clear c22b0
              try clear hx243_0
              try clear hx243_1
              try clear p2
              try clear p243
              try clear q243
              obtain ⟨kq, x53_18, rfl, HA, HJ18, HO_6, HB⟩ := hcut
              cases kq with
              | zero => exact absurd HA.out (by simp [remontoirlaw08_TurnFirst.j1])
              | succ kj18 =>
                have H := HA.out
                clear HA
                simp only [remontoirlaw08_TurnFirst.j1] at H
                by_cases c23 : x53_18 = true
                · subst c23
                  have H1 : (none) = some r := by rw [if_pos rfl] at H; exact H
                  clear H
                  have H := H1
                  clear H1
                  exact absurd H (by simp)
                · replace c23 := Bool.eq_false_iff.mpr c23
                  subst c23
                  have H1 : (if 0 ≤ (x6_1.length : Int) then (if ((x6_1.length : Int) : Int).toNat ≤ 281474976710656 then (remontoirlaw08_TurnFirst.l1 kj18 (wrap64 (1 + (Int.tmod (wrap64 (a0)) 1000))) x6_1 t250 (List.replicate ((x6_1.length : Int) : Int).toNat false) 0) else (none)) else (none)) = some r := by rw [if_neg (show ¬ (false = true) by decide)] at H; exact H
                  clear H
                  have H := H1
                  clear H1
                  by_cases c24 : 0 ≤ (x6_1.length : Int)
                  · rw [if_pos c24] at H
                    have c24b0 := eq_true c24
                    have c24b1 : decide (0 ≤ (x6_1.length : Int)) = true := decide_eq_true c24
                    clear c24
                    by_cases c25 : ((x6_1.length : Int) : Int).toNat ≤ 281474976710656
                    · rw [if_pos c25] at H
                      have c25b0 := eq_true c25
                      have c25b1 : decide (((x6_1.length : Int) : Int).toNat ≤ 281474976710656) = true := decide_eq_true c25
                      clear c25
                      obtain ⟨y252, hy252⟩ : ∃ y_ : List Bool, y_ = (List.replicate ((x6_1.length : Int) : Int).toNat false) := ⟨_, rfl⟩
                      replace H : (remontoirlaw08_TurnFirst.l1 kj18 (wrap64 (1 + (Int.tmod (wrap64 (a0)) 1000))) x6_1 t250 y252 0) = some r := by first | (rw [hy252]; with_reducible exact H) | (have H2_ := (Option.bind_some _ _).symm.trans H; rw [hy252]; with_reducible exact H2_) | (have H2_ := (Option.bind_some _ _).symm.trans H; with_reducible exact H2_) | with_reducible exact H | (rw [hy252]; exact H) | exact H
                      have Ny252 := Aside0.mk hy252
                      clear hy252
                      have H' := Aside0.mk H
                      clear H
                      go_wp2_with (first | ((with_reducible refine gate_dst (N := 56) rfl ?_); (try (refine gate_guard (by rfl) ?_; dsimp only)); refine Kd.R_make Kd.bool _ 4 rfl (N := 56) rfl 46 _ _ rfl (x6_1.length : Int) rfl rfl Try.underlying46 (.bool false) 1 info4 rfl (by decide) (by omega) false (ok := fun _ => True) (okp := fun _ => True) rfl (fun _ hk => hk) trivial (of_decide_eq_true (by first | (with_reducible assumption) | assumption)) (Nat.le_trans (Nat.mul_le_mul_right _ (of_decide_eq_true (by first | (with_reducible assumption) | assumption) : (x6_1.length : Int).toNat ≤ 281474976710656)) (by omega)) (Below.refl _ _) (Nat.le_refl _) ?_; intro v253 w26 ho27 hb hg_ hnew_; clear hg_ hnew_; (first | rw [← Ny252.out] at ho27 | (simp only [Int.reduceToNat] at ho27; rw [← Ny252.out] at ho27)); have n0_ := Aside0.mk (Kd.R_below (by (with_reducible repeat (first | apply Kd.R_alloc | apply Kd.R_drewN | apply Kd.R_drew)); exact HO_6.out) hb); have n1_ := Aside0.mk (Kd.R_lower ho27 (below_size (by repeat (first | (with_reducible first | exact HB.out | apply below_alloc | apply pw_below_drewN | apply below_drew1) | exact HB.out)))); have n2_ := Aside0.mk (below_step (by repeat (first | (with_reducible first | exact HB.out | apply below_alloc | apply pw_below_drewN | apply below_drew1) | exact HB.out)) hb); clear HO_6; clear HB; have HO_6 := n0_; have HO254 := n1_; have HB := n2_; clear n0_ n1_ n2_; clear hb ho27))
                      go_loopg [10] kj18 (fun kq v10 w' => ∃ (x9_3 : List Bool) (x10_3 : Int), v10 = .int .i64 x10_3 ∧ Aside0 (remontoirlaw08_TurnFirst.l1 kq (wrap64 (1 + (Int.tmod (wrap64 (a0)) 1000))) x6_1 t250 x9_3 x10_3 = some r) ∧ Aside0 (kq ≤ kj18) ∧ Aside0 (Kd.R k26 26 w' w.heap.size (fun _ => True) (.slice Ao20 x6_1.length co20) x6_1) ∧ Aside0 (Kd.R Kd.bool 4 w' w.heap.size (fun _ => True) v253 x9_3) ∧ Aside0 (Below w.heap.size w w'))
                      case atStart => exact ⟨(y252), (0), (by first | rfl | (simp; done) | (simp [*]; done)), H', ⟨Nat.le_refl _⟩, ⟨by (with_reducible repeat (first | apply Kd.R_alloc | apply Kd.R_drewN | apply Kd.R_drew)); exact HO_6.out⟩, ⟨by (with_reducible repeat (first | apply Kd.R_alloc | apply Kd.R_drewN | apply Kd.R_drew)); exact HO254.out⟩, ⟨by repeat (first | (with_reducible first | exact HB.out | apply below_alloc | apply pw_below_drewN | apply below_drew1) | exact HB.out)⟩⟩
                      case round =>
                        clear H'
                        try clear c1
                        try clear c2
                        try clear p2
                        try clear q2
                        try clear hx2
                        try clear c3
                        try clear c3b0
                        try clear c3b1
                        try clear c6
                        try clear c6b0
                        try clear p6
                        try clear c7
                        try clear c7b0
                        try clear c8
                        try clear c9
                        try clear c10
                        try clear c12
                        try clear c13
                        try clear c13b0
                        try clear c13b1
                        try clear c13b2
                        try clear c14
                        try clear c14b0
                        try clear c14b1
                        try clear c22
                        try clear c22b0
                        try clear c23
                        try clear c24
                        try clear c24b0
                        try clear c24b1
                        try clear p24
                        try clear q24
                        try clear hx24
                        try clear c25
                        try clear c25b0
                        try clear c25b1
                        try clear hx243_0
                        try clear hx243_1
                        try clear p2
                        try clear p243
                        try clear p6
                        try clear q2
                        try clear q243
                        obtain ⟨x9_3, x10_3, rfl, HA, HK3, HO_6, HO_9, HB⟩ := hrel
                        cases gk with
                        | zero => exact absurd HA.out (by simp [remontoirlaw08_TurnFirst.l1])
                        | succ k3 =>
                          have H := HA.out
                          clear HA
                          simp only [remontoirlaw08_TurnFirst.l1] at H
                          by_cases c28 : x10_3 < (x6_1.length : Int)
                          · rw [if_pos c28] at H
                            have c28b0 : decide (x10_3 < (x6_1.length : Int)) = true := decide_eq_true c28
                            clear c28
                            by_cases c29 : 0 ≤ x10_3
                            · rw [if_pos c29] at H
                              have c29b0 : decide (0 ≤ x10_3) = true := decide_eq_true c29
                              clear c29
                              replace H := Option.bind_eq_some_iff.mp H
                              obtain ⟨t256, A300, H⟩ := H
                              replace H : (if t256 < 0 then (none) else (if t256 ≥ (x6_1.length : Int) then (none) else (if 0 ≤ t256 then (if t256 < (x9_3.length : Int) then (if rdOf false x9_3 t256 = true then (none) else (if ((t256 == 0) != (x10_3 == t250)) = true then (none) else (remontoirlaw08_TurnFirst.l1 k3 (wrap64 (1 + (Int.tmod (wrap64 (a0)) 1000))) x6_1 t250 (x9_3.set (t256 : Int).toNat true) (wrap64 (x10_3 + 1))))) else (none)) else (none)))) = some r := H
                              have A30 := Aside0.mk A300
                              clear A300
                              by_cases c31 : t256 < 0
                              · rw [if_pos c31] at H
                                exact absurd H (by simp)
                              · rw [if_neg c31] at H
                                have c31b0 : decide (t256 < 0) = false := decide_eq_false c31
                                clear c31
                                by_cases c32 : t256 ≥ (x6_1.length : Int)
                                · rw [if_pos c32] at H
                                  exact absurd H (by simp)
                                · rw [if_neg c32] at H
                                  have c32b0 : decide ((x6_1.length : Int) ≤ t256) = false := decide_eq_false c32
                                  clear c32
                                  by_cases c33 : 0 ≤ t256
                                  · rw [if_pos c33] at H
                                    have c33b0 : decide (0 ≤ t256) = true := decide_eq_true c33
                                    clear c33
                                    by_cases c34 : t256 < (x9_3.length : Int)
                                    · rw [if_pos c34] at H
                                      have c34b0 : decide (t256 < (x9_3.length : Int)) = true := decide_eq_true c34
                                      clear c34
                                      obtain ⟨bq35, hbq35⟩ : ∃ b_ : Bool, b_ = (rdOf false x9_3 t256) := ⟨_, rfl⟩
                                      replace H : (if bq35 = true then (none) else (if ((t256 == 0) != (x10_3 == t250)) = true then (none) else (remontoirlaw08_TurnFirst.l1 k3 (wrap64 (1 + (Int.tmod (wrap64 (a0)) 1000))) x6_1 t250 (x9_3.set (t256 : Int).toNat true) (wrap64 (x10_3 + 1))))) = some r := by rw [← hbq35] at H; exact H
                                      have Nbq35 := Aside0.mk hbq35
                                      clear hbq35
                                      by_cases c36 : bq35 = true
                                      · subst c36
                                        have H1 : (none) = some r := by rw [if_pos rfl] at H; exact H
                                        clear H
                                        have H := H1
                                        clear H1
                                        exact absurd H (by simp)
                                      · replace c36 := Bool.eq_false_iff.mpr c36
                                        subst c36
                                        have H1 : (if ((t256 == 0) != (x10_3 == t250)) = true then (none) else (remontoirlaw08_TurnFirst.l1 k3 (wrap64 (1 + (Int.tmod (wrap64 (a0)) 1000))) x6_1 t250 (x9_3.set (t256 : Int).toNat true) (wrap64 (x10_3 + 1)))) = some r := by rw [if_neg (show ¬ (false = true) by decide)] at H; exact H
                                        clear H
                                        have H := H1
                                        clear H1
                                        by_cases c37 : ((t256 == 0) != (x10_3 == t250)) = true
                                        · rw [if_pos c37] at H
                                          exact absurd H (by simp)
                                        · rw [if_neg c37] at H
                                          have c37b0 : ((t256 == 0) != (x10_3 == t250)) = false := by simpa using c37
                                          (try (have c37b1 : decide ((t256 == 0) = (x10_3 == t250)) = true := by simpa using c37))
                                          (try (have c37b2 : ((t256 == 0) == (x10_3 == t250)) = true := by simpa using c37))
                                          clear c37
                                          obtain ⟨y258, hy258⟩ : ∃ y_ : List Bool, y_ = (x9_3.set (t256 : Int).toNat true) := ⟨_, rfl⟩
                                          replace H : (remontoirlaw08_TurnFirst.l1 k3 (wrap64 (1 + (Int.tmod (wrap64 (a0)) 1000))) x6_1 t250 y258 (wrap64 (x10_3 + 1))) = some r := by first | (rw [hy258]; with_reducible exact H) | (have H2_ := (Option.bind_some _ _).symm.trans H; rw [hy258]; with_reducible exact H2_) | (have H2_ := (Option.bind_some _ _).symm.trans H; with_reducible exact H2_) | with_reducible exact H | (rw [hy258]; exact H) | exact H
                                          have Ny258 := Aside0.mk hy258
                                          clear hy258
                                          have H' := Aside0.mk H
                                          clear H
                                          have p255 : 0 ≤ (x10_3 : Int) := of_decide_eq_true (by first | (with_reducible assumption) | assumption)
                                          have q255 : x10_3 < (x6_1.length : Int) := of_decide_eq_true (by first | (with_reducible assumption) | assumption)
                                          obtain ⟨ad255, e255, hx255_0, hx255_1, hx255_2⟩ := at_T26 (Kd.R_reads' HO_6.out).2.2 x10_3 p255 q255
                                          cases e255
                                          replace p255 := eq_true p255
                                          replace q255 := eq_true q255
                                          go_wp2_with (first | ((with_reducible refine gate_callee (f := 19) rfl ?_); refine goesL_ (some 69) rfl rfl Try.func19 (by kernel_rfl) rfl #[.int .i64 (wrap64 (1 + (Int.tmod (wrap64 (a0)) 1000))), .agg #[.int .i64 ((rd_T26 x6_1 x10_3).f0), .int .i64 ((rd_T26 x6_1 x10_3).f1), .int .i64 ((rd_T26 x6_1 x10_3).f2)], .slice (some ad255) x6_1.length co20] rfl (by (try simp only [List.map_toArray, List.map_cons, List.map_nil]); first | done | rfl | (simp only [List.length_drop, List.length_take]; rfl)) ?_; (with_reducible refine (turn_Ahead.calls k3 (wrap64 (1 + (Int.tmod (wrap64 (a0)) 1000))) ((rd_T26 x6_1 x10_3).f0) ((rd_T26 x6_1 x10_3).f1) ((rd_T26 x6_1 x10_3).f2) _ _ x6_1 t256 _ ?side1 ?side2 A30.out).mono ?_); (case side1 => repeat (first | exact (Kd.R_reads' HO_6.out).2.2 | (with_reducible refine Kd.C_alloc ?_ _) | (with_reducible refine Kd.C_drewN ?_ _) | (with_reducible refine Kd.C_drew ?_))); (case side2 => exact (Kd.R_reads' HO_6.out).2.1); rintro e w39 ⟨rfl, hb⟩; refine ⟨_, rfl, ?_⟩; have n0_ := Aside0.mk (Kd.R_below (by (with_reducible repeat (first | apply Kd.R_alloc | apply Kd.R_drewN | apply Kd.R_drew)); exact HO_6.out) hb); have n1_ := Aside0.mk (Kd.R_below (by (with_reducible repeat (first | apply Kd.R_alloc | apply Kd.R_drewN | apply Kd.R_drew)); exact HO_9.out) hb); have n2_ := Aside0.mk (below_step (by repeat (first | (with_reducible first | exact HB.out | apply below_alloc | apply pw_below_drewN | apply below_drew1) | exact HB.out)) hb); clear HO_6; clear HO_9; clear HB; have HO_6 := n0_; have HO_9 := n1_; have HB := n2_; clear n0_ n1_ n2_; (try clear hb); (try clear hb2); (try clear hk); (try clear hi); obtain ⟨Ao40, co40, eo40⟩ := Kd.R_slice HO_9.out; subst eo40; have p257 : 0 ≤ (t256 : Int) := of_decide_eq_true (by first | (with_reducible assumption) | assumption); have q257 : t256 < (x9_3.length : Int) := of_decide_eq_true (by first | (with_reducible assumption) | assumption); obtain ⟨ad257, e257, hx257_0⟩ := Kd.at_bool (Kd.R_reads' HO_9.out).2.2 t256 p257 q257; (try rw [← Nbq35.out] at hx257_0); cases e257; replace p257 := eq_true p257; replace q257 := eq_true q257; have p38 : 0 ≤ (t256 : Int) := of_decide_eq_true (by first | (with_reducible assumption) | assumption); have q38 : (t256 : Int) < ((x9_3.length : Int) : Int) := of_decide_eq_true (by first | (with_reducible assumption) | assumption); obtain ⟨go38, co38, eo38, gb38, gl38, cl38, HG38⟩ := Kd.R_form HO_9.out (by omega); (first | cases eo38 | (injection eo38 with ea_ en_ ec_; (first | subst ea_ | (injection ea_ with ea_; subst ea_)); subst ec_; clear en_)); have GB38 := Aside0.mk gb38; have GG38 := Aside0.mk HG38; clear gb38 gl38 HG38; (first | simp only [add_plain] at hx257_0 | skip); obtain ⟨hx38_0, hf38_0⟩ := Kd.R_celln false HO_9.out (t256 : Int) p38 q38; replace p38 := eq_true p38; replace q38 := eq_true q38; obtain ⟨hy41_, hz41_⟩ := Kd.R_celln false HO_9.out (t256 : Int) (of_decide_eq_true (by first | (with_reducible assumption) | assumption)) (of_decide_eq_true (by first | (with_reducible assumption) | assumption)); have HP41 := Kd.R_putg HO_9.out (t256 : Int) true) | ((with_reducible refine gate_store (t := 4) (p := 94) rfl ?_); refine store_event (t := 4) (p := 94) (v := ?vo_w42) (w1 := (w39.setCell ⟨go38, (t256 : Int).toNat, none⟩ (.bool true))) ?hg ?ho ?hn ?hr ?_; (case ho => rfl); (case hg => rfl); (case hn => rfl); (case hr => first | (go_simp; done) | (go_simp; rfl)); intro w42 hw; have hg : w39.grownBy w42 (some go38) := (by rw [hw]; exact HP41.2); have hp_ : Kd.R Kd.bool 4 w42 w.heap.size (fun _ => True) (.slice (some ⟨go38, 0, none⟩) x9_3.length co40) y258 := (by rw [hw, Ny258.out]; exact HP41.1); clear HP41; have n0_ := Aside0.mk (Kd.R_over' (v := (.slice (some ⟨go38, 0, none⟩) x9_3.length co40)) (by (with_reducible repeat (first | apply Kd.R_alloc | apply Kd.R_drewN | apply Kd.R_drew)); exact HO_6.out) (Kd.R_typed HO_9.out) (by decide) hg); have n1_ := Aside0.mk (hp_); have n2_ := Aside0.mk ((by rw [hw]; exact below_set (HB.out) GB38.out : Below w.heap.size w w42)); clear HO_6; clear HO_9; clear HB; have HO_6 := n0_; have HO_9 := n1_; have HB := n2_; clear n0_ n1_ n2_; clear hg hw hp_))
                                          go_roundg k3
                                          case measure => have := HK1.out; have := HJ18.out; have := HK3.out; omega
                                          case rel => exact ⟨(y258), (wrap64 (x10_3 + 1)), (by first | rfl | (simp; done) | (simp [*]; done)), H', ⟨by have := HK1.out; have := HJ18.out; have := HK3.out; omega⟩, ⟨by (with_reducible repeat (first | apply Kd.R_alloc | apply Kd.R_drewN | apply Kd.R_drew)); exact HO_6.out⟩, ⟨by (with_reducible repeat (first | apply Kd.R_alloc | apply Kd.R_drewN | apply Kd.R_drew)); exact HO_9.out⟩, ⟨by repeat (first | (with_reducible first | exact HB.out | apply below_alloc | apply pw_below_drewN | apply below_drew1) | exact HB.out)⟩⟩
                                    · rw [if_neg c34] at H
                                      exact absurd H (by simp)
                                  · rw [if_neg c33] at H
                                    exact absurd H (by simp)
                            · rw [if_neg c29] at H
                              exact absurd H (by simp)
                          · rw [if_neg c28] at H
                            have c28b0 : decide (x10_3 < (x6_1.length : Int)) = false := decide_eq_false c28
                            clear c28
                            replace H := Option.bind_eq_some_iff.mp H
                            obtain ⟨t259, A430, H⟩ := H
                            replace H : (some t259) = some r := H
                            have A43 := Aside0.mk A430
                            clear A430
                            obtain rfl := Option.some.inj H
                            go_wp2_with (first | ((with_reducible refine gate_callee (f := 10) rfl ?_); refine goesL_ (some 95) rfl rfl Try.func10 (by kernel_rfl) rfl #[] rfl (by (try simp only [List.map_toArray, List.map_cons, List.map_nil]); first | done | rfl | (simp only [List.length_drop, List.length_take]; rfl)) ?_; (with_reducible refine (remontoirlaw08_wakes.calls k3  t259 _ A43.out).mono ?_); rintro e w44 ⟨rfl, hb⟩; refine ⟨_, rfl, ?_⟩; have n0_ := Aside0.mk (Kd.R_below (by (with_reducible repeat (first | apply Kd.R_alloc | apply Kd.R_drewN | apply Kd.R_drew)); exact HO_6.out) hb); have n1_ := Aside0.mk (Kd.R_below (by (with_reducible repeat (first | apply Kd.R_alloc | apply Kd.R_drewN | apply Kd.R_drew)); exact HO_9.out) hb); have n2_ := Aside0.mk (below_step (by repeat (first | (with_reducible first | exact HB.out | apply below_alloc | apply pw_below_drewN | apply below_drew1) | exact HB.out)) hb); clear HO_6; clear HO_9; clear HB; have HO_6 := n0_; have HO_9 := n1_; have HB := n2_; clear n0_ n1_ n2_; (try clear hb); (try clear hb2); (try clear hk); (try clear hi)))
                            go_ret
                            exact ⟨by first | rfl | (simp [errW_none, errW_some] <;> rfl) | (simp [*, errW_none, errW_some] <;> rfl), by repeat (first | (with_reducible first | exact HB.out | apply below_alloc | apply pw_below_drewN | apply below_drew1) | exact HB.out)⟩
                    · rw [if_neg c25] at H
                      exact absurd H (by simp)
                  · rw [if_neg c24] at H
                    exact absurd H (by simp)

end Go.Proofs.Ytdnonlapiheenaa.PAll
