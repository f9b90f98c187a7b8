-- Printed by a program of ours (wip/common/mkprint.py), turned from the kit's print; Lean checks it.
import Derived.Test.YtedolmjealgeoaaDoorPBasex0
import Derived.Test.YtedolmjealgeoaaDoorPBasex3
namespace Go.Proofs.YtedolmjealgeoaaDoor.PBase
open Go.Proofs.YtedolmjealgeoaaDoor.Gv
open Go.RowKit Go.Proofs.YtedolmjealgeoaaDoorW.PrintWords Go.Proofs.YtedolmjealgeoaaDoorW.PrintLast Go.Proofs.YtedolmjealgeoaaDoorW.PrintMore
attribute [local go_sem] max2_int min2_int max_two min_two max_three min_three max_four min_four   -- for this text's walks alone
set_option linter.unusedVariables false
set_option linter.unusedSimpArgs false

/-! ### remontoirref04_Next: function 94 -/
def remontoirref04_Next.l0 : Nat → Int → List Int → Int → Int → Option (Int × Bool)
  | 0, _, _, _, _ => none
  | k + 1, x1, x8, x9, x10 => if x10 < x9 then (if 0 ≤ x10 then (if x10 < (x8.length : Int) then (if (rd x8 x10) ≥ x1 then (some (rd x8 x10, true)) else (remontoirref04_Next.l0 k x1 x8 x9 (wrap64 (x10 + 1)))) else (none)) else (none)) else (some (0, false))
def remontoirref04_Next.f (k : Nat) (a0 : Int) (a1 : Int) : Option (Int × Bool) := (remontoirref04_List.f k a0).bind fun t171 => (remontoirref04_Next.l0 k a1 t171 (t171.length : Int) 0)
theorem remontoirref04_Next.mono_l : ∀ k, (∀ y0 y1 y2 y3, LeO (remontoirref04_Next.l0 k y0 y1 y2 y3) (remontoirref04_Next.l0 (k + 1) y0 y1 y2 y3))
  | 0 => fun _ _ _ _ r h => by simp [remontoirref04_Next.l0] at h
  | k + 1 => by
    have ih0 := remontoirref04_Next.mono_l k
    · intro y0 y1 y2 y3
      unfold remontoirref04_Next.l0
      repeat' first
      | (with_reducible exact ih0 _ _ _ _)
      | (with_reducible exact remontoirref04_List.mono _ _)
      | (with_reducible exact LeO.refl _)
      | (with_reducible exact LeO.none _)
      | (with_reducible refine LeO.ite ?_ ?_)
      | (with_reducible refine LeO.bind ?_ (fun _ => ?_))
      | exact ih0 _ _ _ _
      | exact remontoirref04_List.mono _ _
      | exact LeO.none _
      | refine LeO.ite ?_ ?_
      | refine LeO.bind ?_ (fun _ => ?_)
theorem remontoirref04_Next.mono : ∀ a0 a1 k, LeO (remontoirref04_Next.f k a0 a1) (remontoirref04_Next.f (k + 1) a0 a1) := by
  intro a0 a1 k
  have ih0 := remontoirref04_Next.mono_l k
  unfold remontoirref04_Next.f
  repeat' first
      | (with_reducible exact ih0 _ _ _ _)
      | (with_reducible exact remontoirref04_List.mono _ _)
      | (with_reducible exact LeO.refl _)
      | (with_reducible exact LeO.none _)
      | (with_reducible refine LeO.ite ?_ ?_)
      | (with_reducible refine LeO.bind ?_ (fun _ => ?_))
      | exact ih0 _ _ _ _
      | exact remontoirref04_List.mono _ _
      | exact LeO.none _
      | refine LeO.ite ?_ ?_
      | refine LeO.bind ?_ (fun _ => ?_)
set_option maxHeartbeats 8000000 in
set_option maxRecDepth 100000 in
theorem remontoirref04_Next.calls (k : Nat) (a0 : Int) (a1 : Int) (r1 : Int) (r2 : Bool) (w : World) (h : remontoirref04_Next.f k a0 a1 = some (r1, r2)) :
    Calls Tryd.prog 94 #[.int .u64 a0, .int .i64 a1] w fun e w' => e = .returned (.agg #[.int .i64 r1, .bool r2]) ∧ Below w.heap.size w w' := by
  have hu39 := Tryd.underlying39
  have HB := Aside0.mk (Below.refl w.heap.size w)
  have H : ((remontoirref04_List.f k a0).bind fun t171 => (remontoirref04_Next.l0 k a1 t171 (t171.length : Int) 0)) = some (r1, r2) := h
  clear h
  replace H := Option.bind_eq_some_iff.mp H
  obtain ⟨t171, A30, H⟩ := H
  replace H : (remontoirref04_Next.l0 k a1 t171 (t171.length : Int) 0) = some (r1, r2) := H
  have A3 := Aside0.mk A30
  clear A30
  have H' := Aside0.mk H
  clear H
  go_enter Tryd.func94, Tryd.ntmps94
  go_wp2_with (first | ((with_reducible refine gate_dst (N := 4) rfl ?_); refine box_event ?hg (N := 4) ?hd (cs := #[.int .i64 0, .bool false]) (t := 39) ?hr ?_; (case hd => rfl); (case hg => rfl); (case hr => first | (go_simp; done) | (go_simp; rfl)); intro gb170 hg w4 hbox hb; have n0_ := Aside0.mk (below_step (by repeat (first | (with_reducible first | exact HB.out | apply below_alloc | apply pw_below_drewN | apply below_drew1) | exact HB.out)) hb); have n1_ := Aside0.mk (hbox); have n2_ := Aside0.mk ((by rw [hg]; exact (below_size (by repeat (first | (with_reducible first | exact HB.out | apply below_alloc | apply pw_below_drewN | apply below_drew1) | exact HB.out))) : w.heap.size ≤ gb170)); have n3_ := Aside0.mk ((by rw [hg]; exact (below_size (by repeat (first | (with_reducible first | exact HB.out | apply below_alloc | apply pw_below_drewN | apply below_drew1) | exact HB.out))) : w.heap.size ≤ gb170)); clear HB; have HB := n0_; have BK170 := n1_; have GW170 := n2_; have GE170 := n3_; clear n0_ n1_ n2_ n3_; clear hb hbox hg) | ((with_reducible refine gate_callee (f := 105) rfl ?_); refine goesL_ (some 8) rfl rfl Tryd.func105 (by kernel_rfl) rfl #[.int .u64 a0] rfl (by (try simp only [List.map_toArray, List.map_cons, List.map_nil]); first | done | rfl | (simp only [List.length_drop, List.length_take]; rfl)) ?_; (with_reducible refine (remontoirref04_List.calls k a0 t171 _ A3.out).mono ?_); rintro e w5 ⟨v172, rfl, ho0, hb⟩; refine ⟨_, rfl, ?_⟩; have n0_ := Aside0.mk (Kd.R_lower ho0 (below_size (by repeat (first | (with_reducible first | exact HB.out | apply below_alloc | apply pw_below_drewN | apply below_drew1 | refine below_set ?_ GE170.out) | exact HB.out)))); have n1_ := Aside0.mk (blk_below (g := gb170) (o := .cells #[.int .i64 0, .bool false] 39 (0, 0)) (by (with_reducible repeat (first | refine blk_drewN ?_ _ | refine blk_drew ?_ | refine blk_alloc ?_ _)); exact BK170.out) hb); have n2_ := Aside0.mk (below_step (by repeat (first | (with_reducible first | exact HB.out | apply below_alloc | apply pw_below_drewN | apply below_drew1 | refine below_set ?_ GE170.out) | exact HB.out)) hb); clear BK170; clear HB; have HO173 := n0_; have BK170 := n1_; have HB := n2_; clear n0_ n1_ n2_; (try clear hb); (try clear hb2); (try clear hk); (try clear hi); (try clear ho0); obtain ⟨Ao6, co6, eo6⟩ := Kd.R_slice HO173.out; subst eo6))
  go_loopg [10] k (fun kq v10 w' => ∃ (x10_1 : Int) (x171000_1 : Int) (x171001_1 : Bool), v10 = .int .i64 x10_1 ∧ Aside0 (remontoirref04_Next.l0 kq a1 t171 (t171.length : Int) x10_1 = some (r1, r2)) ∧ Aside0 (kq ≤ k) ∧ Aside0 (Kd.R (Kd.int .i64) 3 w' w.heap.size (fun _ => True) (.slice Ao6 t171.length co6) t171) ∧ Aside0 (w'.heap[gb170]? = some (.cells #[.int .i64 x171000_1, .bool x171001_1] 39 (0, 0))) ∧ Aside0 (Below w.heap.size w w'))
  case atStart => exact ⟨(0), (0), (false), (by first | rfl | (simp; done) | (simp [*]; done) | (simp; decide +kernel)), H', ⟨Nat.le_refl _⟩, ⟨by (with_reducible repeat (first | apply Kd.R_alloc | apply Kd.R_drewN | apply Kd.R_drew)); exact HO173.out⟩, ⟨by (with_reducible repeat (first | refine blk_drewN ?_ _ | refine blk_drew ?_ | refine blk_alloc ?_ _)); exact BK170.out⟩, ⟨by repeat (first | (with_reducible first | exact HB.out | apply below_alloc | apply pw_below_drewN | apply below_drew1 | refine below_set ?_ GE170.out) | exact HB.out)⟩⟩
  case round =>
    clear H'
    try clear c1
    try clear p2
    obtain ⟨x10_1, x171000_1, x171001_1, rfl, HA, HK1, HO_8, BK170, HB⟩ := hrel
    cases gk with
    | zero => exact absurd HA.out (by simp [remontoirref04_Next.l0])
    | succ k1 =>
      have H := HA.out
      clear HA
      simp only [remontoirref04_Next.l0] at H
      by_cases c7 : x10_1 < (t171.length : Int)
      · rw [if_pos c7] at H
        have c7b0 : decide (x10_1 < (t171.length : Int)) = true := decide_eq_true c7
        clear c7
        by_cases c8 : 0 ≤ x10_1
        · rw [if_pos c8] at H
          have c8b0 : decide (0 ≤ x10_1) = true := decide_eq_true c8
          clear c8
          by_cases c9 : x10_1 < (t171.length : Int)
          · rw [if_pos c9] at H
            have c9b0 : decide (x10_1 < (t171.length : Int)) = true := decide_eq_true c9
            clear c9
            by_cases c10 : (rd t171 x10_1) ≥ a1
            · rw [if_pos c10] at H
              have c10b0 : decide (a1 ≤ (rd t171 x10_1)) = true := decide_eq_true c10
              clear c10
              simp only [Option.some.injEq, Prod.mk.injEq] at H
              obtain ⟨rfl, rfl⟩ := H
              have p174 : 0 ≤ (x10_1 : Int) := of_decide_eq_true (by first | (with_reducible assumption) | assumption)
              have q174 : x10_1 < (t171.length : Int) := of_decide_eq_true (by first | (with_reducible assumption) | assumption)
              obtain ⟨ad174, e174, hx174_0⟩ := Kd.at_int (Kd.R_reads' HO_8.out).2.2 x10_1 p174 q174
              cases e174
              replace p174 := eq_true p174
              replace q174 := eq_true q174
              have hcz11_0 : wr.cell? ⟨gb170, 0, none⟩ = some (.int .i64 x171000_1) := (blk_cell BK170.out 0).trans rfl
              have hcz11_1 : wr.cell? ⟨gb170, 1, none⟩ = some (.bool x171001_1) := (blk_cell BK170.out 1).trans rfl
              have hfz11_0 := blk_frozen BK170.out 0
              have hfz11_1 := blk_frozen BK170.out 1
              go_wp2
              refine bodyPost_ret (results_cell_row rfl _ _ gb170 39 #[.int .i64 (rd t171 x10_1), .bool true] (0, 0) _ rfl (by (with_reducible repeat (first | refine blk_drewN ?_ _ | refine blk_drew ?_ | refine blk_alloc ?_ _)); refine blk_put (cs := #[.int .i64 (rd t171 x10_1), .bool x171001_1]) ?_ 1 _ rfl; (with_reducible repeat (first | refine blk_drewN ?_ _ | refine blk_drew ?_ | refine blk_alloc ?_ _)); refine blk_put (cs := #[.int .i64 x171000_1, .bool x171001_1]) ?_ 0 _ rfl; (with_reducible repeat (first | refine blk_drewN ?_ _ | refine blk_drew ?_ | refine blk_alloc ?_ _)); exact BK170.out) Tryd.underlying39 rfl (by kernel_rfl)) rfl ?_
              exact ⟨by first | rfl | (simp [errW_none, errW_some] <;> rfl) | (simp [*, errW_none, errW_some] <;> rfl), by repeat (first | (with_reducible first | exact HB.out | apply below_alloc | apply pw_below_drewN | apply below_drew1 | refine below_set ?_ GE170.out) | exact HB.out)⟩
            · rw [if_neg c10] at H
              have c10b0 : decide (a1 ≤ (rd t171 x10_1)) = false := decide_eq_false c10
              clear c10
              have H' := Aside0.mk H
              clear H
              have p174 : 0 ≤ (x10_1 : Int) := of_decide_eq_true (by first | (with_reducible assumption) | assumption)
              have q174 : x10_1 < (t171.length : Int) := of_decide_eq_true (by first | (with_reducible assumption) | assumption)
              obtain ⟨ad174, e174, hx174_0⟩ := Kd.at_int (Kd.R_reads' HO_8.out).2.2 x10_1 p174 q174
              cases e174
              replace p174 := eq_true p174
              replace q174 := eq_true q174
              go_wp2
              go_roundg k1
              case measure => have := HK1.out; omega
              case rel => exact ⟨(wrap64 (x10_1 + 1)), (x171000_1), (x171001_1), (by first | rfl | (simp; done) | (simp [*]; done) | (simp; decide +kernel)), H', ⟨by have := HK1.out; omega⟩, ⟨by (with_reducible repeat (first | apply Kd.R_alloc | apply Kd.R_drewN | apply Kd.R_drew)); exact HO_8.out⟩, ⟨by (with_reducible repeat (first | refine blk_drewN ?_ _ | refine blk_drew ?_ | refine blk_alloc ?_ _)); exact BK170.out⟩, ⟨by repeat (first | (with_reducible first | exact HB.out | apply below_alloc | apply pw_below_drewN | apply below_drew1 | refine below_set ?_ GE170.out) | exact HB.out)⟩⟩
          · rw [if_neg c9] at H
            exact absurd H (by simp)
        · rw [if_neg c8] at H
          exact absurd H (by simp)
      · rw [if_neg c7] at H
        have c7b0 : decide (x10_1 < (t171.length : Int)) = false := decide_eq_false c7
        clear c7
        simp only [Option.some.injEq, Prod.mk.injEq] at H
        obtain ⟨rfl, rfl⟩ := H
        have hcz12_0 : wr.cell? ⟨gb170, 0, none⟩ = some (.int .i64 x171000_1) := (blk_cell BK170.out 0).trans rfl
        have hcz12_1 : wr.cell? ⟨gb170, 1, none⟩ = some (.bool x171001_1) := (blk_cell BK170.out 1).trans rfl
        have hfz12_0 := blk_frozen BK170.out 0
        have hfz12_1 := blk_frozen BK170.out 1
        go_wp2
        refine bodyPost_ret (results_cell_row rfl _ _ gb170 39 #[.int .i64 0, .bool false] (0, 0) _ rfl (by (with_reducible repeat (first | refine blk_drewN ?_ _ | refine blk_drew ?_ | refine blk_alloc ?_ _)); refine blk_put (cs := #[.int .i64 0, .bool x171001_1]) ?_ 1 _ rfl; (with_reducible repeat (first | refine blk_drewN ?_ _ | refine blk_drew ?_ | refine blk_alloc ?_ _)); refine blk_put (cs := #[.int .i64 x171000_1, .bool x171001_1]) ?_ 0 _ rfl; (with_reducible repeat (first | refine blk_drewN ?_ _ | refine blk_drew ?_ | refine blk_alloc ?_ _)); exact BK170.out) Tryd.underlying39 rfl (by kernel_rfl)) rfl ?_
        exact ⟨by first | rfl | (simp [errW_none, errW_some] <;> rfl) | (simp [*, errW_none, errW_some] <;> rfl), by repeat (first | (with_reducible first | exact HB.out | apply below_alloc | apply pw_below_drewN | apply below_drew1 | refine below_set ?_ GE170.out) | exact HB.out)⟩

/-! ### remontoirref04_Round: function 69 -/
def remontoirref04_Round.j0 : Nat → Int → Int → Bool → Option (Int × Bool)
  | 0, _, _, _ => none
  | k + 1, x0, x1, x11 => if x11 = true then (some (0, false)) else ((remontoirref04_Next.f k x0 x1).bind fun bt176 => (if bt176.2 = true then (some (bt176.1, bt176.2)) else ((remontoirref04_Next.f k x0 0).bind fun bt179 => (some (bt179.1, bt179.2)))))
def remontoirref04_Round.f (k : Nat) (a0 : Int) (a1 : Int) : Option (Int × Bool) := if a1 < 0 then (remontoirref04_Round.j0 k a0 a1 true) else (remontoirref04_Round.j0 k a0 a1 (decide (a1 ≥ 64)))
theorem remontoirref04_Round.mono_l : ∀ k, (∀ y0 y1 y2, LeO (remontoirref04_Round.j0 k y0 y1 y2) (remontoirref04_Round.j0 (k + 1) y0 y1 y2))
  | 0 => fun _ _ _ r h => by simp [remontoirref04_Round.j0] at h
  | k + 1 => by
    have ih0 := remontoirref04_Round.mono_l k
    · intro y0 y1 y2
      unfold remontoirref04_Round.j0
      repeat' first
      | (with_reducible exact ih0 _ _ _)
      | (with_reducible exact remontoirref04_Next.mono _ _ _)
      | (with_reducible exact LeO.refl _)
      | (with_reducible exact LeO.none _)
      | (with_reducible refine LeO.ite ?_ ?_)
      | (with_reducible refine LeO.bind ?_ (fun _ => ?_))
      | exact ih0 _ _ _
      | exact remontoirref04_Next.mono _ _ _
      | exact LeO.none _
      | refine LeO.ite ?_ ?_
      | refine LeO.bind ?_ (fun _ => ?_)
theorem remontoirref04_Round.mono : ∀ a0 a1 k, LeO (remontoirref04_Round.f k a0 a1) (remontoirref04_Round.f (k + 1) a0 a1) := by
  intro a0 a1 k
  have ih0 := remontoirref04_Round.mono_l k
  unfold remontoirref04_Round.f
  repeat' first
      | (with_reducible exact ih0 _ _ _)
      | (with_reducible exact remontoirref04_Next.mono _ _ _)
      | (with_reducible exact LeO.refl _)
      | (with_reducible exact LeO.none _)
      | (with_reducible refine LeO.ite ?_ ?_)
      | (with_reducible refine LeO.bind ?_ (fun _ => ?_))
      | exact ih0 _ _ _
      | exact remontoirref04_Next.mono _ _ _
      | exact LeO.none _
      | refine LeO.ite ?_ ?_
      | refine LeO.bind ?_ (fun _ => ?_)
set_option maxHeartbeats 8000000 in
set_option maxRecDepth 100000 in
theorem remontoirref04_Round.calls (k : Nat) (a0 : Int) (a1 : Int) (r1 : Int) (r2 : Bool) (w : World) (h : remontoirref04_Round.f k a0 a1 = some (r1, r2)) :
    Calls Tryd.prog 69 #[.int .u64 a0, .int .i64 a1] w fun e w' => e = .returned (.agg #[.int .i64 r1, .bool r2]) ∧ Below w.heap.size w w' := by
  have hu39 := Tryd.underlying39
  have HB := Aside0.mk (Below.refl w.heap.size w)
  have H : (if a1 < 0 then (remontoirref04_Round.j0 k a0 a1 true) else (remontoirref04_Round.j0 k a0 a1 (decide (a1 ≥ 64)))) = some (r1, r2) := h
  clear h
  have HC3 := Aside0.mk H
  clear H
  go_enter Tryd.func69, Tryd.ntmps69
  go_upto_region 1 with (first | ((with_reducible refine gate_dst (N := 4) rfl ?_); refine box_event ?hg (N := 4) ?hd (cs := #[.int .i64 0, .bool false]) (t := 39) ?hr ?_; (case hd => rfl); (case hg => rfl); (case hr => first | (go_simp; done) | (go_simp; rfl)); intro gb175 hg w4 hbox hb; have n0_ := Aside0.mk (below_step (by repeat (first | (with_reducible first | exact HB.out | apply below_alloc | apply pw_below_drewN | apply below_drew1) | exact HB.out)) hb); have n1_ := Aside0.mk (hbox); have n2_ := Aside0.mk ((by rw [hg]; exact (below_size (by repeat (first | (with_reducible first | exact HB.out | apply below_alloc | apply pw_below_drewN | apply below_drew1) | exact HB.out))) : w.heap.size ≤ gb175)); have n3_ := Aside0.mk ((by rw [hg]; exact (below_size (by repeat (first | (with_reducible first | exact HB.out | apply below_alloc | apply pw_below_drewN | apply below_drew1) | exact HB.out))) : w.heap.size ≤ gb175)); clear HB; have HB := n0_; have BK175 := n1_; have GW175 := n2_; have GE175 := n3_; clear n0_ n1_ n2_ n3_; clear hb hbox hg))
  (try simp only [Act.put, List.setIfInBounds_toArray, List.set_cons_zero, List.set_cons_succ])
  go_cut [11] (fun v11 wc => ∃ (kq : Nat) (x11_2 : Bool), v11 = .bool x11_2 ∧ Aside0 (remontoirref04_Round.j0 kq a0 a1 x11_2 = some (r1, r2)) ∧ Aside0 (kq ≤ k) ∧ Aside0 (wc.heap[gb175]? = some (.cells #[.int .i64 0, .bool false] 39 (0, 0))) ∧ Aside0 (Below w.heap.size w wc))
  case first =>
    have H := HC3.out
    clear HC3
    by_cases c5 : a1 < 0
    · rw [if_pos c5] at H
      have c5b0 : decide (a1 < 0) = true := decide_eq_true c5
      clear c5
      (first | rw [c5b0] | (simp only [i64_w, i32_w]; rw [c5b0]) | skip)
      have H' := Aside0.mk H
      clear H
      go_wp2
      go_meet
      case rel => exact ⟨_, (true), (by first | rfl | (simp; done) | (simp [*]; done) | (simp; decide +kernel)), H', ⟨by first | omega | exact Nat.le_refl _⟩, ⟨by (with_reducible repeat (first | refine blk_drewN ?_ _ | refine blk_drew ?_ | refine blk_alloc ?_ _)); exact BK175.out⟩, ⟨by repeat (first | (with_reducible first | exact HB.out | apply below_alloc | apply pw_below_drewN | apply below_drew1 | refine below_set ?_ GE175.out) | exact HB.out)⟩⟩
    · rw [if_neg c5] at H
      have c5b0 : decide (a1 < 0) = false := decide_eq_false c5
      clear c5
      (first | rw [c5b0] | (simp only [i64_w, i32_w]; rw [c5b0]) | skip)
      have H' := Aside0.mk H
      clear H
      go_wp2
      go_meet
      case rel => exact ⟨_, (decide (a1 ≥ 64)), (by first | rfl | (simp; done) | (simp [*]; done) | (simp; decide +kernel)), H', ⟨by first | omega | exact Nat.le_refl _⟩, ⟨by (with_reducible repeat (first | refine blk_drewN ?_ _ | refine blk_drew ?_ | refine blk_alloc ?_ _)); exact BK175.out⟩, ⟨by repeat (first | (with_reducible first | exact HB.out | apply below_alloc | apply pw_below_drewN | apply below_drew1 | refine below_set ?_ GE175.out) | exact HB.out)⟩⟩
  case rest =>
    clear HC3
    try clear p2
    try clear c5
    try clear c5b0
    obtain ⟨kq, x11_2, rfl, HA, HJ2, BK175, HB⟩ := hcut
    cases kq with
    | zero => exact absurd HA.out (by simp [remontoirref04_Round.j0])
    | succ kj2 =>
      have H := HA.out
      clear HA
      simp only [remontoirref04_Round.j0] at H
      by_cases c6 : x11_2 = true
      · subst c6
        have H1 : (some (0, false)) = some (r1, r2) := by rw [if_pos rfl] at H; exact H
        clear H
        have H := H1
        clear H1
        simp only [Option.some.injEq, Prod.mk.injEq] at H
        obtain ⟨rfl, rfl⟩ := H
        have hcz7_0 : wc.cell? ⟨gb175, 0, none⟩ = some (.int .i64 0) := (blk_cell BK175.out 0).trans rfl
        have hcz7_1 : wc.cell? ⟨gb175, 1, none⟩ = some (.bool false) := (blk_cell BK175.out 1).trans rfl
        have hfz7_0 := blk_frozen BK175.out 0
        have hfz7_1 := blk_frozen BK175.out 1
        go_wp2
        refine bodyPost_ret (results_cell_row rfl _ _ gb175 39 #[.int .i64 0, .bool false] (0, 0) _ rfl (by (with_reducible repeat (first | refine blk_drewN ?_ _ | refine blk_drew ?_ | refine blk_alloc ?_ _)); refine blk_put (cs := #[.int .i64 0, .bool false]) ?_ 1 _ rfl; (with_reducible repeat (first | refine blk_drewN ?_ _ | refine blk_drew ?_ | refine blk_alloc ?_ _)); refine blk_put (cs := #[.int .i64 0, .bool false]) ?_ 0 _ rfl; (with_reducible repeat (first | refine blk_drewN ?_ _ | refine blk_drew ?_ | refine blk_alloc ?_ _)); exact BK175.out) Tryd.underlying39 rfl (by kernel_rfl)) rfl ?_
        exact ⟨by first | rfl | (simp [errW_none, errW_some] <;> rfl) | (simp [*, errW_none, errW_some] <;> rfl), by repeat (first | (with_reducible first | exact HB.out | apply below_alloc | apply pw_below_drewN | apply below_drew1 | refine below_set ?_ GE175.out) | exact HB.out)⟩
      · replace c6 := Bool.eq_false_iff.mpr c6
        subst c6
        have H1 : ((remontoirref04_Next.f kj2 a0 a1).bind fun bt176 => (if bt176.2 = true then (some (bt176.1, bt176.2)) else ((remontoirref04_Next.f kj2 a0 0).bind fun bt179 => (some (bt179.1, bt179.2))))) = some (r1, r2) := by rw [if_neg (show ¬ (false = true) by decide)] at H; exact H
        clear H
        have H := H1
        clear H1
        replace H := Option.bind_eq_some_iff.mp H
        obtain ⟨⟨t176, t177⟩, A80, H⟩ := H
        replace H : (if t177 = true then (some (t176, t177)) else ((remontoirref04_Next.f kj2 a0 0).bind fun bt179 => (some (bt179.1, bt179.2)))) = some (r1, r2) := H
        have A8 := Aside0.mk A80
        clear A80
        by_cases c9 : t177 = true
        · subst c9
          have H1 : (some (t176, true)) = some (r1, r2) := by rw [if_pos rfl] at H; exact H
          clear H
          have H := H1
          clear H1
          simp only [Option.some.injEq, Prod.mk.injEq] at H
          obtain ⟨rfl, rfl⟩ := H
          go_wp2_with (first | ((with_reducible refine gate_callee (f := 94) rfl ?_); refine goesL_ (some 15) rfl rfl Tryd.func94 (by kernel_rfl) rfl #[.int .u64 a0, .int .i64 a1] rfl (by (try simp only [List.map_toArray, List.map_cons, List.map_nil]); first | done | rfl | (simp only [List.length_drop, List.length_take]; rfl)) ?_; (with_reducible refine (remontoirref04_Next.calls kj2 a0 a1 t176 true _ A8.out).mono ?_); rintro e w10 ⟨rfl, hb⟩; refine ⟨_, rfl, ?_⟩; have n0_ := Aside0.mk (blk_below (g := gb175) (o := .cells #[.int .i64 0, .bool false] 39 (0, 0)) (by (with_reducible repeat (first | refine blk_drewN ?_ _ | refine blk_drew ?_ | refine blk_alloc ?_ _)); exact BK175.out) hb); have n1_ := Aside0.mk (below_step (by repeat (first | (with_reducible first | exact HB.out | apply below_alloc | apply pw_below_drewN | apply below_drew1 | refine below_set ?_ GE175.out) | exact HB.out)) hb); clear BK175; clear HB; have BK175 := n0_; have HB := n1_; clear n0_ n1_; (try clear hb); (try clear hb2); (try clear hk); (try clear hi)) | ((with_reducible refine gate_dst (N := 5) rfl ?_); refine box_event ?hg (N := 5) ?hd (cs := #[.int .i64 0, .bool false]) (t := 39) ?hr ?_; (case hd => rfl); (case hg => rfl); (case hr => first | (go_simp; done) | (go_simp; rfl)); intro gb178 hg w11 hbox hb; have n0_ := Aside0.mk (blk_below (g := gb175) (o := .cells #[.int .i64 0, .bool false] 39 (0, 0)) (by (with_reducible repeat (first | refine blk_drewN ?_ _ | refine blk_drew ?_ | refine blk_alloc ?_ _)); exact BK175.out) hb); have n1_ := Aside0.mk (below_step (by repeat (first | (with_reducible first | exact HB.out | apply below_alloc | apply pw_below_drewN | apply below_drew1 | refine below_set ?_ GE175.out) | exact HB.out)) hb); have n2_ := Aside0.mk (hbox); have n3_ := Aside0.mk ((by rw [hg]; exact (below_size (by repeat (first | (with_reducible first | exact HB.out | apply below_alloc | apply pw_below_drewN | apply below_drew1 | refine below_set ?_ GE175.out) | exact HB.out))) : w.heap.size ≤ gb178)); have n4_ := Aside0.mk ((by rw [hg]; exact (below_size (by repeat (first | (with_reducible first | exact HB.out | apply below_alloc | apply pw_below_drewN | apply below_drew1 | refine below_set ?_ GE175.out) | exact HB.out))) : w.heap.size ≤ gb178)); have n5_ := Aside0.mk ((by rw [hg]; exact Nat.ne_of_lt (blk_lt (g := gb175) (o := .cells #[.int .i64 0, .bool false] 39 (0, 0)) (by (with_reducible repeat (first | refine blk_drewN ?_ _ | refine blk_drew ?_ | refine blk_alloc ?_ _)); exact BK175.out)) : gb175 ≠ gb178)); have n6_ := Aside0.mk ((by rw [hg]; exact Nat.ne_of_gt (blk_lt (g := gb175) (o := .cells #[.int .i64 0, .bool false] 39 (0, 0)) (by (with_reducible repeat (first | refine blk_drewN ?_ _ | refine blk_drew ?_ | refine blk_alloc ?_ _)); exact BK175.out)) : gb178 ≠ gb175)); clear BK175; clear HB; have BK175 := n0_; have HB := n1_; have BK178 := n2_; have GW178 := n3_; have GE178 := n4_; have NB175_178 := n5_; have NB178_175 := n6_; clear n0_ n1_ n2_ n3_ n4_ n5_ n6_; clear hb hbox hg; have hnb12 := NB178_175.out; have hnc12 := NB175_178.out; have hcz13_0 : w11.cell? ⟨gb178, 0, none⟩ = some (.int .i64 0) := (blk_cell BK178.out 0).trans rfl; have hcz13_1 : w11.cell? ⟨gb178, 1, none⟩ = some (.bool false) := (blk_cell BK178.out 1).trans rfl; have hfz13_0 := blk_frozen BK178.out 0; have hfz13_1 := blk_frozen BK178.out 1; have hcz14_0 : w11.cell? ⟨gb175, 0, none⟩ = some (.int .i64 0) := (blk_cell BK175.out 0).trans rfl; have hcz14_1 : w11.cell? ⟨gb175, 1, none⟩ = some (.bool false) := (blk_cell BK175.out 1).trans rfl; have hfz14_0 := blk_frozen BK175.out 0; have hfz14_1 := blk_frozen BK175.out 1))
          refine bodyPost_ret (results_cell_row rfl _ _ gb175 39 #[.int .i64 t176, .bool true] (0, 0) _ rfl (by (with_reducible repeat (first | refine blk_drewN ?_ _ | refine blk_drew ?_ | refine blk_alloc ?_ _)); refine blk_put (cs := #[.int .i64 t176, .bool false]) ?_ 1 _ rfl; (with_reducible repeat (first | refine blk_drewN ?_ _ | refine blk_drew ?_ | refine blk_alloc ?_ _)); refine blk_put (cs := #[.int .i64 0, .bool false]) ?_ 0 _ rfl; (with_reducible repeat (first | refine blk_drewN ?_ _ | refine blk_drew ?_ | refine blk_alloc ?_ _)); refine blk_far ?_ NB175_178.out _; (with_reducible repeat (first | refine blk_drewN ?_ _ | refine blk_drew ?_ | refine blk_alloc ?_ _)); refine blk_far ?_ NB175_178.out _; (with_reducible repeat (first | refine blk_drewN ?_ _ | refine blk_drew ?_ | refine blk_alloc ?_ _)); exact BK175.out) Tryd.underlying39 rfl (by kernel_rfl)) rfl ?_
          exact ⟨by first | rfl | (simp [errW_none, errW_some] <;> rfl) | (simp [*, errW_none, errW_some] <;> rfl), by repeat (first | (with_reducible first | exact HB.out | apply below_alloc | apply pw_below_drewN | apply below_drew1 | refine below_set ?_ GE175.out | refine below_set ?_ GE178.out) | exact HB.out)⟩
        · replace c9 := Bool.eq_false_iff.mpr c9
          subst c9
          have H1 : ((remontoirref04_Next.f kj2 a0 0).bind fun bt179 => (some (bt179.1, bt179.2))) = some (r1, r2) := by rw [if_neg (show ¬ (false = true) by decide)] at H; exact H
          clear H
          have H := H1
          clear H1
          replace H := Option.bind_eq_some_iff.mp H
          obtain ⟨⟨t179, t180⟩, A150, H⟩ := H
          replace H : (some (t179, t180)) = some (r1, r2) := H
          have A15 := Aside0.mk A150
          clear A150
          simp only [Option.some.injEq, Prod.mk.injEq] at H
          obtain ⟨rfl, rfl⟩ := H
          go_wp2_with (first | ((with_reducible refine gate_callee (f := 94) rfl ?_); refine goesL_ (some 15) rfl rfl Tryd.func94 (by kernel_rfl) rfl #[.int .u64 a0, .int .i64 a1] rfl (by (try simp only [List.map_toArray, List.map_cons, List.map_nil]); first | done | rfl | (simp only [List.length_drop, List.length_take]; rfl)) ?_; (with_reducible refine (remontoirref04_Next.calls kj2 a0 a1 t176 false _ A8.out).mono ?_); rintro e w16 ⟨rfl, hb⟩; refine ⟨_, rfl, ?_⟩; have n0_ := Aside0.mk (blk_below (g := gb175) (o := .cells #[.int .i64 0, .bool false] 39 (0, 0)) (by (with_reducible repeat (first | refine blk_drewN ?_ _ | refine blk_drew ?_ | refine blk_alloc ?_ _)); exact BK175.out) hb); have n1_ := Aside0.mk (below_step (by repeat (first | (with_reducible first | exact HB.out | apply below_alloc | apply pw_below_drewN | apply below_drew1 | refine below_set ?_ GE175.out) | exact HB.out)) hb); clear BK175; clear HB; have BK175 := n0_; have HB := n1_; clear n0_ n1_; (try clear hb); (try clear hb2); (try clear hk); (try clear hi)) | ((with_reducible refine gate_dst (N := 5) rfl ?_); refine box_event ?hg (N := 5) ?hd (cs := #[.int .i64 0, .bool false]) (t := 39) ?hr ?_; (case hd => rfl); (case hg => rfl); (case hr => first | (go_simp; done) | (go_simp; rfl)); intro gb178 hg w17 hbox hb; have n0_ := Aside0.mk (blk_below (g := gb175) (o := .cells #[.int .i64 0, .bool false] 39 (0, 0)) (by (with_reducible repeat (first | refine blk_drewN ?_ _ | refine blk_drew ?_ | refine blk_alloc ?_ _)); exact BK175.out) hb); have n1_ := Aside0.mk (below_step (by repeat (first | (with_reducible first | exact HB.out | apply below_alloc | apply pw_below_drewN | apply below_drew1 | refine below_set ?_ GE175.out) | exact HB.out)) hb); have n2_ := Aside0.mk (hbox); have n3_ := Aside0.mk ((by rw [hg]; exact (below_size (by repeat (first | (with_reducible first | exact HB.out | apply below_alloc | apply pw_below_drewN | apply below_drew1 | refine below_set ?_ GE175.out) | exact HB.out))) : w.heap.size ≤ gb178)); have n4_ := Aside0.mk ((by rw [hg]; exact (below_size (by repeat (first | (with_reducible first | exact HB.out | apply below_alloc | apply pw_below_drewN | apply below_drew1 | refine below_set ?_ GE175.out) | exact HB.out))) : w.heap.size ≤ gb178)); have n5_ := Aside0.mk ((by rw [hg]; exact Nat.ne_of_lt (blk_lt (g := gb175) (o := .cells #[.int .i64 0, .bool false] 39 (0, 0)) (by (with_reducible repeat (first | refine blk_drewN ?_ _ | refine blk_drew ?_ | refine blk_alloc ?_ _)); exact BK175.out)) : gb175 ≠ gb178)); have n6_ := Aside0.mk ((by rw [hg]; exact Nat.ne_of_gt (blk_lt (g := gb175) (o := .cells #[.int .i64 0, .bool false] 39 (0, 0)) (by (with_reducible repeat (first | refine blk_drewN ?_ _ | refine blk_drew ?_ | refine blk_alloc ?_ _)); exact BK175.out)) : gb178 ≠ gb175)); clear BK175; clear HB; have BK175 := n0_; have HB := n1_; have BK178 := n2_; have GW178 := n3_; have GE178 := n4_; have NB175_178 := n5_; have NB178_175 := n6_; clear n0_ n1_ n2_ n3_ n4_ n5_ n6_; clear hb hbox hg; have hnb18 := NB178_175.out; have hnc18 := NB175_178.out; have hcz19_0 : w17.cell? ⟨gb178, 0, none⟩ = some (.int .i64 0) := (blk_cell BK178.out 0).trans rfl; have hcz19_1 : w17.cell? ⟨gb178, 1, none⟩ = some (.bool false) := (blk_cell BK178.out 1).trans rfl; have hfz19_0 := blk_frozen BK178.out 0; have hfz19_1 := blk_frozen BK178.out 1) | ((with_reducible refine gate_callee (f := 94) rfl ?_); refine goesL_ (some 20) rfl rfl Tryd.func94 (by kernel_rfl) rfl #[.int .u64 a0, .int .i64 0] rfl (by (try simp only [List.map_toArray, List.map_cons, List.map_nil]); first | done | rfl | (simp only [List.length_drop, List.length_take]; rfl)) ?_; (with_reducible refine (remontoirref04_Next.calls kj2 a0 0 t179 t180 _ A15.out).mono ?_); rintro e w20 ⟨rfl, hb⟩; refine ⟨_, rfl, ?_⟩; have n0_ := Aside0.mk (blk_below (g := gb175) (o := .cells #[.int .i64 0, .bool false] 39 (0, 0)) (by (with_reducible repeat (first | refine blk_drewN ?_ _ | refine blk_drew ?_ | refine blk_alloc ?_ _)); refine blk_far ?_ NB175_178.out _; (with_reducible repeat (first | refine blk_drewN ?_ _ | refine blk_drew ?_ | refine blk_alloc ?_ _)); refine blk_far ?_ NB175_178.out _; (with_reducible repeat (first | refine blk_drewN ?_ _ | refine blk_drew ?_ | refine blk_alloc ?_ _)); exact BK175.out) hb); have n1_ := Aside0.mk (blk_below (g := gb178) (o := .cells #[.int .i64 t176, .bool false] 39 (0, 0)) (by (with_reducible repeat (first | refine blk_drewN ?_ _ | refine blk_drew ?_ | refine blk_alloc ?_ _)); refine blk_put (cs := #[.int .i64 t176, .bool false]) ?_ 1 _ rfl; (with_reducible repeat (first | refine blk_drewN ?_ _ | refine blk_drew ?_ | refine blk_alloc ?_ _)); refine blk_put (cs := #[.int .i64 0, .bool false]) ?_ 0 _ rfl; (with_reducible repeat (first | refine blk_drewN ?_ _ | refine blk_drew ?_ | refine blk_alloc ?_ _)); exact BK178.out) hb); have n2_ := Aside0.mk (below_step (by repeat (first | (with_reducible first | exact HB.out | apply below_alloc | apply pw_below_drewN | apply below_drew1 | refine below_set ?_ GE175.out | refine below_set ?_ GE178.out) | exact HB.out)) hb); clear BK175; clear BK178; clear HB; have BK175 := n0_; have BK178 := n1_; have HB := n2_; clear n0_ n1_ n2_; (try clear hb); (try clear hb2); (try clear hk); (try clear hi); have hcz21_0 : w20.cell? ⟨gb175, 0, none⟩ = some (.int .i64 0) := (blk_cell BK175.out 0).trans rfl; have hcz21_1 : w20.cell? ⟨gb175, 1, none⟩ = some (.bool false) := (blk_cell BK175.out 1).trans rfl; have hfz21_0 := blk_frozen BK175.out 0; have hfz21_1 := blk_frozen BK175.out 1))
          refine bodyPost_ret (results_cell_row rfl _ _ gb175 39 #[.int .i64 t179, .bool t180] (0, 0) _ rfl (by (with_reducible repeat (first | refine blk_drewN ?_ _ | refine blk_drew ?_ | refine blk_alloc ?_ _)); refine blk_put (cs := #[.int .i64 t179, .bool false]) ?_ 1 _ rfl; (with_reducible repeat (first | refine blk_drewN ?_ _ | refine blk_drew ?_ | refine blk_alloc ?_ _)); refine blk_put (cs := #[.int .i64 0, .bool false]) ?_ 0 _ rfl; (with_reducible repeat (first | refine blk_drewN ?_ _ | refine blk_drew ?_ | refine blk_alloc ?_ _)); exact BK175.out) Tryd.underlying39 rfl (by kernel_rfl)) rfl ?_
          exact ⟨by first | rfl | (simp [errW_none, errW_some] <;> rfl) | (simp [*, errW_none, errW_some] <;> rfl), by repeat (first | (with_reducible first | exact HB.out | apply below_alloc | apply pw_below_drewN | apply below_drew1 | refine below_set ?_ GE175.out | refine below_set ?_ GE178.out) | exact HB.out)⟩

-- NOT PRINTED: function 23 (remontoirlaw05_same)

-- NOT PRINTED: function 24 (remontoirlaw05_wakes)

-- NOT PRINTED: function 3 (remontoirlaw05_RingPlays)

-- NOT PRINTED: function 4 (remontoirlaw05_RingHolds)

-- NOT PRINTED: function 5 (remontoirlaw05_RingNone)

/-! ### remontoirref01_Sum: function 33 -/
def remontoirref01_Sum.f (a0 : Int) (a1 : Int) : Option (Int × Bool) := if a0 > (IntKind.u64.wrap (18446744073709551615 - a1)) then (some (0, false)) else (some (IntKind.u64.wrap (a0 + a1), true))
set_option maxHeartbeats 8000000 in
set_option maxRecDepth 100000 in
theorem remontoirref01_Sum.calls (a0 : Int) (a1 : Int) (r1 : Int) (r2 : Bool) (w : World) (h : remontoirref01_Sum.f a0 a1 = some (r1, r2)) :
    Calls Tryd.prog 33 #[.int .u64 a0, .int .u64 a1] w fun e w' => e = .returned (.agg #[.int .u64 r1, .bool r2]) ∧ Below w.heap.size w w' := by
  have hu64 := Tryd.underlying64
  have HB := Aside0.mk (Below.refl w.heap.size w)
  have H : (if a0 > (IntKind.u64.wrap (18446744073709551615 - a1)) then (some (0, false)) else (some (IntKind.u64.wrap (a0 + a1), true))) = some (r1, r2) := h
  clear h
  by_cases c3 : a0 > (IntKind.u64.wrap (18446744073709551615 - a1))
  · rw [if_pos c3] at H
    have c3b0 : decide ((IntKind.u64.wrap (18446744073709551615 - a1)) < a0) = true := decide_eq_true c3
    clear c3
    simp only [Option.some.injEq, Prod.mk.injEq] at H
    obtain ⟨rfl, rfl⟩ := H
    go_enter Tryd.func33, Tryd.ntmps33
    go_wp2_with (first | ((with_reducible refine gate_dst (N := 4) rfl ?_); refine box_event ?hg (N := 4) ?hd (cs := #[.int .u64 0, .bool false]) (t := 64) ?hr ?_; (case hd => rfl); (case hg => rfl); (case hr => first | (go_simp; done) | (go_simp; rfl)); intro gb182 hg w4 hbox hb; have n0_ := Aside0.mk (below_step (by repeat (first | (with_reducible first | exact HB.out | apply below_alloc | apply pw_below_drewN | apply below_drew1) | exact HB.out)) hb); have n1_ := Aside0.mk (hbox); have n2_ := Aside0.mk ((by rw [hg]; exact (below_size (by repeat (first | (with_reducible first | exact HB.out | apply below_alloc | apply pw_below_drewN | apply below_drew1) | exact HB.out))) : w.heap.size ≤ gb182)); have n3_ := Aside0.mk ((by rw [hg]; exact (below_size (by repeat (first | (with_reducible first | exact HB.out | apply below_alloc | apply pw_below_drewN | apply below_drew1) | exact HB.out))) : w.heap.size ≤ gb182)); clear HB; have HB := n0_; have BK182 := n1_; have GW182 := n2_; have GE182 := n3_; clear n0_ n1_ n2_ n3_; clear hb hbox hg; have hcz5_0 : w4.cell? ⟨gb182, 0, none⟩ = some (.int .u64 0) := (blk_cell BK182.out 0).trans rfl; have hcz5_1 : w4.cell? ⟨gb182, 1, none⟩ = some (.bool false) := (blk_cell BK182.out 1).trans rfl; have hfz5_0 := blk_frozen BK182.out 0; have hfz5_1 := blk_frozen BK182.out 1))
    refine bodyPost_ret (results_cell_row rfl _ _ gb182 64 #[.int .u64 0, .bool false] (0, 0) _ rfl (by (with_reducible repeat (first | refine blk_drewN ?_ _ | refine blk_drew ?_ | refine blk_alloc ?_ _)); refine blk_put (cs := #[.int .u64 0, .bool false]) ?_ 1 _ rfl; (with_reducible repeat (first | refine blk_drewN ?_ _ | refine blk_drew ?_ | refine blk_alloc ?_ _)); refine blk_put (cs := #[.int .u64 0, .bool false]) ?_ 0 _ rfl; (with_reducible repeat (first | refine blk_drewN ?_ _ | refine blk_drew ?_ | refine blk_alloc ?_ _)); exact BK182.out) Tryd.underlying64 rfl (by kernel_rfl)) rfl ?_
    exact ⟨by first | rfl | (simp [errW_none, errW_some] <;> rfl) | (simp [*, errW_none, errW_some] <;> rfl), by repeat (first | (with_reducible first | exact HB.out | apply below_alloc | apply pw_below_drewN | apply below_drew1 | refine below_set ?_ GE182.out) | exact HB.out)⟩
  · rw [if_neg c3] at H
    have c3b0 : decide ((IntKind.u64.wrap (18446744073709551615 - a1)) < a0) = false := decide_eq_false c3
    clear c3
    simp only [Option.some.injEq, Prod.mk.injEq] at H
    obtain ⟨rfl, rfl⟩ := H
    go_enter Tryd.func33, Tryd.ntmps33
    go_wp2_with (first | ((with_reducible refine gate_dst (N := 4) rfl ?_); refine box_event ?hg (N := 4) ?hd (cs := #[.int .u64 0, .bool false]) (t := 64) ?hr ?_; (case hd => rfl); (case hg => rfl); (case hr => first | (go_simp; done) | (go_simp; rfl)); intro gb182 hg w6 hbox hb; have n0_ := Aside0.mk (below_step (by repeat (first | (with_reducible first | exact HB.out | apply below_alloc | apply pw_below_drewN | apply below_drew1) | exact HB.out)) hb); have n1_ := Aside0.mk (hbox); have n2_ := Aside0.mk ((by rw [hg]; exact (below_size (by repeat (first | (with_reducible first | exact HB.out | apply below_alloc | apply pw_below_drewN | apply below_drew1) | exact HB.out))) : w.heap.size ≤ gb182)); have n3_ := Aside0.mk ((by rw [hg]; exact (below_size (by repeat (first | (with_reducible first | exact HB.out | apply below_alloc | apply pw_below_drewN | apply below_drew1) | exact HB.out))) : w.heap.size ≤ gb182)); clear HB; have HB := n0_; have BK182 := n1_; have GW182 := n2_; have GE182 := n3_; clear n0_ n1_ n2_ n3_; clear hb hbox hg; have hcz7_0 : w6.cell? ⟨gb182, 0, none⟩ = some (.int .u64 0) := (blk_cell BK182.out 0).trans rfl; have hcz7_1 : w6.cell? ⟨gb182, 1, none⟩ = some (.bool false) := (blk_cell BK182.out 1).trans rfl; have hfz7_0 := blk_frozen BK182.out 0; have hfz7_1 := blk_frozen BK182.out 1))
    refine bodyPost_ret (results_cell_row rfl _ _ gb182 64 #[.int .u64 (IntKind.u64.wrap (a0 + a1)), .bool true] (0, 0) _ rfl (by (with_reducible repeat (first | refine blk_drewN ?_ _ | refine blk_drew ?_ | refine blk_alloc ?_ _)); refine blk_put (cs := #[.int .u64 (IntKind.u64.wrap (a0 + a1)), .bool false]) ?_ 1 _ rfl; (with_reducible repeat (first | refine blk_drewN ?_ _ | refine blk_drew ?_ | refine blk_alloc ?_ _)); refine blk_put (cs := #[.int .u64 0, .bool false]) ?_ 0 _ rfl; (with_reducible repeat (first | refine blk_drewN ?_ _ | refine blk_drew ?_ | refine blk_alloc ?_ _)); exact BK182.out) Tryd.underlying64 rfl (by kernel_rfl)) rfl ?_
    exact ⟨by first | rfl | (simp [errW_none, errW_some] <;> rfl) | (simp [*, errW_none, errW_some] <;> rfl), by repeat (first | (with_reducible first | exact HB.out | apply below_alloc | apply pw_below_drewN | apply below_drew1 | refine below_set ?_ GE182.out) | exact HB.out)⟩

-- NOT PRINTED: function 35 (wheel_New)

-- GIVEN: function 80 (bits_Len64)

/-! ### tick_Top: function 51 -/
def tick_Top.f (a0 : Int) (a1 : Int) : Option (Int) := if a0 = a1 then (some (-1)) else ((bits_Len64.f (Go.bits .xor .u64 a0 a1)).bind fun t183 => (some (wrap64 (Int.tdiv (wrap64 (t183 - 1)) 6))))
set_option maxHeartbeats 8000000 in
set_option maxRecDepth 100000 in
theorem tick_Top.calls (a0 : Int) (a1 : Int) (r : Int) (w : World) (h : tick_Top.f a0 a1 = some r) (hT0 : TabOk w) :
    Calls Tryd.prog 51 #[.int .u64 a0, .int .u64 a1] w fun e w' => e = .returned (.int .i64 r) ∧ Below w.heap.size w w' := by
  have HT0 := Aside0.mk hT0
  clear hT0
  have HB := Aside0.mk (Below.refl w.heap.size w)
  have H : (if a0 = a1 then (some (-1)) else ((bits_Len64.f (Go.bits .xor .u64 a0 a1)).bind fun t183 => (some (wrap64 (Int.tdiv (wrap64 (t183 - 1)) 6))))) = some r := h
  clear h
  by_cases c3 : a0 = a1
  · rw [if_pos c3] at H
    have c3b0 : (a0 == a1) = true := beq_iff_eq.mpr c3
    have c3b1 : (a0 != a1) = false := bne_eq_false_iff_eq.mpr c3
    clear c3
    obtain rfl := Option.some.inj H
    go_enter Tryd.func51, Tryd.ntmps51
    go_wp2
    go_ret
    exact ⟨by first | rfl | (simp [errW_none, errW_some] <;> rfl) | (simp [*, errW_none, errW_some] <;> rfl), by repeat (first | (with_reducible first | exact HB.out | apply below_alloc | apply pw_below_drewN | apply below_drew1) | exact HB.out)⟩
  · rw [if_neg c3] at H
    have c3b0 : (a0 == a1) = false := beq_eq_false_iff_ne.mpr c3
    have c3b1 : (a0 != a1) = true := bne_iff_ne.mpr c3
    replace H := Option.bind_eq_some_iff.mp H
    obtain ⟨t183, A40, H⟩ := H
    replace H : (some (wrap64 (Int.tdiv (wrap64 (t183 - 1)) 6))) = some r := H
    have A4 := Aside0.mk A40
    clear A40
    obtain rfl := Option.some.inj H
    go_enter Tryd.func51, Tryd.ntmps51
    go_wp2_with (first | ((with_reducible refine gate_callee (f := 80) rfl ?_); refine goesL_ (some 11) rfl rfl Tryd.func80 (by kernel_rfl) rfl #[.int .u64 (Go.bits .xor .u64 a0 a1)] rfl (by (try simp only [List.map_toArray, List.map_cons, List.map_nil]); first | done | rfl | (simp only [List.length_drop, List.length_take]; rfl)) ?_; (with_reducible refine (bits_Len64.calls (Go.bits .xor .u64 a0 a1) t183 _ A4.out (TabOk.below HT0.out (by repeat (first | (with_reducible first | exact HB.out | apply below_alloc | apply pw_below_drewN | apply below_drew1) | exact HB.out)))).mono ?_); rintro e w5 ⟨rfl, hb⟩; refine ⟨_, rfl, ?_⟩; have n0_ := Aside0.mk (below_step (by repeat (first | (with_reducible first | exact HB.out | apply below_alloc | apply pw_below_drewN | apply below_drew1) | exact HB.out)) hb); clear HB; have HB := n0_; clear n0_; (try clear hb); (try clear hb2); (try clear hk); (try clear hi)))
    go_ret
    exact ⟨by first | rfl | (simp [errW_none, errW_some] <;> rfl) | (simp [*, errW_none, errW_some] <;> rfl), by repeat (first | (with_reducible first | exact HB.out | apply below_alloc | apply pw_below_drewN | apply below_drew1) | exact HB.out)⟩

/-! ### tick_Digits: function 52 -/
def tick_Digits.l0 : Nat → Int → Int → Int → Int → Int → Int → Int → Int → Int → Int → Int → Int → Int → Option (Int × Int × Int × Int × Int × Int × Int × Int × Int × Int × Int)
  | 0, _, _, _, _, _, _, _, _, _, _, _, _, _ => none
  | k + 1, x0, x5, x186000, x186001, x186002, x186003, x186004, x186005, x186006, x186007, x186008, x186009, x186010 => if x5 < 11 then (if x5 = 0 then (tick_Digits.l0 k (IntKind.u64.wrap (Int.tdiv x0 64)) (wrap64 (x5 + 1)) (wrap64 (Int.tmod x0 64)) x186001 x186002 x186003 x186004 x186005 x186006 x186007 x186008 x186009 x186010) else (if x5 = 1 then (tick_Digits.l0 k (IntKind.u64.wrap (Int.tdiv x0 64)) (wrap64 (x5 + 1)) x186000 (wrap64 (Int.tmod x0 64)) x186002 x186003 x186004 x186005 x186006 x186007 x186008 x186009 x186010) else (if x5 = 2 then (tick_Digits.l0 k (IntKind.u64.wrap (Int.tdiv x0 64)) (wrap64 (x5 + 1)) x186000 x186001 (wrap64 (Int.tmod x0 64)) x186003 x186004 x186005 x186006 x186007 x186008 x186009 x186010) else (if x5 = 3 then (tick_Digits.l0 k (IntKind.u64.wrap (Int.tdiv x0 64)) (wrap64 (x5 + 1)) x186000 x186001 x186002 (wrap64 (Int.tmod x0 64)) x186004 x186005 x186006 x186007 x186008 x186009 x186010) else (if x5 = 4 then (tick_Digits.l0 k (IntKind.u64.wrap (Int.tdiv x0 64)) (wrap64 (x5 + 1)) x186000 x186001 x186002 x186003 (wrap64 (Int.tmod x0 64)) x186005 x186006 x186007 x186008 x186009 x186010) else (if x5 = 5 then (tick_Digits.l0 k (IntKind.u64.wrap (Int.tdiv x0 64)) (wrap64 (x5 + 1)) x186000 x186001 x186002 x186003 x186004 (wrap64 (Int.tmod x0 64)) x186006 x186007 x186008 x186009 x186010) else (if x5 = 6 then (tick_Digits.l0 k (IntKind.u64.wrap (Int.tdiv x0 64)) (wrap64 (x5 + 1)) x186000 x186001 x186002 x186003 x186004 x186005 (wrap64 (Int.tmod x0 64)) x186007 x186008 x186009 x186010) else (if x5 = 7 then (tick_Digits.l0 k (IntKind.u64.wrap (Int.tdiv x0 64)) (wrap64 (x5 + 1)) x186000 x186001 x186002 x186003 x186004 x186005 x186006 (wrap64 (Int.tmod x0 64)) x186008 x186009 x186010) else (if x5 = 8 then (tick_Digits.l0 k (IntKind.u64.wrap (Int.tdiv x0 64)) (wrap64 (x5 + 1)) x186000 x186001 x186002 x186003 x186004 x186005 x186006 x186007 (wrap64 (Int.tmod x0 64)) x186009 x186010) else (if x5 = 9 then (tick_Digits.l0 k (IntKind.u64.wrap (Int.tdiv x0 64)) (wrap64 (x5 + 1)) x186000 x186001 x186002 x186003 x186004 x186005 x186006 x186007 x186008 (wrap64 (Int.tmod x0 64)) x186010) else (if x5 = 10 then (tick_Digits.l0 k (IntKind.u64.wrap (Int.tdiv x0 64)) (wrap64 (x5 + 1)) x186000 x186001 x186002 x186003 x186004 x186005 x186006 x186007 x186008 x186009 (wrap64 (Int.tmod x0 64))) else (none)))))))))))) else (some (x186000, x186001, x186002, x186003, x186004, x186005, x186006, x186007, x186008, x186009, x186010))
def tick_Digits.f (k : Nat) (a0 : Int) : Option (Int × Int × Int × Int × Int × Int × Int × Int × Int × Int × Int) := tick_Digits.l0 k a0 0 0 0 0 0 0 0 0 0 0 0 0
theorem tick_Digits.mono_l : ∀ k, (∀ y0 y1 y2 y3 y4 y5 y6 y7 y8 y9 y10 y11 y12, LeO (tick_Digits.l0 k y0 y1 y2 y3 y4 y5 y6 y7 y8 y9 y10 y11 y12) (tick_Digits.l0 (k + 1) y0 y1 y2 y3 y4 y5 y6 y7 y8 y9 y10 y11 y12))
  | 0 => fun _ _ _ _ _ _ _ _ _ _ _ _ _ r h => by simp [tick_Digits.l0] at h
  | k + 1 => by
    have ih0 := tick_Digits.mono_l k
    · intro y0 y1 y2 y3 y4 y5 y6 y7 y8 y9 y10 y11 y12
      unfold tick_Digits.l0
      repeat' first
      | (with_reducible exact ih0 _ _ _ _ _ _ _ _ _ _ _ _ _)
      | (with_reducible exact LeO.refl _)
      | (with_reducible exact LeO.none _)
      | (with_reducible refine LeO.ite ?_ ?_)
      | (with_reducible refine LeO.bind ?_ (fun _ => ?_))
      | exact ih0 _ _ _ _ _ _ _ _ _ _ _ _ _
      | exact LeO.none _
      | refine LeO.ite ?_ ?_
      | refine LeO.bind ?_ (fun _ => ?_)
theorem tick_Digits.mono : ∀ a0 k, LeO (tick_Digits.f k a0) (tick_Digits.f (k + 1) a0) := by
  intro a0 k
  have ih0 := tick_Digits.mono_l k
  unfold tick_Digits.f
  repeat' first
      | (with_reducible exact ih0 _ _ _ _ _ _ _ _ _ _ _ _ _)
      | (with_reducible exact LeO.refl _)
      | (with_reducible exact LeO.none _)
      | (with_reducible refine LeO.ite ?_ ?_)
      | (with_reducible refine LeO.bind ?_ (fun _ => ?_))
      | exact ih0 _ _ _ _ _ _ _ _ _ _ _ _ _
      | exact LeO.none _
      | refine LeO.ite ?_ ?_
      | refine LeO.bind ?_ (fun _ => ?_)
set_option maxHeartbeats 8000000 in
set_option maxRecDepth 100000 in
theorem tick_Digits.calls (k : Nat) (a0 : Int) (r1 : Int) (r2 : Int) (r3 : Int) (r4 : Int) (r5 : Int) (r6 : Int) (r7 : Int) (r8 : Int) (r9 : Int) (r10 : Int) (r11 : Int) (w : World) (h : tick_Digits.f k a0 = some (r1, r2, r3, r4, r5, r6, r7, r8, r9, r10, r11)) :
    Calls Tryd.prog 52 #[.int .u64 a0] w fun e w' => e = .returned (.agg #[.int .i64 r1, .int .i64 r2, .int .i64 r3, .int .i64 r4, .int .i64 r5, .int .i64 r6, .int .i64 r7, .int .i64 r8, .int .i64 r9, .int .i64 r10, .int .i64 r11]) ∧ Below w.heap.size w w' := by
  have hu93 := Tryd.underlying93
  have HB := Aside0.mk (Below.refl w.heap.size w)
  have H : (tick_Digits.l0 k a0 0 0 0 0 0 0 0 0 0 0 0 0) = some (r1, r2, r3, r4, r5, r6, r7, r8, r9, r10, r11) := h
  clear h
  have H' := Aside0.mk H
  clear H
  go_enter Tryd.func52, Tryd.ntmps52
  go_wp2_with (first | ((with_reducible refine gate_dst (N := 2) rfl ?_); refine box_event ?hg (N := 2) ?hd (cs := #[.int .i64 0, .int .i64 0, .int .i64 0, .int .i64 0, .int .i64 0, .int .i64 0, .int .i64 0, .int .i64 0, .int .i64 0, .int .i64 0, .int .i64 0]) (t := 93) ?hr ?_; (case hd => rfl); (case hg => rfl); (case hr => first | (go_simp; done) | (go_simp; rfl)); intro gb184 hg w2 hbox hb; have n0_ := Aside0.mk (below_step (by repeat (first | (with_reducible first | exact HB.out | apply below_alloc | apply pw_below_drewN | apply below_drew1) | exact HB.out)) hb); have n1_ := Aside0.mk (hbox); have n2_ := Aside0.mk ((by rw [hg]; exact (below_size (by repeat (first | (with_reducible first | exact HB.out | apply below_alloc | apply pw_below_drewN | apply below_drew1) | exact HB.out))) : w.heap.size ≤ gb184)); have n3_ := Aside0.mk ((by rw [hg]; exact (below_size (by repeat (first | (with_reducible first | exact HB.out | apply below_alloc | apply pw_below_drewN | apply below_drew1) | exact HB.out))) : w.heap.size ≤ gb184)); clear HB; have HB := n0_; have BK184 := n1_; have GW184 := n2_; have GE184 := n3_; clear n0_ n1_ n2_ n3_; clear hb hbox hg) | ((with_reducible refine gate_dst (N := 3) rfl ?_); refine box_event ?hg (N := 3) ?hd (cs := #[.int .i64 0, .int .i64 0, .int .i64 0, .int .i64 0, .int .i64 0, .int .i64 0, .int .i64 0, .int .i64 0, .int .i64 0, .int .i64 0, .int .i64 0]) (t := 93) ?hr ?_; (case hd => rfl); (case hg => rfl); (case hr => first | (go_simp; done) | (go_simp; rfl)); intro gb185 hg w3 hbox hb; have n0_ := Aside0.mk (blk_below (g := gb184) (o := .cells #[.int .i64 0, .int .i64 0, .int .i64 0, .int .i64 0, .int .i64 0, .int .i64 0, .int .i64 0, .int .i64 0, .int .i64 0, .int .i64 0, .int .i64 0] 93 (0, 0)) (by (with_reducible repeat (first | refine blk_drewN ?_ _ | refine blk_drew ?_ | refine blk_alloc ?_ _)); exact BK184.out) hb); have n1_ := Aside0.mk (below_step (by repeat (first | (with_reducible first | exact HB.out | apply below_alloc | apply pw_below_drewN | apply below_drew1 | refine below_set ?_ GE184.out) | exact HB.out)) hb); have n2_ := Aside0.mk (hbox); have n3_ := Aside0.mk ((by rw [hg]; exact (below_size (by repeat (first | (with_reducible first | exact HB.out | apply below_alloc | apply pw_below_drewN | apply below_drew1 | refine below_set ?_ GE184.out) | exact HB.out))) : w.heap.size ≤ gb185)); have n4_ := Aside0.mk ((by rw [hg]; exact (below_size (by repeat (first | (with_reducible first | exact HB.out | apply below_alloc | apply pw_below_drewN | apply below_drew1 | refine below_set ?_ GE184.out) | exact HB.out))) : w.heap.size ≤ gb185)); have n5_ := Aside0.mk ((by rw [hg]; exact Nat.ne_of_lt (blk_lt (g := gb184) (o := .cells #[.int .i64 0, .int .i64 0, .int .i64 0, .int .i64 0, .int .i64 0, .int .i64 0, .int .i64 0, .int .i64 0, .int .i64 0, .int .i64 0, .int .i64 0] 93 (0, 0)) (by (with_reducible repeat (first | refine blk_drewN ?_ _ | refine blk_drew ?_ | refine blk_alloc ?_ _)); exact BK184.out)) : gb184 ≠ gb185)); have n6_ := Aside0.mk ((by rw [hg]; exact Nat.ne_of_gt (blk_lt (g := gb184) (o := .cells #[.int .i64 0, .int .i64 0, .int .i64 0, .int .i64 0, .int .i64 0, .int .i64 0, .int .i64 0, .int .i64 0, .int .i64 0, .int .i64 0, .int .i64 0] 93 (0, 0)) (by (with_reducible repeat (first | refine blk_drewN ?_ _ | refine blk_drew ?_ | refine blk_alloc ?_ _)); exact BK184.out)) : gb185 ≠ gb184)); clear BK184; clear HB; have BK184 := n0_; have HB := n1_; have BK185 := n2_; have GW185 := n3_; have GE185 := n4_; have NB184_185 := n5_; have NB185_184 := n6_; clear n0_ n1_ n2_ n3_ n4_ n5_ n6_; clear hb hbox hg))
  go_loopg [0, 5] k (fun kq v0 v5 w' => ∃ (x0_1 : Int) (x5_1 : Int) (x186000_1 : Int) (x186001_1 : Int) (x186002_1 : Int) (x186003_1 : Int) (x186004_1 : Int) (x186005_1 : Int) (x186006_1 : Int) (x186007_1 : Int) (x186008_1 : Int) (x186009_1 : Int) (x186010_1 : Int), v0 = .int .u64 x0_1 ∧ v5 = .int .i64 x5_1 ∧ Aside0 (tick_Digits.l0 kq x0_1 x5_1 x186000_1 x186001_1 x186002_1 x186003_1 x186004_1 x186005_1 x186006_1 x186007_1 x186008_1 x186009_1 x186010_1 = some (r1, r2, r3, r4, r5, r6, r7, r8, r9, r10, r11)) ∧ Aside0 (kq ≤ k) ∧ Aside0 (w'.heap[gb184]? = some (.cells #[.int .i64 0, .int .i64 0, .int .i64 0, .int .i64 0, .int .i64 0, .int .i64 0, .int .i64 0, .int .i64 0, .int .i64 0, .int .i64 0, .int .i64 0] 93 (0, 0))) ∧ Aside0 (w'.heap[gb185]? = some (.cells #[.int .i64 x186000_1, .int .i64 x186001_1, .int .i64 x186002_1, .int .i64 x186003_1, .int .i64 x186004_1, .int .i64 x186005_1, .int .i64 x186006_1, .int .i64 x186007_1, .int .i64 x186008_1, .int .i64 x186009_1, .int .i64 x186010_1] 93 (0, 0))) ∧ Aside0 (Below w.heap.size w w'))
  case atStart => exact ⟨(a0), (0), (0), (0), (0), (0), (0), (0), (0), (0), (0), (0), (0), (by first | rfl | (simp; done) | (simp [*]; done) | (simp; decide +kernel)), (by first | rfl | (simp; done) | (simp [*]; done) | (simp; decide +kernel)), H', ⟨Nat.le_refl _⟩, ⟨by (with_reducible repeat (first | refine blk_drewN ?_ _ | refine blk_drew ?_ | refine blk_alloc ?_ _)); exact BK184.out⟩, ⟨by (with_reducible repeat (first | refine blk_drewN ?_ _ | refine blk_drew ?_ | refine blk_alloc ?_ _)); exact BK185.out⟩, ⟨by repeat (first | (with_reducible first | exact HB.out | apply below_alloc | apply pw_below_drewN | apply below_drew1 | refine below_set ?_ GE184.out | refine below_set ?_ GE185.out) | exact HB.out)⟩⟩
  case round =>
    clear H'
    try clear p2
    obtain ⟨x0_1, x5_1, x186000_1, x186001_1, x186002_1, x186003_1, x186004_1, x186005_1, x186006_1, x186007_1, x186008_1, x186009_1, x186010_1, rfl, rfl, HA, HK1, BK184, BK185, HB⟩ := hrel
    cases gk with
    | zero => exact absurd HA.out (by simp [tick_Digits.l0])
    | succ k1 =>
      have H := HA.out
      clear HA
      simp only [tick_Digits.l0] at H
      by_cases c4 : x5_1 < 11
      · rw [if_pos c4] at H
        have c4b0 : decide (x5_1 < 11) = true := decide_eq_true c4
        clear c4
        by_cases c5 : x5_1 = 0
        · subst c5
          rw [if_pos rfl] at H
          have H' := Aside0.mk H
          clear H
          have hnb6 := NB185_184.out
          have hnc6 := NB184_185.out
          have hcz7_0 : wr.cell? ⟨gb185, 0, none⟩ = some (.int .i64 x186000_1) := (blk_cell BK185.out 0).trans rfl
          have hcz7_1 : wr.cell? ⟨gb185, 1, none⟩ = some (.int .i64 x186001_1) := (blk_cell BK185.out 1).trans rfl
          have hcz7_2 : wr.cell? ⟨gb185, 2, none⟩ = some (.int .i64 x186002_1) := (blk_cell BK185.out 2).trans rfl
          have hcz7_3 : wr.cell? ⟨gb185, 3, none⟩ = some (.int .i64 x186003_1) := (blk_cell BK185.out 3).trans rfl
          have hcz7_4 : wr.cell? ⟨gb185, 4, none⟩ = some (.int .i64 x186004_1) := (blk_cell BK185.out 4).trans rfl
          have hcz7_5 : wr.cell? ⟨gb185, 5, none⟩ = some (.int .i64 x186005_1) := (blk_cell BK185.out 5).trans rfl
          have hcz7_6 : wr.cell? ⟨gb185, 6, none⟩ = some (.int .i64 x186006_1) := (blk_cell BK185.out 6).trans rfl
          have hcz7_7 : wr.cell? ⟨gb185, 7, none⟩ = some (.int .i64 x186007_1) := (blk_cell BK185.out 7).trans rfl
          have hcz7_8 : wr.cell? ⟨gb185, 8, none⟩ = some (.int .i64 x186008_1) := (blk_cell BK185.out 8).trans rfl
          have hcz7_9 : wr.cell? ⟨gb185, 9, none⟩ = some (.int .i64 x186009_1) := (blk_cell BK185.out 9).trans rfl
          have hcz7_10 : wr.cell? ⟨gb185, 10, none⟩ = some (.int .i64 x186010_1) := (blk_cell BK185.out 10).trans rfl
          have hfz7_0 := blk_frozen BK185.out 0
          have hfz7_1 := blk_frozen BK185.out 1
          have hfz7_2 := blk_frozen BK185.out 2
          have hfz7_3 := blk_frozen BK185.out 3
          have hfz7_4 := blk_frozen BK185.out 4
          have hfz7_5 := blk_frozen BK185.out 5
          have hfz7_6 := blk_frozen BK185.out 6
          have hfz7_7 := blk_frozen BK185.out 7
          have hfz7_8 := blk_frozen BK185.out 8
          have hfz7_9 := blk_frozen BK185.out 9
          have hfz7_10 := blk_frozen BK185.out 10
          go_wp2
          go_roundg k1
          case measure => have := HK1.out; omega
          case rel => exact ⟨(IntKind.u64.wrap (Int.tdiv x0_1 64)), (wrap64 ((0 : Int) + 1)), (wrap64 (Int.tmod x0_1 64)), (x186001_1), (x186002_1), (x186003_1), (x186004_1), (x186005_1), (x186006_1), (x186007_1), (x186008_1), (x186009_1), (x186010_1), (by first | rfl | (simp; done) | (simp [*]; done) | (simp; decide +kernel)), (by first | rfl | (simp; done) | (simp [*]; done) | (simp; decide +kernel)), H', ⟨by have := HK1.out; omega⟩, ⟨by (with_reducible repeat (first | refine blk_drewN ?_ _ | refine blk_drew ?_ | refine blk_alloc ?_ _)); refine blk_far ?_ NB184_185.out _; (with_reducible repeat (first | refine blk_drewN ?_ _ | refine blk_drew ?_ | refine blk_alloc ?_ _)); exact BK184.out⟩, ⟨by (with_reducible repeat (first | refine blk_drewN ?_ _ | refine blk_drew ?_ | refine blk_alloc ?_ _)); refine blk_put (cs := #[.int .i64 x186000_1, .int .i64 x186001_1, .int .i64 x186002_1, .int .i64 x186003_1, .int .i64 x186004_1, .int .i64 x186005_1, .int .i64 x186006_1, .int .i64 x186007_1, .int .i64 x186008_1, .int .i64 x186009_1, .int .i64 x186010_1]) ?_ 0 _ rfl; (with_reducible repeat (first | refine blk_drewN ?_ _ | refine blk_drew ?_ | refine blk_alloc ?_ _)); exact BK185.out⟩, ⟨by repeat (first | (with_reducible first | exact HB.out | apply below_alloc | apply pw_below_drewN | apply below_drew1 | refine below_set ?_ GE184.out | refine below_set ?_ GE185.out) | exact HB.out)⟩⟩
        · rw [if_neg c5] at H
          clear c5
          by_cases c8 : x5_1 = 1
          · subst c8
            rw [if_pos rfl] at H
            have H' := Aside0.mk H
            clear H
            have hnb9 := NB185_184.out
            have hnc9 := NB184_185.out
            have hcz10_0 : wr.cell? ⟨gb185, 0, none⟩ = some (.int .i64 x186000_1) := (blk_cell BK185.out 0).trans rfl
            have hcz10_1 : wr.cell? ⟨gb185, 1, none⟩ = some (.int .i64 x186001_1) := (blk_cell BK185.out 1).trans rfl
            have hcz10_2 : wr.cell? ⟨gb185, 2, none⟩ = some (.int .i64 x186002_1) := (blk_cell BK185.out 2).trans rfl
            have hcz10_3 : wr.cell? ⟨gb185, 3, none⟩ = some (.int .i64 x186003_1) := (blk_cell BK185.out 3).trans rfl
            have hcz10_4 : wr.cell? ⟨gb185, 4, none⟩ = some (.int .i64 x186004_1) := (blk_cell BK185.out 4).trans rfl
            have hcz10_5 : wr.cell? ⟨gb185, 5, none⟩ = some (.int .i64 x186005_1) := (blk_cell BK185.out 5).trans rfl
            have hcz10_6 : wr.cell? ⟨gb185, 6, none⟩ = some (.int .i64 x186006_1) := (blk_cell BK185.out 6).trans rfl
            have hcz10_7 : wr.cell? ⟨gb185, 7, none⟩ = some (.int .i64 x186007_1) := (blk_cell BK185.out 7).trans rfl
            have hcz10_8 : wr.cell? ⟨gb185, 8, none⟩ = some (.int .i64 x186008_1) := (blk_cell BK185.out 8).trans rfl
            have hcz10_9 : wr.cell? ⟨gb185, 9, none⟩ = some (.int .i64 x186009_1) := (blk_cell BK185.out 9).trans rfl
            have hcz10_10 : wr.cell? ⟨gb185, 10, none⟩ = some (.int .i64 x186010_1) := (blk_cell BK185.out 10).trans rfl
            have hfz10_0 := blk_frozen BK185.out 0
            have hfz10_1 := blk_frozen BK185.out 1
            have hfz10_2 := blk_frozen BK185.out 2
            have hfz10_3 := blk_frozen BK185.out 3
            have hfz10_4 := blk_frozen BK185.out 4
            have hfz10_5 := blk_frozen BK185.out 5
            have hfz10_6 := blk_frozen BK185.out 6
            have hfz10_7 := blk_frozen BK185.out 7
            have hfz10_8 := blk_frozen BK185.out 8
            have hfz10_9 := blk_frozen BK185.out 9
            have hfz10_10 := blk_frozen BK185.out 10
            go_wp2
            go_roundg k1
            case measure => have := HK1.out; omega
            case rel => exact ⟨(IntKind.u64.wrap (Int.tdiv x0_1 64)), (wrap64 ((1 : Int) + 1)), (x186000_1), (wrap64 (Int.tmod x0_1 64)), (x186002_1), (x186003_1), (x186004_1), (x186005_1), (x186006_1), (x186007_1), (x186008_1), (x186009_1), (x186010_1), (by first | rfl | (simp; done) | (simp [*]; done) | (simp; decide +kernel)), (by first | rfl | (simp; done) | (simp [*]; done) | (simp; decide +kernel)), H', ⟨by have := HK1.out; omega⟩, ⟨by (with_reducible repeat (first | refine blk_drewN ?_ _ | refine blk_drew ?_ | refine blk_alloc ?_ _)); refine blk_far ?_ NB184_185.out _; (with_reducible repeat (first | refine blk_drewN ?_ _ | refine blk_drew ?_ | refine blk_alloc ?_ _)); exact BK184.out⟩, ⟨by (with_reducible repeat (first | refine blk_drewN ?_ _ | refine blk_drew ?_ | refine blk_alloc ?_ _)); refine blk_put (cs := #[.int .i64 x186000_1, .int .i64 x186001_1, .int .i64 x186002_1, .int .i64 x186003_1, .int .i64 x186004_1, .int .i64 x186005_1, .int .i64 x186006_1, .int .i64 x186007_1, .int .i64 x186008_1, .int .i64 x186009_1, .int .i64 x186010_1]) ?_ 1 _ rfl; (with_reducible repeat (first | refine blk_drewN ?_ _ | refine blk_drew ?_ | refine blk_alloc ?_ _)); exact BK185.out⟩, ⟨by repeat (first | (with_reducible first | exact HB.out | apply below_alloc | apply pw_below_drewN | apply below_drew1 | refine below_set ?_ GE184.out | refine below_set ?_ GE185.out) | exact HB.out)⟩⟩
          · rw [if_neg c8] at H
            clear c8
            by_cases c11 : x5_1 = 2
            · subst c11
              rw [if_pos rfl] at H
              have H' := Aside0.mk H
              clear H
              have hnb12 := NB185_184.out
              have hnc12 := NB184_185.out
              have hcz13_0 : wr.cell? ⟨gb185, 0, none⟩ = some (.int .i64 x186000_1) := (blk_cell BK185.out 0).trans rfl
              have hcz13_1 : wr.cell? ⟨gb185, 1, none⟩ = some (.int .i64 x186001_1) := (blk_cell BK185.out 1).trans rfl
              have hcz13_2 : wr.cell? ⟨gb185, 2, none⟩ = some (.int .i64 x186002_1) := (blk_cell BK185.out 2).trans rfl
              have hcz13_3 : wr.cell? ⟨gb185, 3, none⟩ = some (.int .i64 x186003_1) := (blk_cell BK185.out 3).trans rfl
              have hcz13_4 : wr.cell? ⟨gb185, 4, none⟩ = some (.int .i64 x186004_1) := (blk_cell BK185.out 4).trans rfl
              have hcz13_5 : wr.cell? ⟨gb185, 5, none⟩ = some (.int .i64 x186005_1) := (blk_cell BK185.out 5).trans rfl
              have hcz13_6 : wr.cell? ⟨gb185, 6, none⟩ = some (.int .i64 x186006_1) := (blk_cell BK185.out 6).trans rfl
              have hcz13_7 : wr.cell? ⟨gb185, 7, none⟩ = some (.int .i64 x186007_1) := (blk_cell BK185.out 7).trans rfl
              have hcz13_8 : wr.cell? ⟨gb185, 8, none⟩ = some (.int .i64 x186008_1) := (blk_cell BK185.out 8).trans rfl
              have hcz13_9 : wr.cell? ⟨gb185, 9, none⟩ = some (.int .i64 x186009_1) := (blk_cell BK185.out 9).trans rfl
              have hcz13_10 : wr.cell? ⟨gb185, 10, none⟩ = some (.int .i64 x186010_1) := (blk_cell BK185.out 10).trans rfl
              have hfz13_0 := blk_frozen BK185.out 0
              have hfz13_1 := blk_frozen BK185.out 1
              have hfz13_2 := blk_frozen BK185.out 2
              have hfz13_3 := blk_frozen BK185.out 3
              have hfz13_4 := blk_frozen BK185.out 4
              have hfz13_5 := blk_frozen BK185.out 5
              have hfz13_6 := blk_frozen BK185.out 6
              have hfz13_7 := blk_frozen BK185.out 7
              have hfz13_8 := blk_frozen BK185.out 8
              have hfz13_9 := blk_frozen BK185.out 9
              have hfz13_10 := blk_frozen BK185.out 10
              go_wp2
              go_roundg k1
              case measure => have := HK1.out; omega
              case rel => exact ⟨(IntKind.u64.wrap (Int.tdiv x0_1 64)), (wrap64 ((2 : Int) + 1)), (x186000_1), (x186001_1), (wrap64 (Int.tmod x0_1 64)), (x186003_1), (x186004_1), (x186005_1), (x186006_1), (x186007_1), (x186008_1), (x186009_1), (x186010_1), (by first | rfl | (simp; done) | (simp [*]; done) | (simp; decide +kernel)), (by first | rfl | (simp; done) | (simp [*]; done) | (simp; decide +kernel)), H', ⟨by have := HK1.out; omega⟩, ⟨by (with_reducible repeat (first | refine blk_drewN ?_ _ | refine blk_drew ?_ | refine blk_alloc ?_ _)); refine blk_far ?_ NB184_185.out _; (with_reducible repeat (first | refine blk_drewN ?_ _ | refine blk_drew ?_ | refine blk_alloc ?_ _)); exact BK184.out⟩, ⟨by (with_reducible repeat (first | refine blk_drewN ?_ _ | refine blk_drew ?_ | refine blk_alloc ?_ _)); refine blk_put (cs := #[.int .i64 x186000_1, .int .i64 x186001_1, .int .i64 x186002_1, .int .i64 x186003_1, .int .i64 x186004_1, .int .i64 x186005_1, .int .i64 x186006_1, .int .i64 x186007_1, .int .i64 x186008_1, .int .i64 x186009_1, .int .i64 x186010_1]) ?_ 2 _ rfl; (with_reducible repeat (first | refine blk_drewN ?_ _ | refine blk_drew ?_ | refine blk_alloc ?_ _)); exact BK185.out⟩, ⟨by repeat (first | (with_reducible first | exact HB.out | apply below_alloc | apply pw_below_drewN | apply below_drew1 | refine below_set ?_ GE184.out | refine below_set ?_ GE185.out) | exact HB.out)⟩⟩
            · rw [if_neg c11] at H
              clear c11
              by_cases c14 : x5_1 = 3
              · subst c14
                rw [if_pos rfl] at H
                have H' := Aside0.mk H
                clear H
                have hnb15 := NB185_184.out
                have hnc15 := NB184_185.out
                have hcz16_0 : wr.cell? ⟨gb185, 0, none⟩ = some (.int .i64 x186000_1) := (blk_cell BK185.out 0).trans rfl
                have hcz16_1 : wr.cell? ⟨gb185, 1, none⟩ = some (.int .i64 x186001_1) := (blk_cell BK185.out 1).trans rfl
                have hcz16_2 : wr.cell? ⟨gb185, 2, none⟩ = some (.int .i64 x186002_1) := (blk_cell BK185.out 2).trans rfl
                have hcz16_3 : wr.cell? ⟨gb185, 3, none⟩ = some (.int .i64 x186003_1) := (blk_cell BK185.out 3).trans rfl
                have hcz16_4 : wr.cell? ⟨gb185, 4, none⟩ = some (.int .i64 x186004_1) := (blk_cell BK185.out 4).trans rfl
                have hcz16_5 : wr.cell? ⟨gb185, 5, none⟩ = some (.int .i64 x186005_1) := (blk_cell BK185.out 5).trans rfl
                have hcz16_6 : wr.cell? ⟨gb185, 6, none⟩ = some (.int .i64 x186006_1) := (blk_cell BK185.out 6).trans rfl
                have hcz16_7 : wr.cell? ⟨gb185, 7, none⟩ = some (.int .i64 x186007_1) := (blk_cell BK185.out 7).trans rfl
                have hcz16_8 : wr.cell? ⟨gb185, 8, none⟩ = some (.int .i64 x186008_1) := (blk_cell BK185.out 8).trans rfl
                have hcz16_9 : wr.cell? ⟨gb185, 9, none⟩ = some (.int .i64 x186009_1) := (blk_cell BK185.out 9).trans rfl
                have hcz16_10 : wr.cell? ⟨gb185, 10, none⟩ = some (.int .i64 x186010_1) := (blk_cell BK185.out 10).trans rfl
                have hfz16_0 := blk_frozen BK185.out 0
                have hfz16_1 := blk_frozen BK185.out 1
                have hfz16_2 := blk_frozen BK185.out 2
                have hfz16_3 := blk_frozen BK185.out 3
                have hfz16_4 := blk_frozen BK185.out 4
                have hfz16_5 := blk_frozen BK185.out 5
                have hfz16_6 := blk_frozen BK185.out 6
                have hfz16_7 := blk_frozen BK185.out 7
                have hfz16_8 := blk_frozen BK185.out 8
                have hfz16_9 := blk_frozen BK185.out 9
                have hfz16_10 := blk_frozen BK185.out 10
                go_wp2
                go_roundg k1
                case measure => have := HK1.out; omega
                case rel => exact ⟨(IntKind.u64.wrap (Int.tdiv x0_1 64)), (wrap64 ((3 : Int) + 1)), (x186000_1), (x186001_1), (x186002_1), (wrap64 (Int.tmod x0_1 64)), (x186004_1), (x186005_1), (x186006_1), (x186007_1), (x186008_1), (x186009_1), (x186010_1), (by first | rfl | (simp; done) | (simp [*]; done) | (simp; decide +kernel)), (by first | rfl | (simp; done) | (simp [*]; done) | (simp; decide +kernel)), H', ⟨by have := HK1.out; omega⟩, ⟨by (with_reducible repeat (first | refine blk_drewN ?_ _ | refine blk_drew ?_ | refine blk_alloc ?_ _)); refine blk_far ?_ NB184_185.out _; (with_reducible repeat (first | refine blk_drewN ?_ _ | refine blk_drew ?_ | refine blk_alloc ?_ _)); exact BK184.out⟩, ⟨by (with_reducible repeat (first | refine blk_drewN ?_ _ | refine blk_drew ?_ | refine blk_alloc ?_ _)); refine blk_put (cs := #[.int .i64 x186000_1, .int .i64 x186001_1, .int .i64 x186002_1, .int .i64 x186003_1, .int .i64 x186004_1, .int .i64 x186005_1, .int .i64 x186006_1, .int .i64 x186007_1, .int .i64 x186008_1, .int .i64 x186009_1, .int .i64 x186010_1]) ?_ 3 _ rfl; (with_reducible repeat (first | refine blk_drewN ?_ _ | refine blk_drew ?_ | refine blk_alloc ?_ _)); exact BK185.out⟩, ⟨by repeat (first | (with_reducible first | exact HB.out | apply below_alloc | apply pw_below_drewN | apply below_drew1 | refine below_set ?_ GE184.out | refine below_set ?_ GE185.out) | exact HB.out)⟩⟩
              · rw [if_neg c14] at H
                clear c14
                by_cases c17 : x5_1 = 4
                · subst c17
                  rw [if_pos rfl] at H
                  have H' := Aside0.mk H
                  clear H
                  have hnb18 := NB185_184.out
                  have hnc18 := NB184_185.out
                  have hcz19_0 : wr.cell? ⟨gb185, 0, none⟩ = some (.int .i64 x186000_1) := (blk_cell BK185.out 0).trans rfl
                  have hcz19_1 : wr.cell? ⟨gb185, 1, none⟩ = some (.int .i64 x186001_1) := (blk_cell BK185.out 1).trans rfl
                  have hcz19_2 : wr.cell? ⟨gb185, 2, none⟩ = some (.int .i64 x186002_1) := (blk_cell BK185.out 2).trans rfl
                  have hcz19_3 : wr.cell? ⟨gb185, 3, none⟩ = some (.int .i64 x186003_1) := (blk_cell BK185.out 3).trans rfl
                  have hcz19_4 : wr.cell? ⟨gb185, 4, none⟩ = some (.int .i64 x186004_1) := (blk_cell BK185.out 4).trans rfl
                  have hcz19_5 : wr.cell? ⟨gb185, 5, none⟩ = some (.int .i64 x186005_1) := (blk_cell BK185.out 5).trans rfl
                  have hcz19_6 : wr.cell? ⟨gb185, 6, none⟩ = some (.int .i64 x186006_1) := (blk_cell BK185.out 6).trans rfl
                  have hcz19_7 : wr.cell? ⟨gb185, 7, none⟩ = some (.int .i64 x186007_1) := (blk_cell BK185.out 7).trans rfl
                  have hcz19_8 : wr.cell? ⟨gb185, 8, none⟩ = some (.int .i64 x186008_1) := (blk_cell BK185.out 8).trans rfl
                  have hcz19_9 : wr.cell? ⟨gb185, 9, none⟩ = some (.int .i64 x186009_1) := (blk_cell BK185.out 9).trans rfl
                  have hcz19_10 : wr.cell? ⟨gb185, 10, none⟩ = some (.int .i64 x186010_1) := (blk_cell BK185.out 10).trans rfl
                  have hfz19_0 := blk_frozen BK185.out 0
                  have hfz19_1 := blk_frozen BK185.out 1
                  have hfz19_2 := blk_frozen BK185.out 2
                  have hfz19_3 := blk_frozen BK185.out 3
                  have hfz19_4 := blk_frozen BK185.out 4
                  have hfz19_5 := blk_frozen BK185.out 5
                  have hfz19_6 := blk_frozen BK185.out 6
                  have hfz19_7 := blk_frozen BK185.out 7
                  have hfz19_8 := blk_frozen BK185.out 8
                  have hfz19_9 := blk_frozen BK185.out 9
                  have hfz19_10 := blk_frozen BK185.out 10
                  go_wp2
                  go_roundg k1
                  case measure => have := HK1.out; omega
                  case rel => exact ⟨(IntKind.u64.wrap (Int.tdiv x0_1 64)), (wrap64 ((4 : Int) + 1)), (x186000_1), (x186001_1), (x186002_1), (x186003_1), (wrap64 (Int.tmod x0_1 64)), (x186005_1), (x186006_1), (x186007_1), (x186008_1), (x186009_1), (x186010_1), (by first | rfl | (simp; done) | (simp [*]; done) | (simp; decide +kernel)), (by first | rfl | (simp; done) | (simp [*]; done) | (simp; decide +kernel)), H', ⟨by have := HK1.out; omega⟩, ⟨by (with_reducible repeat (first | refine blk_drewN ?_ _ | refine blk_drew ?_ | refine blk_alloc ?_ _)); refine blk_far ?_ NB184_185.out _; (with_reducible repeat (first | refine blk_drewN ?_ _ | refine blk_drew ?_ | refine blk_alloc ?_ _)); exact BK184.out⟩, ⟨by (with_reducible repeat (first | refine blk_drewN ?_ _ | refine blk_drew ?_ | refine blk_alloc ?_ _)); refine blk_put (cs := #[.int .i64 x186000_1, .int .i64 x186001_1, .int .i64 x186002_1, .int .i64 x186003_1, .int .i64 x186004_1, .int .i64 x186005_1, .int .i64 x186006_1, .int .i64 x186007_1, .int .i64 x186008_1, .int .i64 x186009_1, .int .i64 x186010_1]) ?_ 4 _ rfl; (with_reducible repeat (first | refine blk_drewN ?_ _ | refine blk_drew ?_ | refine blk_alloc ?_ _)); exact BK185.out⟩, ⟨by repeat (first | (with_reducible first | exact HB.out | apply below_alloc | apply pw_below_drewN | apply below_drew1 | refine below_set ?_ GE184.out | refine below_set ?_ GE185.out) | exact HB.out)⟩⟩
                · rw [if_neg c17] at H
                  clear c17
                  by_cases c20 : x5_1 = 5
                  · subst c20
                    rw [if_pos rfl] at H
                    have H' := Aside0.mk H
                    clear H
                    have hnb21 := NB185_184.out
                    have hnc21 := NB184_185.out
                    have hcz22_0 : wr.cell? ⟨gb185, 0, none⟩ = some (.int .i64 x186000_1) := (blk_cell BK185.out 0).trans rfl
                    have hcz22_1 : wr.cell? ⟨gb185, 1, none⟩ = some (.int .i64 x186001_1) := (blk_cell BK185.out 1).trans rfl
                    have hcz22_2 : wr.cell? ⟨gb185, 2, none⟩ = some (.int .i64 x186002_1) := (blk_cell BK185.out 2).trans rfl
                    have hcz22_3 : wr.cell? ⟨gb185, 3, none⟩ = some (.int .i64 x186003_1) := (blk_cell BK185.out 3).trans rfl
                    have hcz22_4 : wr.cell? ⟨gb185, 4, none⟩ = some (.int .i64 x186004_1) := (blk_cell BK185.out 4).trans rfl
                    have hcz22_5 : wr.cell? ⟨gb185, 5, none⟩ = some (.int .i64 x186005_1) := (blk_cell BK185.out 5).trans rfl
                    have hcz22_6 : wr.cell? ⟨gb185, 6, none⟩ = some (.int .i64 x186006_1) := (blk_cell BK185.out 6).trans rfl
                    have hcz22_7 : wr.cell? ⟨gb185, 7, none⟩ = some (.int .i64 x186007_1) := (blk_cell BK185.out 7).trans rfl
                    have hcz22_8 : wr.cell? ⟨gb185, 8, none⟩ = some (.int .i64 x186008_1) := (blk_cell BK185.out 8).trans rfl
                    have hcz22_9 : wr.cell? ⟨gb185, 9, none⟩ = some (.int .i64 x186009_1) := (blk_cell BK185.out 9).trans rfl
                    have hcz22_10 : wr.cell? ⟨gb185, 10, none⟩ = some (.int .i64 x186010_1) := (blk_cell BK185.out 10).trans rfl
                    have hfz22_0 := blk_frozen BK185.out 0
                    have hfz22_1 := blk_frozen BK185.out 1
                    have hfz22_2 := blk_frozen BK185.out 2
                    have hfz22_3 := blk_frozen BK185.out 3
                    have hfz22_4 := blk_frozen BK185.out 4
                    have hfz22_5 := blk_frozen BK185.out 5
                    have hfz22_6 := blk_frozen BK185.out 6
                    have hfz22_7 := blk_frozen BK185.out 7
                    have hfz22_8 := blk_frozen BK185.out 8
                    have hfz22_9 := blk_frozen BK185.out 9
                    have hfz22_10 := blk_frozen BK185.out 10
                    go_wp2
                    go_roundg k1
                    case measure => have := HK1.out; omega
                    case rel => exact ⟨(IntKind.u64.wrap (Int.tdiv x0_1 64)), (wrap64 ((5 : Int) + 1)), (x186000_1), (x186001_1), (x186002_1), (x186003_1), (x186004_1), (wrap64 (Int.tmod x0_1 64)), (x186006_1), (x186007_1), (x186008_1), (x186009_1), (x186010_1), (by first | rfl | (simp; done) | (simp [*]; done) | (simp; decide +kernel)), (by first | rfl | (simp; done) | (simp [*]; done) | (simp; decide +kernel)), H', ⟨by have := HK1.out; omega⟩, ⟨by (with_reducible repeat (first | refine blk_drewN ?_ _ | refine blk_drew ?_ | refine blk_alloc ?_ _)); refine blk_far ?_ NB184_185.out _; (with_reducible repeat (first | refine blk_drewN ?_ _ | refine blk_drew ?_ | refine blk_alloc ?_ _)); exact BK184.out⟩, ⟨by (with_reducible repeat (first | refine blk_drewN ?_ _ | refine blk_drew ?_ | refine blk_alloc ?_ _)); refine blk_put (cs := #[.int .i64 x186000_1, .int .i64 x186001_1, .int .i64 x186002_1, .int .i64 x186003_1, .int .i64 x186004_1, .int .i64 x186005_1, .int .i64 x186006_1, .int .i64 x186007_1, .int .i64 x186008_1, .int .i64 x186009_1, .int .i64 x186010_1]) ?_ 5 _ rfl; (with_reducible repeat (first | refine blk_drewN ?_ _ | refine blk_drew ?_ | refine blk_alloc ?_ _)); exact BK185.out⟩, ⟨by repeat (first | (with_reducible first | exact HB.out | apply below_alloc | apply pw_below_drewN | apply below_drew1 | refine below_set ?_ GE184.out | refine below_set ?_ GE185.out) | exact HB.out)⟩⟩
                  · rw [if_neg c20] at H
                    clear c20
                    by_cases c23 : x5_1 = 6
                    · subst c23
                      rw [if_pos rfl] at H
                      have H' := Aside0.mk H
                      clear H
                      have hnb24 := NB185_184.out
                      have hnc24 := NB184_185.out
                      have hcz25_0 : wr.cell? ⟨gb185, 0, none⟩ = some (.int .i64 x186000_1) := (blk_cell BK185.out 0).trans rfl
                      have hcz25_1 : wr.cell? ⟨gb185, 1, none⟩ = some (.int .i64 x186001_1) := (blk_cell BK185.out 1).trans rfl
                      have hcz25_2 : wr.cell? ⟨gb185, 2, none⟩ = some (.int .i64 x186002_1) := (blk_cell BK185.out 2).trans rfl
                      have hcz25_3 : wr.cell? ⟨gb185, 3, none⟩ = some (.int .i64 x186003_1) := (blk_cell BK185.out 3).trans rfl
                      have hcz25_4 : wr.cell? ⟨gb185, 4, none⟩ = some (.int .i64 x186004_1) := (blk_cell BK185.out 4).trans rfl
                      have hcz25_5 : wr.cell? ⟨gb185, 5, none⟩ = some (.int .i64 x186005_1) := (blk_cell BK185.out 5).trans rfl
                      have hcz25_6 : wr.cell? ⟨gb185, 6, none⟩ = some (.int .i64 x186006_1) := (blk_cell BK185.out 6).trans rfl
                      have hcz25_7 : wr.cell? ⟨gb185, 7, none⟩ = some (.int .i64 x186007_1) := (blk_cell BK185.out 7).trans rfl
                      have hcz25_8 : wr.cell? ⟨gb185, 8, none⟩ = some (.int .i64 x186008_1) := (blk_cell BK185.out 8).trans rfl
                      have hcz25_9 : wr.cell? ⟨gb185, 9, none⟩ = some (.int .i64 x186009_1) := (blk_cell BK185.out 9).trans rfl
                      have hcz25_10 : wr.cell? ⟨gb185, 10, none⟩ = some (.int .i64 x186010_1) := (blk_cell BK185.out 10).trans rfl
                      have hfz25_0 := blk_frozen BK185.out 0
                      have hfz25_1 := blk_frozen BK185.out 1
                      have hfz25_2 := blk_frozen BK185.out 2
                      have hfz25_3 := blk_frozen BK185.out 3
                      have hfz25_4 := blk_frozen BK185.out 4
                      have hfz25_5 := blk_frozen BK185.out 5
                      have hfz25_6 := blk_frozen BK185.out 6
                      have hfz25_7 := blk_frozen BK185.out 7
                      have hfz25_8 := blk_frozen BK185.out 8
                      have hfz25_9 := blk_frozen BK185.out 9
                      have hfz25_10 := blk_frozen BK185.out 10
                      go_wp2
                      go_roundg k1
                      case measure => have := HK1.out; omega
                      case rel => exact ⟨(IntKind.u64.wrap (Int.tdiv x0_1 64)), (wrap64 ((6 : Int) + 1)), (x186000_1), (x186001_1), (x186002_1), (x186003_1), (x186004_1), (x186005_1), (wrap64 (Int.tmod x0_1 64)), (x186007_1), (x186008_1), (x186009_1), (x186010_1), (by first | rfl | (simp; done) | (simp [*]; done) | (simp; decide +kernel)), (by first | rfl | (simp; done) | (simp [*]; done) | (simp; decide +kernel)), H', ⟨by have := HK1.out; omega⟩, ⟨by (with_reducible repeat (first | refine blk_drewN ?_ _ | refine blk_drew ?_ | refine blk_alloc ?_ _)); refine blk_far ?_ NB184_185.out _; (with_reducible repeat (first | refine blk_drewN ?_ _ | refine blk_drew ?_ | refine blk_alloc ?_ _)); exact BK184.out⟩, ⟨by (with_reducible repeat (first | refine blk_drewN ?_ _ | refine blk_drew ?_ | refine blk_alloc ?_ _)); refine blk_put (cs := #[.int .i64 x186000_1, .int .i64 x186001_1, .int .i64 x186002_1, .int .i64 x186003_1, .int .i64 x186004_1, .int .i64 x186005_1, .int .i64 x186006_1, .int .i64 x186007_1, .int .i64 x186008_1, .int .i64 x186009_1, .int .i64 x186010_1]) ?_ 6 _ rfl; (with_reducible repeat (first | refine blk_drewN ?_ _ | refine blk_drew ?_ | refine blk_alloc ?_ _)); exact BK185.out⟩, ⟨by repeat (first | (with_reducible first | exact HB.out | apply below_alloc | apply pw_below_drewN | apply below_drew1 | refine below_set ?_ GE184.out | refine below_set ?_ GE185.out) | exact HB.out)⟩⟩
                    · rw [if_neg c23] at H
                      clear c23
                      by_cases c26 : x5_1 = 7
                      · subst c26
                        rw [if_pos rfl] at H
                        have H' := Aside0.mk H
                        clear H
                        have hnb27 := NB185_184.out
                        have hnc27 := NB184_185.out
                        have hcz28_0 : wr.cell? ⟨gb185, 0, none⟩ = some (.int .i64 x186000_1) := (blk_cell BK185.out 0).trans rfl
                        have hcz28_1 : wr.cell? ⟨gb185, 1, none⟩ = some (.int .i64 x186001_1) := (blk_cell BK185.out 1).trans rfl
                        have hcz28_2 : wr.cell? ⟨gb185, 2, none⟩ = some (.int .i64 x186002_1) := (blk_cell BK185.out 2).trans rfl
                        have hcz28_3 : wr.cell? ⟨gb185, 3, none⟩ = some (.int .i64 x186003_1) := (blk_cell BK185.out 3).trans rfl
                        have hcz28_4 : wr.cell? ⟨gb185, 4, none⟩ = some (.int .i64 x186004_1) := (blk_cell BK185.out 4).trans rfl
                        have hcz28_5 : wr.cell? ⟨gb185, 5, none⟩ = some (.int .i64 x186005_1) := (blk_cell BK185.out 5).trans rfl
                        have hcz28_6 : wr.cell? ⟨gb185, 6, none⟩ = some (.int .i64 x186006_1) := (blk_cell BK185.out 6).trans rfl
                        have hcz28_7 : wr.cell? ⟨gb185, 7, none⟩ = some (.int .i64 x186007_1) := (blk_cell BK185.out 7).trans rfl
                        have hcz28_8 : wr.cell? ⟨gb185, 8, none⟩ = some (.int .i64 x186008_1) := (blk_cell BK185.out 8).trans rfl
                        have hcz28_9 : wr.cell? ⟨gb185, 9, none⟩ = some (.int .i64 x186009_1) := (blk_cell BK185.out 9).trans rfl
                        have hcz28_10 : wr.cell? ⟨gb185, 10, none⟩ = some (.int .i64 x186010_1) := (blk_cell BK185.out 10).trans rfl
                        have hfz28_0 := blk_frozen BK185.out 0
                        have hfz28_1 := blk_frozen BK185.out 1
                        have hfz28_2 := blk_frozen BK185.out 2
                        have hfz28_3 := blk_frozen BK185.out 3
                        have hfz28_4 := blk_frozen BK185.out 4
                        have hfz28_5 := blk_frozen BK185.out 5
                        have hfz28_6 := blk_frozen BK185.out 6
                        have hfz28_7 := blk_frozen BK185.out 7
                        have hfz28_8 := blk_frozen BK185.out 8
                        have hfz28_9 := blk_frozen BK185.out 9
                        have hfz28_10 := blk_frozen BK185.out 10
                        go_wp2
                        go_roundg k1
                        case measure => have := HK1.out; omega
                        case rel => exact ⟨(IntKind.u64.wrap (Int.tdiv x0_1 64)), (wrap64 ((7 : Int) + 1)), (x186000_1), (x186001_1), (x186002_1), (x186003_1), (x186004_1), (x186005_1), (x186006_1), (wrap64 (Int.tmod x0_1 64)), (x186008_1), (x186009_1), (x186010_1), (by first | rfl | (simp; done) | (simp [*]; done) | (simp; decide +kernel)), (by first | rfl | (simp; done) | (simp [*]; done) | (simp; decide +kernel)), H', ⟨by have := HK1.out; omega⟩, ⟨by (with_reducible repeat (first | refine blk_drewN ?_ _ | refine blk_drew ?_ | refine blk_alloc ?_ _)); refine blk_far ?_ NB184_185.out _; (with_reducible repeat (first | refine blk_drewN ?_ _ | refine blk_drew ?_ | refine blk_alloc ?_ _)); exact BK184.out⟩, ⟨by (with_reducible repeat (first | refine blk_drewN ?_ _ | refine blk_drew ?_ | refine blk_alloc ?_ _)); refine blk_put (cs := #[.int .i64 x186000_1, .int .i64 x186001_1, .int .i64 x186002_1, .int .i64 x186003_1, .int .i64 x186004_1, .int .i64 x186005_1, .int .i64 x186006_1, .int .i64 x186007_1, .int .i64 x186008_1, .int .i64 x186009_1, .int .i64 x186010_1]) ?_ 7 _ rfl; (with_reducible repeat (first | refine blk_drewN ?_ _ | refine blk_drew ?_ | refine blk_alloc ?_ _)); exact BK185.out⟩, ⟨by repeat (first | (with_reducible first | exact HB.out | apply below_alloc | apply pw_below_drewN | apply below_drew1 | refine below_set ?_ GE184.out | refine below_set ?_ GE185.out) | exact HB.out)⟩⟩
                      · rw [if_neg c26] at H
                        clear c26
                        by_cases c29 : x5_1 = 8
                        · subst c29
                          rw [if_pos rfl] at H
                          have H' := Aside0.mk H
                          clear H
                          have hnb30 := NB185_184.out
                          have hnc30 := NB184_185.out
                          have hcz31_0 : wr.cell? ⟨gb185, 0, none⟩ = some (.int .i64 x186000_1) := (blk_cell BK185.out 0).trans rfl
                          have hcz31_1 : wr.cell? ⟨gb185, 1, none⟩ = some (.int .i64 x186001_1) := (blk_cell BK185.out 1).trans rfl
                          have hcz31_2 : wr.cell? ⟨gb185, 2, none⟩ = some (.int .i64 x186002_1) := (blk_cell BK185.out 2).trans rfl
                          have hcz31_3 : wr.cell? ⟨gb185, 3, none⟩ = some (.int .i64 x186003_1) := (blk_cell BK185.out 3).trans rfl
                          have hcz31_4 : wr.cell? ⟨gb185, 4, none⟩ = some (.int .i64 x186004_1) := (blk_cell BK185.out 4).trans rfl
                          have hcz31_5 : wr.cell? ⟨gb185, 5, none⟩ = some (.int .i64 x186005_1) := (blk_cell BK185.out 5).trans rfl
                          have hcz31_6 : wr.cell? ⟨gb185, 6, none⟩ = some (.int .i64 x186006_1) := (blk_cell BK185.out 6).trans rfl
                          have hcz31_7 : wr.cell? ⟨gb185, 7, none⟩ = some (.int .i64 x186007_1) := (blk_cell BK185.out 7).trans rfl
                          have hcz31_8 : wr.cell? ⟨gb185, 8, none⟩ = some (.int .i64 x186008_1) := (blk_cell BK185.out 8).trans rfl
                          have hcz31_9 : wr.cell? ⟨gb185, 9, none⟩ = some (.int .i64 x186009_1) := (blk_cell BK185.out 9).trans rfl
                          have hcz31_10 : wr.cell? ⟨gb185, 10, none⟩ = some (.int .i64 x186010_1) := (blk_cell BK185.out 10).trans rfl
                          have hfz31_0 := blk_frozen BK185.out 0
                          have hfz31_1 := blk_frozen BK185.out 1
                          have hfz31_2 := blk_frozen BK185.out 2
                          have hfz31_3 := blk_frozen BK185.out 3
                          have hfz31_4 := blk_frozen BK185.out 4
                          have hfz31_5 := blk_frozen BK185.out 5
                          have hfz31_6 := blk_frozen BK185.out 6
                          have hfz31_7 := blk_frozen BK185.out 7
                          have hfz31_8 := blk_frozen BK185.out 8
                          have hfz31_9 := blk_frozen BK185.out 9
                          have hfz31_10 := blk_frozen BK185.out 10
                          go_wp2
                          go_roundg k1
                          case measure => have := HK1.out; omega
                          case rel => exact ⟨(IntKind.u64.wrap (Int.tdiv x0_1 64)), (wrap64 ((8 : Int) + 1)), (x186000_1), (x186001_1), (x186002_1), (x186003_1), (x186004_1), (x186005_1), (x186006_1), (x186007_1), (wrap64 (Int.tmod x0_1 64)), (x186009_1), (x186010_1), (by first | rfl | (simp; done) | (simp [*]; done) | (simp; decide +kernel)), (by first | rfl | (simp; done) | (simp [*]; done) | (simp; decide +kernel)), H', ⟨by have := HK1.out; omega⟩, ⟨by (with_reducible repeat (first | refine blk_drewN ?_ _ | refine blk_drew ?_ | refine blk_alloc ?_ _)); refine blk_far ?_ NB184_185.out _; (with_reducible repeat (first | refine blk_drewN ?_ _ | refine blk_drew ?_ | refine blk_alloc ?_ _)); exact BK184.out⟩, ⟨by (with_reducible repeat (first | refine blk_drewN ?_ _ | refine blk_drew ?_ | refine blk_alloc ?_ _)); refine blk_put (cs := #[.int .i64 x186000_1, .int .i64 x186001_1, .int .i64 x186002_1, .int .i64 x186003_1, .int .i64 x186004_1, .int .i64 x186005_1, .int .i64 x186006_1, .int .i64 x186007_1, .int .i64 x186008_1, .int .i64 x186009_1, .int .i64 x186010_1]) ?_ 8 _ rfl; (with_reducible repeat (first | refine blk_drewN ?_ _ | refine blk_drew ?_ | refine blk_alloc ?_ _)); exact BK185.out⟩, ⟨by repeat (first | (with_reducible first | exact HB.out | apply below_alloc | apply pw_below_drewN | apply below_drew1 | refine below_set ?_ GE184.out | refine below_set ?_ GE185.out) | exact HB.out)⟩⟩
                        · rw [if_neg c29] at H
                          clear c29
                          by_cases c32 : x5_1 = 9
                          · subst c32
                            rw [if_pos rfl] at H
                            have H' := Aside0.mk H
                            clear H
                            have hnb33 := NB185_184.out
                            have hnc33 := NB184_185.out
                            have hcz34_0 : wr.cell? ⟨gb185, 0, none⟩ = some (.int .i64 x186000_1) := (blk_cell BK185.out 0).trans rfl
                            have hcz34_1 : wr.cell? ⟨gb185, 1, none⟩ = some (.int .i64 x186001_1) := (blk_cell BK185.out 1).trans rfl
                            have hcz34_2 : wr.cell? ⟨gb185, 2, none⟩ = some (.int .i64 x186002_1) := (blk_cell BK185.out 2).trans rfl
                            have hcz34_3 : wr.cell? ⟨gb185, 3, none⟩ = some (.int .i64 x186003_1) := (blk_cell BK185.out 3).trans rfl
                            have hcz34_4 : wr.cell? ⟨gb185, 4, none⟩ = some (.int .i64 x186004_1) := (blk_cell BK185.out 4).trans rfl
                            have hcz34_5 : wr.cell? ⟨gb185, 5, none⟩ = some (.int .i64 x186005_1) := (blk_cell BK185.out 5).trans rfl
                            have hcz34_6 : wr.cell? ⟨gb185, 6, none⟩ = some (.int .i64 x186006_1) := (blk_cell BK185.out 6).trans rfl
                            have hcz34_7 : wr.cell? ⟨gb185, 7, none⟩ = some (.int .i64 x186007_1) := (blk_cell BK185.out 7).trans rfl
                            have hcz34_8 : wr.cell? ⟨gb185, 8, none⟩ = some (.int .i64 x186008_1) := (blk_cell BK185.out 8).trans rfl
                            have hcz34_9 : wr.cell? ⟨gb185, 9, none⟩ = some (.int .i64 x186009_1) := (blk_cell BK185.out 9).trans rfl
                            have hcz34_10 : wr.cell? ⟨gb185, 10, none⟩ = some (.int .i64 x186010_1) := (blk_cell BK185.out 10).trans rfl
                            have hfz34_0 := blk_frozen BK185.out 0
                            have hfz34_1 := blk_frozen BK185.out 1
                            have hfz34_2 := blk_frozen BK185.out 2
                            have hfz34_3 := blk_frozen BK185.out 3
                            have hfz34_4 := blk_frozen BK185.out 4
                            have hfz34_5 := blk_frozen BK185.out 5
                            have hfz34_6 := blk_frozen BK185.out 6
                            have hfz34_7 := blk_frozen BK185.out 7
                            have hfz34_8 := blk_frozen BK185.out 8
                            have hfz34_9 := blk_frozen BK185.out 9
                            have hfz34_10 := blk_frozen BK185.out 10
                            go_wp2
                            go_roundg k1
                            case measure => have := HK1.out; omega
                            case rel => exact ⟨(IntKind.u64.wrap (Int.tdiv x0_1 64)), (wrap64 ((9 : Int) + 1)), (x186000_1), (x186001_1), (x186002_1), (x186003_1), (x186004_1), (x186005_1), (x186006_1), (x186007_1), (x186008_1), (wrap64 (Int.tmod x0_1 64)), (x186010_1), (by first | rfl | (simp; done) | (simp [*]; done) | (simp; decide +kernel)), (by first | rfl | (simp; done) | (simp [*]; done) | (simp; decide +kernel)), H', ⟨by have := HK1.out; omega⟩, ⟨by (with_reducible repeat (first | refine blk_drewN ?_ _ | refine blk_drew ?_ | refine blk_alloc ?_ _)); refine blk_far ?_ NB184_185.out _; (with_reducible repeat (first | refine blk_drewN ?_ _ | refine blk_drew ?_ | refine blk_alloc ?_ _)); exact BK184.out⟩, ⟨by (with_reducible repeat (first | refine blk_drewN ?_ _ | refine blk_drew ?_ | refine blk_alloc ?_ _)); refine blk_put (cs := #[.int .i64 x186000_1, .int .i64 x186001_1, .int .i64 x186002_1, .int .i64 x186003_1, .int .i64 x186004_1, .int .i64 x186005_1, .int .i64 x186006_1, .int .i64 x186007_1, .int .i64 x186008_1, .int .i64 x186009_1, .int .i64 x186010_1]) ?_ 9 _ rfl; (with_reducible repeat (first | refine blk_drewN ?_ _ | refine blk_drew ?_ | refine blk_alloc ?_ _)); exact BK185.out⟩, ⟨by repeat (first | (with_reducible first | exact HB.out | apply below_alloc | apply pw_below_drewN | apply below_drew1 | refine below_set ?_ GE184.out | refine below_set ?_ GE185.out) | exact HB.out)⟩⟩
                          · rw [if_neg c32] at H
                            clear c32
                            by_cases c35 : x5_1 = 10
                            · subst c35
                              rw [if_pos rfl] at H
                              have H' := Aside0.mk H
                              clear H
                              have hnb36 := NB185_184.out
                              have hnc36 := NB184_185.out
                              have hcz37_0 : wr.cell? ⟨gb185, 0, none⟩ = some (.int .i64 x186000_1) := (blk_cell BK185.out 0).trans rfl
                              have hcz37_1 : wr.cell? ⟨gb185, 1, none⟩ = some (.int .i64 x186001_1) := (blk_cell BK185.out 1).trans rfl
                              have hcz37_2 : wr.cell? ⟨gb185, 2, none⟩ = some (.int .i64 x186002_1) := (blk_cell BK185.out 2).trans rfl
                              have hcz37_3 : wr.cell? ⟨gb185, 3, none⟩ = some (.int .i64 x186003_1) := (blk_cell BK185.out 3).trans rfl
                              have hcz37_4 : wr.cell? ⟨gb185, 4, none⟩ = some (.int .i64 x186004_1) := (blk_cell BK185.out 4).trans rfl
                              have hcz37_5 : wr.cell? ⟨gb185, 5, none⟩ = some (.int .i64 x186005_1) := (blk_cell BK185.out 5).trans rfl
                              have hcz37_6 : wr.cell? ⟨gb185, 6, none⟩ = some (.int .i64 x186006_1) := (blk_cell BK185.out 6).trans rfl
                              have hcz37_7 : wr.cell? ⟨gb185, 7, none⟩ = some (.int .i64 x186007_1) := (blk_cell BK185.out 7).trans rfl
                              have hcz37_8 : wr.cell? ⟨gb185, 8, none⟩ = some (.int .i64 x186008_1) := (blk_cell BK185.out 8).trans rfl
                              have hcz37_9 : wr.cell? ⟨gb185, 9, none⟩ = some (.int .i64 x186009_1) := (blk_cell BK185.out 9).trans rfl
                              have hcz37_10 : wr.cell? ⟨gb185, 10, none⟩ = some (.int .i64 x186010_1) := (blk_cell BK185.out 10).trans rfl
                              have hfz37_0 := blk_frozen BK185.out 0
                              have hfz37_1 := blk_frozen BK185.out 1
                              have hfz37_2 := blk_frozen BK185.out 2
                              have hfz37_3 := blk_frozen BK185.out 3
                              have hfz37_4 := blk_frozen BK185.out 4
                              have hfz37_5 := blk_frozen BK185.out 5
                              have hfz37_6 := blk_frozen BK185.out 6
                              have hfz37_7 := blk_frozen BK185.out 7
                              have hfz37_8 := blk_frozen BK185.out 8
                              have hfz37_9 := blk_frozen BK185.out 9
                              have hfz37_10 := blk_frozen BK185.out 10
                              go_wp2
                              go_roundg k1
                              case measure => have := HK1.out; omega
                              case rel => exact ⟨(IntKind.u64.wrap (Int.tdiv x0_1 64)), (wrap64 ((10 : Int) + 1)), (x186000_1), (x186001_1), (x186002_1), (x186003_1), (x186004_1), (x186005_1), (x186006_1), (x186007_1), (x186008_1), (x186009_1), (wrap64 (Int.tmod x0_1 64)), (by first | rfl | (simp; done) | (simp [*]; done) | (simp; decide +kernel)), (by first | rfl | (simp; done) | (simp [*]; done) | (simp; decide +kernel)), H', ⟨by have := HK1.out; omega⟩, ⟨by (with_reducible repeat (first | refine blk_drewN ?_ _ | refine blk_drew ?_ | refine blk_alloc ?_ _)); refine blk_far ?_ NB184_185.out _; (with_reducible repeat (first | refine blk_drewN ?_ _ | refine blk_drew ?_ | refine blk_alloc ?_ _)); exact BK184.out⟩, ⟨by (with_reducible repeat (first | refine blk_drewN ?_ _ | refine blk_drew ?_ | refine blk_alloc ?_ _)); refine blk_put (cs := #[.int .i64 x186000_1, .int .i64 x186001_1, .int .i64 x186002_1, .int .i64 x186003_1, .int .i64 x186004_1, .int .i64 x186005_1, .int .i64 x186006_1, .int .i64 x186007_1, .int .i64 x186008_1, .int .i64 x186009_1, .int .i64 x186010_1]) ?_ 10 _ rfl; (with_reducible repeat (first | refine blk_drewN ?_ _ | refine blk_drew ?_ | refine blk_alloc ?_ _)); exact BK185.out⟩, ⟨by repeat (first | (with_reducible first | exact HB.out | apply below_alloc | apply pw_below_drewN | apply below_drew1 | refine below_set ?_ GE184.out | refine below_set ?_ GE185.out) | exact HB.out)⟩⟩
                            · rw [if_neg c35] at H
                              clear c35
                              exact absurd H (by simp)
      · rw [if_neg c4] at H
        have c4b0 : decide (x5_1 < 11) = false := decide_eq_false c4
        clear c4
        simp only [Option.some.injEq, Prod.mk.injEq] at H
        obtain ⟨rfl, rfl, rfl, rfl, rfl, rfl, rfl, rfl, rfl, rfl, rfl⟩ := H
        have hnb38 := NB185_184.out
        have hnc38 := NB184_185.out
        have hcz39_0 : wr.cell? ⟨gb185, 0, none⟩ = some (.int .i64 x186000_1) := (blk_cell BK185.out 0).trans rfl
        have hcz39_1 : wr.cell? ⟨gb185, 1, none⟩ = some (.int .i64 x186001_1) := (blk_cell BK185.out 1).trans rfl
        have hcz39_2 : wr.cell? ⟨gb185, 2, none⟩ = some (.int .i64 x186002_1) := (blk_cell BK185.out 2).trans rfl
        have hcz39_3 : wr.cell? ⟨gb185, 3, none⟩ = some (.int .i64 x186003_1) := (blk_cell BK185.out 3).trans rfl
        have hcz39_4 : wr.cell? ⟨gb185, 4, none⟩ = some (.int .i64 x186004_1) := (blk_cell BK185.out 4).trans rfl
        have hcz39_5 : wr.cell? ⟨gb185, 5, none⟩ = some (.int .i64 x186005_1) := (blk_cell BK185.out 5).trans rfl
        have hcz39_6 : wr.cell? ⟨gb185, 6, none⟩ = some (.int .i64 x186006_1) := (blk_cell BK185.out 6).trans rfl
        have hcz39_7 : wr.cell? ⟨gb185, 7, none⟩ = some (.int .i64 x186007_1) := (blk_cell BK185.out 7).trans rfl
        have hcz39_8 : wr.cell? ⟨gb185, 8, none⟩ = some (.int .i64 x186008_1) := (blk_cell BK185.out 8).trans rfl
        have hcz39_9 : wr.cell? ⟨gb185, 9, none⟩ = some (.int .i64 x186009_1) := (blk_cell BK185.out 9).trans rfl
        have hcz39_10 : wr.cell? ⟨gb185, 10, none⟩ = some (.int .i64 x186010_1) := (blk_cell BK185.out 10).trans rfl
        have hfz39_0 := blk_frozen BK185.out 0
        have hfz39_1 := blk_frozen BK185.out 1
        have hfz39_2 := blk_frozen BK185.out 2
        have hfz39_3 := blk_frozen BK185.out 3
        have hfz39_4 := blk_frozen BK185.out 4
        have hfz39_5 := blk_frozen BK185.out 5
        have hfz39_6 := blk_frozen BK185.out 6
        have hfz39_7 := blk_frozen BK185.out 7
        have hfz39_8 := blk_frozen BK185.out 8
        have hfz39_9 := blk_frozen BK185.out 9
        have hfz39_10 := blk_frozen BK185.out 10
        have hcz40_0 : wr.cell? ⟨gb184, 0, none⟩ = some (.int .i64 0) := (blk_cell BK184.out 0).trans rfl
        have hcz40_1 : wr.cell? ⟨gb184, 1, none⟩ = some (.int .i64 0) := (blk_cell BK184.out 1).trans rfl
        have hcz40_2 : wr.cell? ⟨gb184, 2, none⟩ = some (.int .i64 0) := (blk_cell BK184.out 2).trans rfl
        have hcz40_3 : wr.cell? ⟨gb184, 3, none⟩ = some (.int .i64 0) := (blk_cell BK184.out 3).trans rfl
        have hcz40_4 : wr.cell? ⟨gb184, 4, none⟩ = some (.int .i64 0) := (blk_cell BK184.out 4).trans rfl
        have hcz40_5 : wr.cell? ⟨gb184, 5, none⟩ = some (.int .i64 0) := (blk_cell BK184.out 5).trans rfl
        have hcz40_6 : wr.cell? ⟨gb184, 6, none⟩ = some (.int .i64 0) := (blk_cell BK184.out 6).trans rfl
        have hcz40_7 : wr.cell? ⟨gb184, 7, none⟩ = some (.int .i64 0) := (blk_cell BK184.out 7).trans rfl
        have hcz40_8 : wr.cell? ⟨gb184, 8, none⟩ = some (.int .i64 0) := (blk_cell BK184.out 8).trans rfl
        have hcz40_9 : wr.cell? ⟨gb184, 9, none⟩ = some (.int .i64 0) := (blk_cell BK184.out 9).trans rfl
        have hcz40_10 : wr.cell? ⟨gb184, 10, none⟩ = some (.int .i64 0) := (blk_cell BK184.out 10).trans rfl
        have hfz40_0 := blk_frozen BK184.out 0
        have hfz40_1 := blk_frozen BK184.out 1
        have hfz40_2 := blk_frozen BK184.out 2
        have hfz40_3 := blk_frozen BK184.out 3
        have hfz40_4 := blk_frozen BK184.out 4
        have hfz40_5 := blk_frozen BK184.out 5
        have hfz40_6 := blk_frozen BK184.out 6
        have hfz40_7 := blk_frozen BK184.out 7
        have hfz40_8 := blk_frozen BK184.out 8
        have hfz40_9 := blk_frozen BK184.out 9
        have hfz40_10 := blk_frozen BK184.out 10
        go_wp2
        refine bodyPost_ret (results_cell_row rfl _ _ gb184 93 #[.int .i64 x186000_1, .int .i64 x186001_1, .int .i64 x186002_1, .int .i64 x186003_1, .int .i64 x186004_1, .int .i64 x186005_1, .int .i64 x186006_1, .int .i64 x186007_1, .int .i64 x186008_1, .int .i64 x186009_1, .int .i64 x186010_1] (0, 0) _ rfl (by (with_reducible repeat (first | refine blk_drewN ?_ _ | refine blk_drew ?_ | refine blk_alloc ?_ _)); refine blk_put (cs := #[.int .i64 x186000_1, .int .i64 x186001_1, .int .i64 x186002_1, .int .i64 x186003_1, .int .i64 x186004_1, .int .i64 x186005_1, .int .i64 x186006_1, .int .i64 x186007_1, .int .i64 x186008_1, .int .i64 x186009_1, .int .i64 0]) ?_ 10 _ rfl; (with_reducible repeat (first | refine blk_drewN ?_ _ | refine blk_drew ?_ | refine blk_alloc ?_ _)); refine blk_put (cs := #[.int .i64 x186000_1, .int .i64 x186001_1, .int .i64 x186002_1, .int .i64 x186003_1, .int .i64 x186004_1, .int .i64 x186005_1, .int .i64 x186006_1, .int .i64 x186007_1, .int .i64 x186008_1, .int .i64 0, .int .i64 0]) ?_ 9 _ rfl; (with_reducible repeat (first | refine blk_drewN ?_ _ | refine blk_drew ?_ | refine blk_alloc ?_ _)); refine blk_put (cs := #[.int .i64 x186000_1, .int .i64 x186001_1, .int .i64 x186002_1, .int .i64 x186003_1, .int .i64 x186004_1, .int .i64 x186005_1, .int .i64 x186006_1, .int .i64 x186007_1, .int .i64 0, .int .i64 0, .int .i64 0]) ?_ 8 _ rfl; (with_reducible repeat (first | refine blk_drewN ?_ _ | refine blk_drew ?_ | refine blk_alloc ?_ _)); refine blk_put (cs := #[.int .i64 x186000_1, .int .i64 x186001_1, .int .i64 x186002_1, .int .i64 x186003_1, .int .i64 x186004_1, .int .i64 x186005_1, .int .i64 x186006_1, .int .i64 0, .int .i64 0, .int .i64 0, .int .i64 0]) ?_ 7 _ rfl; (with_reducible repeat (first | refine blk_drewN ?_ _ | refine blk_drew ?_ | refine blk_alloc ?_ _)); refine blk_put (cs := #[.int .i64 x186000_1, .int .i64 x186001_1, .int .i64 x186002_1, .int .i64 x186003_1, .int .i64 x186004_1, .int .i64 x186005_1, .int .i64 0, .int .i64 0, .int .i64 0, .int .i64 0, .int .i64 0]) ?_ 6 _ rfl; (with_reducible repeat (first | refine blk_drewN ?_ _ | refine blk_drew ?_ | refine blk_alloc ?_ _)); refine blk_put (cs := #[.int .i64 x186000_1, .int .i64 x186001_1, .int .i64 x186002_1, .int .i64 x186003_1, .int .i64 x186004_1, .int .i64 0, .int .i64 0, .int .i64 0, .int .i64 0, .int .i64 0, .int .i64 0]) ?_ 5 _ rfl; (with_reducible repeat (first | refine blk_drewN ?_ _ | refine blk_drew ?_ | refine blk_alloc ?_ _)); refine blk_put (cs := #[.int .i64 x186000_1, .int .i64 x186001_1, .int .i64 x186002_1, .int .i64 x186003_1, .int .i64 0, .int .i64 0, .int .i64 0, .int .i64 0, .int .i64 0, .int .i64 0, .int .i64 0]) ?_ 4 _ rfl; (with_reducible repeat (first | refine blk_drewN ?_ _ | refine blk_drew ?_ | refine blk_alloc ?_ _)); refine blk_put (cs := #[.int .i64 x186000_1, .int .i64 x186001_1, .int .i64 x186002_1, .int .i64 0, .int .i64 0, .int .i64 0, .int .i64 0, .int .i64 0, .int .i64 0, .int .i64 0, .int .i64 0]) ?_ 3 _ rfl; (with_reducible repeat (first | refine blk_drewN ?_ _ | refine blk_drew ?_ | refine blk_alloc ?_ _)); refine blk_put (cs := #[.int .i64 x186000_1, .int .i64 x186001_1, .int .i64 0, .int .i64 0, .int .i64 0, .int .i64 0, .int .i64 0, .int .i64 0, .int .i64 0, .int .i64 0, .int .i64 0]) ?_ 2 _ rfl; (with_reducible repeat (first | refine blk_drewN ?_ _ | refine blk_drew ?_ | refine blk_alloc ?_ _)); refine blk_put (cs := #[.int .i64 x186000_1, .int .i64 0, .int .i64 0, .int .i64 0, .int .i64 0, .int .i64 0, .int .i64 0, .int .i64 0, .int .i64 0, .int .i64 0, .int .i64 0]) ?_ 1 _ rfl; (with_reducible repeat (first | refine blk_drewN ?_ _ | refine blk_drew ?_ | refine blk_alloc ?_ _)); refine blk_put (cs := #[.int .i64 0, .int .i64 0, .int .i64 0, .int .i64 0, .int .i64 0, .int .i64 0, .int .i64 0, .int .i64 0, .int .i64 0, .int .i64 0, .int .i64 0]) ?_ 0 _ rfl; (with_reducible repeat (first | refine blk_drewN ?_ _ | refine blk_drew ?_ | refine blk_alloc ?_ _)); exact BK184.out) Tryd.underlying93 rfl (by kernel_rfl)) rfl ?_
        exact ⟨by first | rfl | (simp [errW_none, errW_some] <;> rfl) | (simp [*, errW_none, errW_some] <;> rfl), by repeat (first | (with_reducible first | exact HB.out | apply below_alloc | apply pw_below_drewN | apply below_drew1 | refine below_set ?_ GE184.out | refine below_set ?_ GE185.out) | exact HB.out)⟩

-- NOT PRINTED: function 71 (wheel_Wheel_where)

-- NOT PRINTED: function 73 (wheel_Wheel_put)

-- NOT PRINTED: function 36 (wheel_Wheel_Insert)

-- NOT PRINTED: function 29 (remontoirlaw06_Set_laid)

-- NOT PRINTED: function 48 (wheel_Wheel_At)

-- NOT PRINTED: function 31 (wheel_Wheel_Cancel)

-- NOT PRINTED: function 38 (wheel_Wheel_First)

-- NOT PRINTED: function 74 (wheel_Wheel_turn)

-- NOT PRINTED: function 39 (wheel_Wheel_Pop)

-- NOT PRINTED: function 97 (bits_Add64)

-- GIVEN: function 72 (tick_Sum)

-- NOT PRINTED: function 32 (wheel_Wheel_Advance)

-- NOT PRINTED: function 34 (wheel_Wheel_Now)

-- NOT PRINTED: function 46 (wheel_Wheel_Place)

-- NOT PRINTED: function 30 (remontoirlaw06_wakes)

-- NOT PRINTED: function 6 (remontoirlaw06_WheelFires)

-- NOT PRINTED: function 37 (wheel_Wheel_Len)

-- NOT PRINTED: function 7 (remontoirlaw06_WheelLast)

-- NOT PRINTED: function 40 (wheel_Wheel_Load)

-- NOT PRINTED: function 8 (remontoirlaw06_WheelSplits)

end Go.Proofs.YtedolmjealgeoaaDoor.PBase
