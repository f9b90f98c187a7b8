-- Printed by a program of ours (wip/common/mkprint.py), turned from the kit's print; Lean checks it.
import Derived.Test.YtfkknipkfcmiaaaPAllx0
namespace Go.Proofs.Ytfkknipkfcmiaaa.PAll
open Go.Proofs.Ytfkknipkfcmiaaa.Add
open Go.RowKit Go.Proofs.YtfkknipkfcmiaaaW.PrintWords Go.Proofs.YtfkknipkfcmiaaaW.PrintLast Go.Proofs.YtfkknipkfcmiaaaW.PrintMore
attribute [local go_sem] max2_int min2_int max_two min_two max_three min_three max_four min_four   -- for this text's walks alone
set_option linter.unusedVariables false
set_option linter.unusedSimpArgs false

/-! ### remontoirref01_Of: function 17 -/
def remontoirref01_Of.l0 : Nat → Int → Int → Int → Int → Int → Int → Int → Int → Int → Int → Int → Int → Int → Option (Int × Bool)
  | 0, _, _, _, _, _, _, _, _, _, _, _, _, _ => none
  | k + 1, x3, x4, x272000, x272001, x272002, x272003, x272004, x272005, x272006, x272007, x272008, x272009, x272010 => if x4 ≥ 0 then (if x4 = 0 then (if x272000 < 0 then (some (0, false)) else (if x272000 ≥ 64 then (some (0, false)) else (remontoirref01_Of.l0 k (IntKind.u64.wrap ((IntKind.u64.wrap (x3 * 64)) + (IntKind.u64.wrap (x272000)))) (wrap64 (x4 - 1)) x272000 x272001 x272002 x272003 x272004 x272005 x272006 x272007 x272008 x272009 x272010))) else (if x4 = 1 then (if x272001 < 0 then (some (0, false)) else (if x272001 ≥ 64 then (some (0, false)) else (remontoirref01_Of.l0 k (IntKind.u64.wrap ((IntKind.u64.wrap (x3 * 64)) + (IntKind.u64.wrap (x272001)))) (wrap64 (x4 - 1)) x272000 x272001 x272002 x272003 x272004 x272005 x272006 x272007 x272008 x272009 x272010))) else (if x4 = 2 then (if x272002 < 0 then (some (0, false)) else (if x272002 ≥ 64 then (some (0, false)) else (remontoirref01_Of.l0 k (IntKind.u64.wrap ((IntKind.u64.wrap (x3 * 64)) + (IntKind.u64.wrap (x272002)))) (wrap64 (x4 - 1)) x272000 x272001 x272002 x272003 x272004 x272005 x272006 x272007 x272008 x272009 x272010))) else (if x4 = 3 then (if x272003 < 0 then (some (0, false)) else (if x272003 ≥ 64 then (some (0, false)) else (remontoirref01_Of.l0 k (IntKind.u64.wrap ((IntKind.u64.wrap (x3 * 64)) + (IntKind.u64.wrap (x272003)))) (wrap64 (x4 - 1)) x272000 x272001 x272002 x272003 x272004 x272005 x272006 x272007 x272008 x272009 x272010))) else (if x4 = 4 then (if x272004 < 0 then (some (0, false)) else (if x272004 ≥ 64 then (some (0, false)) else (remontoirref01_Of.l0 k (IntKind.u64.wrap ((IntKind.u64.wrap (x3 * 64)) + (IntKind.u64.wrap (x272004)))) (wrap64 (x4 - 1)) x272000 x272001 x272002 x272003 x272004 x272005 x272006 x272007 x272008 x272009 x272010))) else (if x4 = 5 then (if x272005 < 0 then (some (0, false)) else (if x272005 ≥ 64 then (some (0, false)) else (remontoirref01_Of.l0 k (IntKind.u64.wrap ((IntKind.u64.wrap (x3 * 64)) + (IntKind.u64.wrap (x272005)))) (wrap64 (x4 - 1)) x272000 x272001 x272002 x272003 x272004 x272005 x272006 x272007 x272008 x272009 x272010))) else (if x4 = 6 then (if x272006 < 0 then (some (0, false)) else (if x272006 ≥ 64 then (some (0, false)) else (remontoirref01_Of.l0 k (IntKind.u64.wrap ((IntKind.u64.wrap (x3 * 64)) + (IntKind.u64.wrap (x272006)))) (wrap64 (x4 - 1)) x272000 x272001 x272002 x272003 x272004 x272005 x272006 x272007 x272008 x272009 x272010))) else (if x4 = 7 then (if x272007 < 0 then (some (0, false)) else (if x272007 ≥ 64 then (some (0, false)) else (remontoirref01_Of.l0 k (IntKind.u64.wrap ((IntKind.u64.wrap (x3 * 64)) + (IntKind.u64.wrap (x272007)))) (wrap64 (x4 - 1)) x272000 x272001 x272002 x272003 x272004 x272005 x272006 x272007 x272008 x272009 x272010))) else (if x4 = 8 then (if x272008 < 0 then (some (0, false)) else (if x272008 ≥ 64 then (some (0, false)) else (remontoirref01_Of.l0 k (IntKind.u64.wrap ((IntKind.u64.wrap (x3 * 64)) + (IntKind.u64.wrap (x272008)))) (wrap64 (x4 - 1)) x272000 x272001 x272002 x272003 x272004 x272005 x272006 x272007 x272008 x272009 x272010))) else (if x4 = 9 then (if x272009 < 0 then (some (0, false)) else (if x272009 ≥ 64 then (some (0, false)) else (remontoirref01_Of.l0 k (IntKind.u64.wrap ((IntKind.u64.wrap (x3 * 64)) + (IntKind.u64.wrap (x272009)))) (wrap64 (x4 - 1)) x272000 x272001 x272002 x272003 x272004 x272005 x272006 x272007 x272008 x272009 x272010))) else (if x4 = 10 then (if x272010 < 0 then (some (0, false)) else (if x272010 ≥ 64 then (some (0, false)) else (if x272010 > 15 then (some (0, false)) else (remontoirref01_Of.l0 k (IntKind.u64.wrap ((IntKind.u64.wrap (x3 * 64)) + (IntKind.u64.wrap (x272010)))) (wrap64 (x4 - 1)) x272000 x272001 x272002 x272003 x272004 x272005 x272006 x272007 x272008 x272009 x272010)))) else (none)))))))))))) else (some (x3, true))
def remontoirref01_Of.f (k : Nat) (a0_0 : Int) (a0_1 : Int) (a0_2 : Int) (a0_3 : Int) (a0_4 : Int) (a0_5 : Int) (a0_6 : Int) (a0_7 : Int) (a0_8 : Int) (a0_9 : Int) (a0_10 : Int) : Option (Int × Bool) := remontoirref01_Of.l0 k 0 10 a0_0 a0_1 a0_2 a0_3 a0_4 a0_5 a0_6 a0_7 a0_8 a0_9 a0_10
theorem remontoirref01_Of.mono_l : ∀ k, (∀ y0 y1 y2 y3 y4 y5 y6 y7 y8 y9 y10 y11 y12, LeO (remontoirref01_Of.l0 k y0 y1 y2 y3 y4 y5 y6 y7 y8 y9 y10 y11 y12) (remontoirref01_Of.l0 (k + 1) y0 y1 y2 y3 y4 y5 y6 y7 y8 y9 y10 y11 y12))
  | 0 => fun _ _ _ _ _ _ _ _ _ _ _ _ _ r h => by simp [remontoirref01_Of.l0] at h
  | k + 1 => by
    have ih0 := remontoirref01_Of.mono_l k
    · intro y0 y1 y2 y3 y4 y5 y6 y7 y8 y9 y10 y11 y12
      unfold remontoirref01_Of.l0
      repeat' first
      | (with_reducible exact ih0 _ _ _ _ _ _ _ _ _ _ _ _ _)
      | (with_reducible exact LeO.refl _)
      | (with_reducible exact LeO.none _)
      | (with_reducible refine LeO.ite ?_ ?_)
      | (with_reducible refine LeO.bind ?_ (fun _ => ?_))
      | exact ih0 _ _ _ _ _ _ _ _ _ _ _ _ _
      | exact LeO.none _
      | refine LeO.ite ?_ ?_
      | refine LeO.bind ?_ (fun _ => ?_)
theorem remontoirref01_Of.mono : ∀ a0 a1 a2 a3 a4 a5 a6 a7 a8 a9 a10 k, LeO (remontoirref01_Of.f k a0 a1 a2 a3 a4 a5 a6 a7 a8 a9 a10) (remontoirref01_Of.f (k + 1) a0 a1 a2 a3 a4 a5 a6 a7 a8 a9 a10) := by
  intro a0 a1 a2 a3 a4 a5 a6 a7 a8 a9 a10 k
  have ih0 := remontoirref01_Of.mono_l k
  unfold remontoirref01_Of.f
  repeat' first
      | (with_reducible exact ih0 _ _ _ _ _ _ _ _ _ _ _ _ _)
      | (with_reducible exact LeO.refl _)
      | (with_reducible exact LeO.none _)
      | (with_reducible refine LeO.ite ?_ ?_)
      | (with_reducible refine LeO.bind ?_ (fun _ => ?_))
      | exact ih0 _ _ _ _ _ _ _ _ _ _ _ _ _
      | exact LeO.none _
      | refine LeO.ite ?_ ?_
      | refine LeO.bind ?_ (fun _ => ?_)
set_option maxHeartbeats 8000000 in
set_option maxRecDepth 100000 in
theorem remontoirref01_Of.calls (k : Nat) (a0_0 : Int) (a0_1 : Int) (a0_2 : Int) (a0_3 : Int) (a0_4 : Int) (a0_5 : Int) (a0_6 : Int) (a0_7 : Int) (a0_8 : Int) (a0_9 : Int) (a0_10 : Int) (r1 : Int) (r2 : Bool) (w : World) (h : remontoirref01_Of.f k a0_0 a0_1 a0_2 a0_3 a0_4 a0_5 a0_6 a0_7 a0_8 a0_9 a0_10 = some (r1, r2)) :
    Calls Try.prog 17 #[.agg #[.int .i64 a0_0, .int .i64 a0_1, .int .i64 a0_2, .int .i64 a0_3, .int .i64 a0_4, .int .i64 a0_5, .int .i64 a0_6, .int .i64 a0_7, .int .i64 a0_8, .int .i64 a0_9, .int .i64 a0_10]] w fun e w' => e = .returned (.agg #[.int .u64 r1, .bool r2]) ∧ Below w.heap.size w w' := by
  have hu24 := Try.underlying24
  have hu36 := Try.underlying36
  have HB := Aside0.mk (Below.refl w.heap.size w)
  have H : (remontoirref01_Of.l0 k 0 10 a0_0 a0_1 a0_2 a0_3 a0_4 a0_5 a0_6 a0_7 a0_8 a0_9 a0_10) = some (r1, r2) := h
  clear h
  have H' := Aside0.mk H
  clear H
  go_enter Try.func17, Try.ntmps17
  go_wp2_with (first | ((with_reducible refine gate_dst (N := 1) rfl ?_); refine box_event ?hg (N := 1) ?hd (cs := #[.int .i64 a0_0, .int .i64 a0_1, .int .i64 a0_2, .int .i64 a0_3, .int .i64 a0_4, .int .i64 a0_5, .int .i64 a0_6, .int .i64 a0_7, .int .i64 a0_8, .int .i64 a0_9, .int .i64 a0_10]) (t := 24) ?hr ?_; (case hd => rfl); (case hg => rfl); (case hr => first | (go_simp; done) | (go_simp; rfl)); intro gb271 hg w2 hbox hb; have n0_ := Aside0.mk (below_step (by repeat (first | (with_reducible first | exact HB.out | apply below_alloc | apply pw_below_drewN | apply below_drew1) | exact HB.out)) hb); have n1_ := Aside0.mk (hbox); have n2_ := Aside0.mk ((by rw [hg]; exact (below_size (by repeat (first | (with_reducible first | exact HB.out | apply below_alloc | apply pw_below_drewN | apply below_drew1) | exact HB.out))) : w.heap.size ≤ gb271)); have n3_ := Aside0.mk ((by rw [hg]; exact (below_size (by repeat (first | (with_reducible first | exact HB.out | apply below_alloc | apply pw_below_drewN | apply below_drew1) | exact HB.out))) : w.heap.size ≤ gb271)); clear HB; have HB := n0_; have BK271 := n1_; have GW271 := n2_; have GE271 := n3_; clear n0_ n1_ n2_ n3_; clear hb hbox hg) | ((with_reducible refine gate_dst (N := 2) rfl ?_); refine box_event ?hg (N := 2) ?hd (cs := #[.int .u64 0, .bool false]) (t := 36) ?hr ?_; (case hd => rfl); (case hg => rfl); (case hr => first | (go_simp; done) | (go_simp; rfl)); intro gb272 hg w3 hbox hb; have n0_ := Aside0.mk (blk_below (g := gb271) (o := .cells #[.int .i64 a0_0, .int .i64 a0_1, .int .i64 a0_2, .int .i64 a0_3, .int .i64 a0_4, .int .i64 a0_5, .int .i64 a0_6, .int .i64 a0_7, .int .i64 a0_8, .int .i64 a0_9, .int .i64 a0_10] 24 (0, 0)) (by (with_reducible repeat (first | refine blk_drewN ?_ _ | refine blk_drew ?_ | refine blk_alloc ?_ _)); exact BK271.out) hb); have n1_ := Aside0.mk (below_step (by repeat (first | (with_reducible first | exact HB.out | apply below_alloc | apply pw_below_drewN | apply below_drew1 | refine below_set ?_ GE271.out) | exact HB.out)) hb); have n2_ := Aside0.mk (hbox); have n3_ := Aside0.mk ((by rw [hg]; exact (below_size (by repeat (first | (with_reducible first | exact HB.out | apply below_alloc | apply pw_below_drewN | apply below_drew1 | refine below_set ?_ GE271.out) | exact HB.out))) : w.heap.size ≤ gb272)); have n4_ := Aside0.mk ((by rw [hg]; exact (below_size (by repeat (first | (with_reducible first | exact HB.out | apply below_alloc | apply pw_below_drewN | apply below_drew1 | refine below_set ?_ GE271.out) | exact HB.out))) : w.heap.size ≤ gb272)); have n5_ := Aside0.mk ((by rw [hg]; exact Nat.ne_of_lt (blk_lt (g := gb271) (o := .cells #[.int .i64 a0_0, .int .i64 a0_1, .int .i64 a0_2, .int .i64 a0_3, .int .i64 a0_4, .int .i64 a0_5, .int .i64 a0_6, .int .i64 a0_7, .int .i64 a0_8, .int .i64 a0_9, .int .i64 a0_10] 24 (0, 0)) (by (with_reducible repeat (first | refine blk_drewN ?_ _ | refine blk_drew ?_ | refine blk_alloc ?_ _)); exact BK271.out)) : gb271 ≠ gb272)); have n6_ := Aside0.mk ((by rw [hg]; exact Nat.ne_of_gt (blk_lt (g := gb271) (o := .cells #[.int .i64 a0_0, .int .i64 a0_1, .int .i64 a0_2, .int .i64 a0_3, .int .i64 a0_4, .int .i64 a0_5, .int .i64 a0_6, .int .i64 a0_7, .int .i64 a0_8, .int .i64 a0_9, .int .i64 a0_10] 24 (0, 0)) (by (with_reducible repeat (first | refine blk_drewN ?_ _ | refine blk_drew ?_ | refine blk_alloc ?_ _)); exact BK271.out)) : gb272 ≠ gb271)); clear BK271; clear HB; have BK271 := n0_; have HB := n1_; have BK272 := n2_; have GW272 := n3_; have GE272 := n4_; have NB271_272 := n5_; have NB272_271 := n6_; clear n0_ n1_ n2_ n3_ n4_ n5_ n6_; clear hb hbox hg))
  go_loopg [3, 4] k (fun kq v3 v4 w' => ∃ (x3_1 : Int) (x4_1 : Int) (x273000_1 : Int) (x273001_1 : Bool), v3 = .int .u64 x3_1 ∧ v4 = .int .i64 x4_1 ∧ Aside0 (remontoirref01_Of.l0 kq x3_1 x4_1 a0_0 a0_1 a0_2 a0_3 a0_4 a0_5 a0_6 a0_7 a0_8 a0_9 a0_10 = some (r1, r2)) ∧ Aside0 (kq ≤ k) ∧ Aside0 (w'.heap[gb271]? = some (.cells #[.int .i64 a0_0, .int .i64 a0_1, .int .i64 a0_2, .int .i64 a0_3, .int .i64 a0_4, .int .i64 a0_5, .int .i64 a0_6, .int .i64 a0_7, .int .i64 a0_8, .int .i64 a0_9, .int .i64 a0_10] 24 (0, 0))) ∧ Aside0 (w'.heap[gb272]? = some (.cells #[.int .u64 x273000_1, .bool x273001_1] 36 (0, 0))) ∧ Aside0 (Below w.heap.size w w'))
  case atStart => exact ⟨(0), (10), (0), (false), (by first | rfl | (simp; done) | (simp [*]; done) | (simp; decide +kernel)), (by first | rfl | (simp; done) | (simp [*]; done) | (simp; decide +kernel)), H', ⟨Nat.le_refl _⟩, ⟨by (with_reducible repeat (first | refine blk_drewN ?_ _ | refine blk_drew ?_ | refine blk_alloc ?_ _)); exact BK271.out⟩, ⟨by (with_reducible repeat (first | refine blk_drewN ?_ _ | refine blk_drew ?_ | refine blk_alloc ?_ _)); exact BK272.out⟩, ⟨by repeat (first | (with_reducible first | exact HB.out | apply below_alloc | apply pw_below_drewN | apply below_drew1 | refine below_set ?_ GE271.out | refine below_set ?_ GE272.out) | exact HB.out)⟩⟩
  case round =>
    clear H'
    try clear c1
    try clear p2
    obtain ⟨x3_1, x4_1, x273000_1, x273001_1, rfl, rfl, HA, HK1, BK271, BK272, HB⟩ := hrel
    cases gk with
    | zero => exact absurd HA.out (by simp [remontoirref01_Of.l0])
    | succ k1 =>
      have H := HA.out
      clear HA
      simp only [remontoirref01_Of.l0] at H
      by_cases c4 : x4_1 ≥ 0
      · rw [if_pos c4] at H
        have c4b0 : decide (0 ≤ x4_1) = true := decide_eq_true c4
        clear c4
        by_cases c5 : x4_1 = 0
        · subst c5
          rw [if_pos rfl] at H
          by_cases c6 : a0_0 < 0
          · rw [if_pos c6] at H
            have c6b0 : decide (a0_0 < 0) = true := decide_eq_true c6
            clear c6
            simp only [Option.some.injEq, Prod.mk.injEq] at H
            obtain ⟨rfl, rfl⟩ := H
            have hnb7 := NB271_272.out
            have hnc7 := NB272_271.out
            have hcz8_0 : wr.cell? ⟨gb271, 0, none⟩ = some (.int .i64 a0_0) := (blk_cell BK271.out 0).trans rfl
            have hcz8_1 : wr.cell? ⟨gb271, 1, none⟩ = some (.int .i64 a0_1) := (blk_cell BK271.out 1).trans rfl
            have hcz8_2 : wr.cell? ⟨gb271, 2, none⟩ = some (.int .i64 a0_2) := (blk_cell BK271.out 2).trans rfl
            have hcz8_3 : wr.cell? ⟨gb271, 3, none⟩ = some (.int .i64 a0_3) := (blk_cell BK271.out 3).trans rfl
            have hcz8_4 : wr.cell? ⟨gb271, 4, none⟩ = some (.int .i64 a0_4) := (blk_cell BK271.out 4).trans rfl
            have hcz8_5 : wr.cell? ⟨gb271, 5, none⟩ = some (.int .i64 a0_5) := (blk_cell BK271.out 5).trans rfl
            have hcz8_6 : wr.cell? ⟨gb271, 6, none⟩ = some (.int .i64 a0_6) := (blk_cell BK271.out 6).trans rfl
            have hcz8_7 : wr.cell? ⟨gb271, 7, none⟩ = some (.int .i64 a0_7) := (blk_cell BK271.out 7).trans rfl
            have hcz8_8 : wr.cell? ⟨gb271, 8, none⟩ = some (.int .i64 a0_8) := (blk_cell BK271.out 8).trans rfl
            have hcz8_9 : wr.cell? ⟨gb271, 9, none⟩ = some (.int .i64 a0_9) := (blk_cell BK271.out 9).trans rfl
            have hcz8_10 : wr.cell? ⟨gb271, 10, none⟩ = some (.int .i64 a0_10) := (blk_cell BK271.out 10).trans rfl
            have hfz8_0 := blk_frozen BK271.out 0
            have hfz8_1 := blk_frozen BK271.out 1
            have hfz8_2 := blk_frozen BK271.out 2
            have hfz8_3 := blk_frozen BK271.out 3
            have hfz8_4 := blk_frozen BK271.out 4
            have hfz8_5 := blk_frozen BK271.out 5
            have hfz8_6 := blk_frozen BK271.out 6
            have hfz8_7 := blk_frozen BK271.out 7
            have hfz8_8 := blk_frozen BK271.out 8
            have hfz8_9 := blk_frozen BK271.out 9
            have hfz8_10 := blk_frozen BK271.out 10
            have hcz9_0 : wr.cell? ⟨gb272, 0, none⟩ = some (.int .u64 x273000_1) := (blk_cell BK272.out 0).trans rfl
            have hcz9_1 : wr.cell? ⟨gb272, 1, none⟩ = some (.bool x273001_1) := (blk_cell BK272.out 1).trans rfl
            have hfz9_0 := blk_frozen BK272.out 0
            have hfz9_1 := blk_frozen BK272.out 1
            go_wp2
            refine bodyPost_ret (results_cell_row rfl _ _ gb272 36 #[.int .u64 0, .bool false] (0, 0) _ rfl (by (with_reducible repeat (first | refine blk_drewN ?_ _ | refine blk_drew ?_ | refine blk_alloc ?_ _)); refine blk_put (cs := #[.int .u64 0, .bool x273001_1]) ?_ 1 _ rfl; (with_reducible repeat (first | refine blk_drewN ?_ _ | refine blk_drew ?_ | refine blk_alloc ?_ _)); refine blk_put (cs := #[.int .u64 x273000_1, .bool x273001_1]) ?_ 0 _ rfl; (with_reducible repeat (first | refine blk_drewN ?_ _ | refine blk_drew ?_ | refine blk_alloc ?_ _)); exact BK272.out) Try.underlying36 rfl (by kernel_rfl)) rfl ?_
            exact ⟨by first | rfl | (simp [errW_none, errW_some] <;> rfl) | (simp [*, errW_none, errW_some] <;> rfl), by repeat (first | (with_reducible first | exact HB.out | apply below_alloc | apply pw_below_drewN | apply below_drew1 | refine below_set ?_ GE271.out | refine below_set ?_ GE272.out) | exact HB.out)⟩
          · rw [if_neg c6] at H
            have c6b0 : decide (a0_0 < 0) = false := decide_eq_false c6
            clear c6
            by_cases c10 : a0_0 ≥ 64
            · rw [if_pos c10] at H
              have c10b0 : decide (64 ≤ a0_0) = true := decide_eq_true c10
              clear c10
              simp only [Option.some.injEq, Prod.mk.injEq] at H
              obtain ⟨rfl, rfl⟩ := H
              have hnb11 := NB271_272.out
              have hnc11 := NB272_271.out
              have hcz12_0 : wr.cell? ⟨gb271, 0, none⟩ = some (.int .i64 a0_0) := (blk_cell BK271.out 0).trans rfl
              have hcz12_1 : wr.cell? ⟨gb271, 1, none⟩ = some (.int .i64 a0_1) := (blk_cell BK271.out 1).trans rfl
              have hcz12_2 : wr.cell? ⟨gb271, 2, none⟩ = some (.int .i64 a0_2) := (blk_cell BK271.out 2).trans rfl
              have hcz12_3 : wr.cell? ⟨gb271, 3, none⟩ = some (.int .i64 a0_3) := (blk_cell BK271.out 3).trans rfl
              have hcz12_4 : wr.cell? ⟨gb271, 4, none⟩ = some (.int .i64 a0_4) := (blk_cell BK271.out 4).trans rfl
              have hcz12_5 : wr.cell? ⟨gb271, 5, none⟩ = some (.int .i64 a0_5) := (blk_cell BK271.out 5).trans rfl
              have hcz12_6 : wr.cell? ⟨gb271, 6, none⟩ = some (.int .i64 a0_6) := (blk_cell BK271.out 6).trans rfl
              have hcz12_7 : wr.cell? ⟨gb271, 7, none⟩ = some (.int .i64 a0_7) := (blk_cell BK271.out 7).trans rfl
              have hcz12_8 : wr.cell? ⟨gb271, 8, none⟩ = some (.int .i64 a0_8) := (blk_cell BK271.out 8).trans rfl
              have hcz12_9 : wr.cell? ⟨gb271, 9, none⟩ = some (.int .i64 a0_9) := (blk_cell BK271.out 9).trans rfl
              have hcz12_10 : wr.cell? ⟨gb271, 10, none⟩ = some (.int .i64 a0_10) := (blk_cell BK271.out 10).trans rfl
              have hfz12_0 := blk_frozen BK271.out 0
              have hfz12_1 := blk_frozen BK271.out 1
              have hfz12_2 := blk_frozen BK271.out 2
              have hfz12_3 := blk_frozen BK271.out 3
              have hfz12_4 := blk_frozen BK271.out 4
              have hfz12_5 := blk_frozen BK271.out 5
              have hfz12_6 := blk_frozen BK271.out 6
              have hfz12_7 := blk_frozen BK271.out 7
              have hfz12_8 := blk_frozen BK271.out 8
              have hfz12_9 := blk_frozen BK271.out 9
              have hfz12_10 := blk_frozen BK271.out 10
              have hcz13_0 : wr.cell? ⟨gb272, 0, none⟩ = some (.int .u64 x273000_1) := (blk_cell BK272.out 0).trans rfl
              have hcz13_1 : wr.cell? ⟨gb272, 1, none⟩ = some (.bool x273001_1) := (blk_cell BK272.out 1).trans rfl
              have hfz13_0 := blk_frozen BK272.out 0
              have hfz13_1 := blk_frozen BK272.out 1
              go_wp2
              refine bodyPost_ret (results_cell_row rfl _ _ gb272 36 #[.int .u64 0, .bool false] (0, 0) _ rfl (by (with_reducible repeat (first | refine blk_drewN ?_ _ | refine blk_drew ?_ | refine blk_alloc ?_ _)); refine blk_put (cs := #[.int .u64 0, .bool x273001_1]) ?_ 1 _ rfl; (with_reducible repeat (first | refine blk_drewN ?_ _ | refine blk_drew ?_ | refine blk_alloc ?_ _)); refine blk_put (cs := #[.int .u64 x273000_1, .bool x273001_1]) ?_ 0 _ rfl; (with_reducible repeat (first | refine blk_drewN ?_ _ | refine blk_drew ?_ | refine blk_alloc ?_ _)); exact BK272.out) Try.underlying36 rfl (by kernel_rfl)) rfl ?_
              exact ⟨by first | rfl | (simp [errW_none, errW_some] <;> rfl) | (simp [*, errW_none, errW_some] <;> rfl), by repeat (first | (with_reducible first | exact HB.out | apply below_alloc | apply pw_below_drewN | apply below_drew1 | refine below_set ?_ GE271.out | refine below_set ?_ GE272.out) | exact HB.out)⟩
            · rw [if_neg c10] at H
              have c10b0 : decide (64 ≤ a0_0) = false := decide_eq_false c10
              clear c10
              have H' := Aside0.mk H
              clear H
              have hnb14 := NB271_272.out
              have hnc14 := NB272_271.out
              have hcz15_0 : wr.cell? ⟨gb271, 0, none⟩ = some (.int .i64 a0_0) := (blk_cell BK271.out 0).trans rfl
              have hcz15_1 : wr.cell? ⟨gb271, 1, none⟩ = some (.int .i64 a0_1) := (blk_cell BK271.out 1).trans rfl
              have hcz15_2 : wr.cell? ⟨gb271, 2, none⟩ = some (.int .i64 a0_2) := (blk_cell BK271.out 2).trans rfl
              have hcz15_3 : wr.cell? ⟨gb271, 3, none⟩ = some (.int .i64 a0_3) := (blk_cell BK271.out 3).trans rfl
              have hcz15_4 : wr.cell? ⟨gb271, 4, none⟩ = some (.int .i64 a0_4) := (blk_cell BK271.out 4).trans rfl
              have hcz15_5 : wr.cell? ⟨gb271, 5, none⟩ = some (.int .i64 a0_5) := (blk_cell BK271.out 5).trans rfl
              have hcz15_6 : wr.cell? ⟨gb271, 6, none⟩ = some (.int .i64 a0_6) := (blk_cell BK271.out 6).trans rfl
              have hcz15_7 : wr.cell? ⟨gb271, 7, none⟩ = some (.int .i64 a0_7) := (blk_cell BK271.out 7).trans rfl
              have hcz15_8 : wr.cell? ⟨gb271, 8, none⟩ = some (.int .i64 a0_8) := (blk_cell BK271.out 8).trans rfl
              have hcz15_9 : wr.cell? ⟨gb271, 9, none⟩ = some (.int .i64 a0_9) := (blk_cell BK271.out 9).trans rfl
              have hcz15_10 : wr.cell? ⟨gb271, 10, none⟩ = some (.int .i64 a0_10) := (blk_cell BK271.out 10).trans rfl
              have hfz15_0 := blk_frozen BK271.out 0
              have hfz15_1 := blk_frozen BK271.out 1
              have hfz15_2 := blk_frozen BK271.out 2
              have hfz15_3 := blk_frozen BK271.out 3
              have hfz15_4 := blk_frozen BK271.out 4
              have hfz15_5 := blk_frozen BK271.out 5
              have hfz15_6 := blk_frozen BK271.out 6
              have hfz15_7 := blk_frozen BK271.out 7
              have hfz15_8 := blk_frozen BK271.out 8
              have hfz15_9 := blk_frozen BK271.out 9
              have hfz15_10 := blk_frozen BK271.out 10
              go_wp2
              go_roundg k1
              case measure => have := HK1.out; omega
              case rel => exact ⟨(IntKind.u64.wrap ((IntKind.u64.wrap (x3_1 * 64)) + (IntKind.u64.wrap (a0_0)))), (wrap64 ((0 : Int) - 1)), (x273000_1), (x273001_1), (by first | rfl | (simp; done) | (simp [*]; done) | (simp; decide +kernel)), (by first | rfl | (simp; done) | (simp [*]; done) | (simp; decide +kernel)), H', ⟨by have := HK1.out; omega⟩, ⟨by (with_reducible repeat (first | refine blk_drewN ?_ _ | refine blk_drew ?_ | refine blk_alloc ?_ _)); exact BK271.out⟩, ⟨by (with_reducible repeat (first | refine blk_drewN ?_ _ | refine blk_drew ?_ | refine blk_alloc ?_ _)); exact BK272.out⟩, ⟨by repeat (first | (with_reducible first | exact HB.out | apply below_alloc | apply pw_below_drewN | apply below_drew1 | refine below_set ?_ GE271.out | refine below_set ?_ GE272.out) | exact HB.out)⟩⟩
        · rw [if_neg c5] at H
          clear c5
          by_cases c16 : x4_1 = 1
          · subst c16
            rw [if_pos rfl] at H
            by_cases c17 : a0_1 < 0
            · rw [if_pos c17] at H
              have c17b0 : decide (a0_1 < 0) = true := decide_eq_true c17
              clear c17
              simp only [Option.some.injEq, Prod.mk.injEq] at H
              obtain ⟨rfl, rfl⟩ := H
              have hnb18 := NB271_272.out
              have hnc18 := NB272_271.out
              have hcz19_0 : wr.cell? ⟨gb271, 0, none⟩ = some (.int .i64 a0_0) := (blk_cell BK271.out 0).trans rfl
              have hcz19_1 : wr.cell? ⟨gb271, 1, none⟩ = some (.int .i64 a0_1) := (blk_cell BK271.out 1).trans rfl
              have hcz19_2 : wr.cell? ⟨gb271, 2, none⟩ = some (.int .i64 a0_2) := (blk_cell BK271.out 2).trans rfl
              have hcz19_3 : wr.cell? ⟨gb271, 3, none⟩ = some (.int .i64 a0_3) := (blk_cell BK271.out 3).trans rfl
              have hcz19_4 : wr.cell? ⟨gb271, 4, none⟩ = some (.int .i64 a0_4) := (blk_cell BK271.out 4).trans rfl
              have hcz19_5 : wr.cell? ⟨gb271, 5, none⟩ = some (.int .i64 a0_5) := (blk_cell BK271.out 5).trans rfl
              have hcz19_6 : wr.cell? ⟨gb271, 6, none⟩ = some (.int .i64 a0_6) := (blk_cell BK271.out 6).trans rfl
              have hcz19_7 : wr.cell? ⟨gb271, 7, none⟩ = some (.int .i64 a0_7) := (blk_cell BK271.out 7).trans rfl
              have hcz19_8 : wr.cell? ⟨gb271, 8, none⟩ = some (.int .i64 a0_8) := (blk_cell BK271.out 8).trans rfl
              have hcz19_9 : wr.cell? ⟨gb271, 9, none⟩ = some (.int .i64 a0_9) := (blk_cell BK271.out 9).trans rfl
              have hcz19_10 : wr.cell? ⟨gb271, 10, none⟩ = some (.int .i64 a0_10) := (blk_cell BK271.out 10).trans rfl
              have hfz19_0 := blk_frozen BK271.out 0
              have hfz19_1 := blk_frozen BK271.out 1
              have hfz19_2 := blk_frozen BK271.out 2
              have hfz19_3 := blk_frozen BK271.out 3
              have hfz19_4 := blk_frozen BK271.out 4
              have hfz19_5 := blk_frozen BK271.out 5
              have hfz19_6 := blk_frozen BK271.out 6
              have hfz19_7 := blk_frozen BK271.out 7
              have hfz19_8 := blk_frozen BK271.out 8
              have hfz19_9 := blk_frozen BK271.out 9
              have hfz19_10 := blk_frozen BK271.out 10
              have hcz20_0 : wr.cell? ⟨gb272, 0, none⟩ = some (.int .u64 x273000_1) := (blk_cell BK272.out 0).trans rfl
              have hcz20_1 : wr.cell? ⟨gb272, 1, none⟩ = some (.bool x273001_1) := (blk_cell BK272.out 1).trans rfl
              have hfz20_0 := blk_frozen BK272.out 0
              have hfz20_1 := blk_frozen BK272.out 1
              go_wp2
              refine bodyPost_ret (results_cell_row rfl _ _ gb272 36 #[.int .u64 0, .bool false] (0, 0) _ rfl (by (with_reducible repeat (first | refine blk_drewN ?_ _ | refine blk_drew ?_ | refine blk_alloc ?_ _)); refine blk_put (cs := #[.int .u64 0, .bool x273001_1]) ?_ 1 _ rfl; (with_reducible repeat (first | refine blk_drewN ?_ _ | refine blk_drew ?_ | refine blk_alloc ?_ _)); refine blk_put (cs := #[.int .u64 x273000_1, .bool x273001_1]) ?_ 0 _ rfl; (with_reducible repeat (first | refine blk_drewN ?_ _ | refine blk_drew ?_ | refine blk_alloc ?_ _)); exact BK272.out) Try.underlying36 rfl (by kernel_rfl)) rfl ?_
              exact ⟨by first | rfl | (simp [errW_none, errW_some] <;> rfl) | (simp [*, errW_none, errW_some] <;> rfl), by repeat (first | (with_reducible first | exact HB.out | apply below_alloc | apply pw_below_drewN | apply below_drew1 | refine below_set ?_ GE271.out | refine below_set ?_ GE272.out) | exact HB.out)⟩
            · rw [if_neg c17] at H
              have c17b0 : decide (a0_1 < 0) = false := decide_eq_false c17
              clear c17
              by_cases c21 : a0_1 ≥ 64
              · rw [if_pos c21] at H
                have c21b0 : decide (64 ≤ a0_1) = true := decide_eq_true c21
                clear c21
                simp only [Option.some.injEq, Prod.mk.injEq] at H
                obtain ⟨rfl, rfl⟩ := H
                have hnb22 := NB271_272.out
                have hnc22 := NB272_271.out
                have hcz23_0 : wr.cell? ⟨gb271, 0, none⟩ = some (.int .i64 a0_0) := (blk_cell BK271.out 0).trans rfl
                have hcz23_1 : wr.cell? ⟨gb271, 1, none⟩ = some (.int .i64 a0_1) := (blk_cell BK271.out 1).trans rfl
                have hcz23_2 : wr.cell? ⟨gb271, 2, none⟩ = some (.int .i64 a0_2) := (blk_cell BK271.out 2).trans rfl
                have hcz23_3 : wr.cell? ⟨gb271, 3, none⟩ = some (.int .i64 a0_3) := (blk_cell BK271.out 3).trans rfl
                have hcz23_4 : wr.cell? ⟨gb271, 4, none⟩ = some (.int .i64 a0_4) := (blk_cell BK271.out 4).trans rfl
                have hcz23_5 : wr.cell? ⟨gb271, 5, none⟩ = some (.int .i64 a0_5) := (blk_cell BK271.out 5).trans rfl
                have hcz23_6 : wr.cell? ⟨gb271, 6, none⟩ = some (.int .i64 a0_6) := (blk_cell BK271.out 6).trans rfl
                have hcz23_7 : wr.cell? ⟨gb271, 7, none⟩ = some (.int .i64 a0_7) := (blk_cell BK271.out 7).trans rfl
                have hcz23_8 : wr.cell? ⟨gb271, 8, none⟩ = some (.int .i64 a0_8) := (blk_cell BK271.out 8).trans rfl
                have hcz23_9 : wr.cell? ⟨gb271, 9, none⟩ = some (.int .i64 a0_9) := (blk_cell BK271.out 9).trans rfl
                have hcz23_10 : wr.cell? ⟨gb271, 10, none⟩ = some (.int .i64 a0_10) := (blk_cell BK271.out 10).trans rfl
                have hfz23_0 := blk_frozen BK271.out 0
                have hfz23_1 := blk_frozen BK271.out 1
                have hfz23_2 := blk_frozen BK271.out 2
                have hfz23_3 := blk_frozen BK271.out 3
                have hfz23_4 := blk_frozen BK271.out 4
                have hfz23_5 := blk_frozen BK271.out 5
                have hfz23_6 := blk_frozen BK271.out 6
                have hfz23_7 := blk_frozen BK271.out 7
                have hfz23_8 := blk_frozen BK271.out 8
                have hfz23_9 := blk_frozen BK271.out 9
                have hfz23_10 := blk_frozen BK271.out 10
                have hcz24_0 : wr.cell? ⟨gb272, 0, none⟩ = some (.int .u64 x273000_1) := (blk_cell BK272.out 0).trans rfl
                have hcz24_1 : wr.cell? ⟨gb272, 1, none⟩ = some (.bool x273001_1) := (blk_cell BK272.out 1).trans rfl
                have hfz24_0 := blk_frozen BK272.out 0
                have hfz24_1 := blk_frozen BK272.out 1
                go_wp2
                refine bodyPost_ret (results_cell_row rfl _ _ gb272 36 #[.int .u64 0, .bool false] (0, 0) _ rfl (by (with_reducible repeat (first | refine blk_drewN ?_ _ | refine blk_drew ?_ | refine blk_alloc ?_ _)); refine blk_put (cs := #[.int .u64 0, .bool x273001_1]) ?_ 1 _ rfl; (with_reducible repeat (first | refine blk_drewN ?_ _ | refine blk_drew ?_ | refine blk_alloc ?_ _)); refine blk_put (cs := #[.int .u64 x273000_1, .bool x273001_1]) ?_ 0 _ rfl; (with_reducible repeat (first | refine blk_drewN ?_ _ | refine blk_drew ?_ | refine blk_alloc ?_ _)); exact BK272.out) Try.underlying36 rfl (by kernel_rfl)) rfl ?_
                exact ⟨by first | rfl | (simp [errW_none, errW_some] <;> rfl) | (simp [*, errW_none, errW_some] <;> rfl), by repeat (first | (with_reducible first | exact HB.out | apply below_alloc | apply pw_below_drewN | apply below_drew1 | refine below_set ?_ GE271.out | refine below_set ?_ GE272.out) | exact HB.out)⟩
              · rw [if_neg c21] at H
                have c21b0 : decide (64 ≤ a0_1) = false := decide_eq_false c21
                clear c21
                have H' := Aside0.mk H
                clear H
                have hnb25 := NB271_272.out
                have hnc25 := NB272_271.out
                have hcz26_0 : wr.cell? ⟨gb271, 0, none⟩ = some (.int .i64 a0_0) := (blk_cell BK271.out 0).trans rfl
                have hcz26_1 : wr.cell? ⟨gb271, 1, none⟩ = some (.int .i64 a0_1) := (blk_cell BK271.out 1).trans rfl
                have hcz26_2 : wr.cell? ⟨gb271, 2, none⟩ = some (.int .i64 a0_2) := (blk_cell BK271.out 2).trans rfl
                have hcz26_3 : wr.cell? ⟨gb271, 3, none⟩ = some (.int .i64 a0_3) := (blk_cell BK271.out 3).trans rfl
                have hcz26_4 : wr.cell? ⟨gb271, 4, none⟩ = some (.int .i64 a0_4) := (blk_cell BK271.out 4).trans rfl
                have hcz26_5 : wr.cell? ⟨gb271, 5, none⟩ = some (.int .i64 a0_5) := (blk_cell BK271.out 5).trans rfl
                have hcz26_6 : wr.cell? ⟨gb271, 6, none⟩ = some (.int .i64 a0_6) := (blk_cell BK271.out 6).trans rfl
                have hcz26_7 : wr.cell? ⟨gb271, 7, none⟩ = some (.int .i64 a0_7) := (blk_cell BK271.out 7).trans rfl
                have hcz26_8 : wr.cell? ⟨gb271, 8, none⟩ = some (.int .i64 a0_8) := (blk_cell BK271.out 8).trans rfl
                have hcz26_9 : wr.cell? ⟨gb271, 9, none⟩ = some (.int .i64 a0_9) := (blk_cell BK271.out 9).trans rfl
                have hcz26_10 : wr.cell? ⟨gb271, 10, none⟩ = some (.int .i64 a0_10) := (blk_cell BK271.out 10).trans rfl
                have hfz26_0 := blk_frozen BK271.out 0
                have hfz26_1 := blk_frozen BK271.out 1
                have hfz26_2 := blk_frozen BK271.out 2
                have hfz26_3 := blk_frozen BK271.out 3
                have hfz26_4 := blk_frozen BK271.out 4
                have hfz26_5 := blk_frozen BK271.out 5
                have hfz26_6 := blk_frozen BK271.out 6
                have hfz26_7 := blk_frozen BK271.out 7
                have hfz26_8 := blk_frozen BK271.out 8
                have hfz26_9 := blk_frozen BK271.out 9
                have hfz26_10 := blk_frozen BK271.out 10
                go_wp2
                go_roundg k1
                case measure => have := HK1.out; omega
                case rel => exact ⟨(IntKind.u64.wrap ((IntKind.u64.wrap (x3_1 * 64)) + (IntKind.u64.wrap (a0_1)))), (wrap64 ((1 : Int) - 1)), (x273000_1), (x273001_1), (by first | rfl | (simp; done) | (simp [*]; done) | (simp; decide +kernel)), (by first | rfl | (simp; done) | (simp [*]; done) | (simp; decide +kernel)), H', ⟨by have := HK1.out; omega⟩, ⟨by (with_reducible repeat (first | refine blk_drewN ?_ _ | refine blk_drew ?_ | refine blk_alloc ?_ _)); exact BK271.out⟩, ⟨by (with_reducible repeat (first | refine blk_drewN ?_ _ | refine blk_drew ?_ | refine blk_alloc ?_ _)); exact BK272.out⟩, ⟨by repeat (first | (with_reducible first | exact HB.out | apply below_alloc | apply pw_below_drewN | apply below_drew1 | refine below_set ?_ GE271.out | refine below_set ?_ GE272.out) | exact HB.out)⟩⟩
          · rw [if_neg c16] at H
            clear c16
            by_cases c27 : x4_1 = 2
            · subst c27
              rw [if_pos rfl] at H
              by_cases c28 : a0_2 < 0
              · rw [if_pos c28] at H
                have c28b0 : decide (a0_2 < 0) = true := decide_eq_true c28
                clear c28
                simp only [Option.some.injEq, Prod.mk.injEq] at H
                obtain ⟨rfl, rfl⟩ := H
                have hnb29 := NB271_272.out
                have hnc29 := NB272_271.out
                have hcz30_0 : wr.cell? ⟨gb271, 0, none⟩ = some (.int .i64 a0_0) := (blk_cell BK271.out 0).trans rfl
                have hcz30_1 : wr.cell? ⟨gb271, 1, none⟩ = some (.int .i64 a0_1) := (blk_cell BK271.out 1).trans rfl
                have hcz30_2 : wr.cell? ⟨gb271, 2, none⟩ = some (.int .i64 a0_2) := (blk_cell BK271.out 2).trans rfl
                have hcz30_3 : wr.cell? ⟨gb271, 3, none⟩ = some (.int .i64 a0_3) := (blk_cell BK271.out 3).trans rfl
                have hcz30_4 : wr.cell? ⟨gb271, 4, none⟩ = some (.int .i64 a0_4) := (blk_cell BK271.out 4).trans rfl
                have hcz30_5 : wr.cell? ⟨gb271, 5, none⟩ = some (.int .i64 a0_5) := (blk_cell BK271.out 5).trans rfl
                have hcz30_6 : wr.cell? ⟨gb271, 6, none⟩ = some (.int .i64 a0_6) := (blk_cell BK271.out 6).trans rfl
                have hcz30_7 : wr.cell? ⟨gb271, 7, none⟩ = some (.int .i64 a0_7) := (blk_cell BK271.out 7).trans rfl
                have hcz30_8 : wr.cell? ⟨gb271, 8, none⟩ = some (.int .i64 a0_8) := (blk_cell BK271.out 8).trans rfl
                have hcz30_9 : wr.cell? ⟨gb271, 9, none⟩ = some (.int .i64 a0_9) := (blk_cell BK271.out 9).trans rfl
                have hcz30_10 : wr.cell? ⟨gb271, 10, none⟩ = some (.int .i64 a0_10) := (blk_cell BK271.out 10).trans rfl
                have hfz30_0 := blk_frozen BK271.out 0
                have hfz30_1 := blk_frozen BK271.out 1
                have hfz30_2 := blk_frozen BK271.out 2
                have hfz30_3 := blk_frozen BK271.out 3
                have hfz30_4 := blk_frozen BK271.out 4
                have hfz30_5 := blk_frozen BK271.out 5
                have hfz30_6 := blk_frozen BK271.out 6
                have hfz30_7 := blk_frozen BK271.out 7
                have hfz30_8 := blk_frozen BK271.out 8
                have hfz30_9 := blk_frozen BK271.out 9
                have hfz30_10 := blk_frozen BK271.out 10
                have hcz31_0 : wr.cell? ⟨gb272, 0, none⟩ = some (.int .u64 x273000_1) := (blk_cell BK272.out 0).trans rfl
                have hcz31_1 : wr.cell? ⟨gb272, 1, none⟩ = some (.bool x273001_1) := (blk_cell BK272.out 1).trans rfl
                have hfz31_0 := blk_frozen BK272.out 0
                have hfz31_1 := blk_frozen BK272.out 1
                go_wp2
                refine bodyPost_ret (results_cell_row rfl _ _ gb272 36 #[.int .u64 0, .bool false] (0, 0) _ rfl (by (with_reducible repeat (first | refine blk_drewN ?_ _ | refine blk_drew ?_ | refine blk_alloc ?_ _)); refine blk_put (cs := #[.int .u64 0, .bool x273001_1]) ?_ 1 _ rfl; (with_reducible repeat (first | refine blk_drewN ?_ _ | refine blk_drew ?_ | refine blk_alloc ?_ _)); refine blk_put (cs := #[.int .u64 x273000_1, .bool x273001_1]) ?_ 0 _ rfl; (with_reducible repeat (first | refine blk_drewN ?_ _ | refine blk_drew ?_ | refine blk_alloc ?_ _)); exact BK272.out) Try.underlying36 rfl (by kernel_rfl)) rfl ?_
                exact ⟨by first | rfl | (simp [errW_none, errW_some] <;> rfl) | (simp [*, errW_none, errW_some] <;> rfl), by repeat (first | (with_reducible first | exact HB.out | apply below_alloc | apply pw_below_drewN | apply below_drew1 | refine below_set ?_ GE271.out | refine below_set ?_ GE272.out) | exact HB.out)⟩
              · rw [if_neg c28] at H
                have c28b0 : decide (a0_2 < 0) = false := decide_eq_false c28
                clear c28
                by_cases c32 : a0_2 ≥ 64
                · rw [if_pos c32] at H
                  have c32b0 : decide (64 ≤ a0_2) = true := decide_eq_true c32
                  clear c32
                  simp only [Option.some.injEq, Prod.mk.injEq] at H
                  obtain ⟨rfl, rfl⟩ := H
                  have hnb33 := NB271_272.out
                  have hnc33 := NB272_271.out
                  have hcz34_0 : wr.cell? ⟨gb271, 0, none⟩ = some (.int .i64 a0_0) := (blk_cell BK271.out 0).trans rfl
                  have hcz34_1 : wr.cell? ⟨gb271, 1, none⟩ = some (.int .i64 a0_1) := (blk_cell BK271.out 1).trans rfl
                  have hcz34_2 : wr.cell? ⟨gb271, 2, none⟩ = some (.int .i64 a0_2) := (blk_cell BK271.out 2).trans rfl
                  have hcz34_3 : wr.cell? ⟨gb271, 3, none⟩ = some (.int .i64 a0_3) := (blk_cell BK271.out 3).trans rfl
                  have hcz34_4 : wr.cell? ⟨gb271, 4, none⟩ = some (.int .i64 a0_4) := (blk_cell BK271.out 4).trans rfl
                  have hcz34_5 : wr.cell? ⟨gb271, 5, none⟩ = some (.int .i64 a0_5) := (blk_cell BK271.out 5).trans rfl
                  have hcz34_6 : wr.cell? ⟨gb271, 6, none⟩ = some (.int .i64 a0_6) := (blk_cell BK271.out 6).trans rfl
                  have hcz34_7 : wr.cell? ⟨gb271, 7, none⟩ = some (.int .i64 a0_7) := (blk_cell BK271.out 7).trans rfl
                  have hcz34_8 : wr.cell? ⟨gb271, 8, none⟩ = some (.int .i64 a0_8) := (blk_cell BK271.out 8).trans rfl
                  have hcz34_9 : wr.cell? ⟨gb271, 9, none⟩ = some (.int .i64 a0_9) := (blk_cell BK271.out 9).trans rfl
                  have hcz34_10 : wr.cell? ⟨gb271, 10, none⟩ = some (.int .i64 a0_10) := (blk_cell BK271.out 10).trans rfl
                  have hfz34_0 := blk_frozen BK271.out 0
                  have hfz34_1 := blk_frozen BK271.out 1
                  have hfz34_2 := blk_frozen BK271.out 2
                  have hfz34_3 := blk_frozen BK271.out 3
                  have hfz34_4 := blk_frozen BK271.out 4
                  have hfz34_5 := blk_frozen BK271.out 5
                  have hfz34_6 := blk_frozen BK271.out 6
                  have hfz34_7 := blk_frozen BK271.out 7
                  have hfz34_8 := blk_frozen BK271.out 8
                  have hfz34_9 := blk_frozen BK271.out 9
                  have hfz34_10 := blk_frozen BK271.out 10
                  have hcz35_0 : wr.cell? ⟨gb272, 0, none⟩ = some (.int .u64 x273000_1) := (blk_cell BK272.out 0).trans rfl
                  have hcz35_1 : wr.cell? ⟨gb272, 1, none⟩ = some (.bool x273001_1) := (blk_cell BK272.out 1).trans rfl
                  have hfz35_0 := blk_frozen BK272.out 0
                  have hfz35_1 := blk_frozen BK272.out 1
                  go_wp2
                  refine bodyPost_ret (results_cell_row rfl _ _ gb272 36 #[.int .u64 0, .bool false] (0, 0) _ rfl (by (with_reducible repeat (first | refine blk_drewN ?_ _ | refine blk_drew ?_ | refine blk_alloc ?_ _)); refine blk_put (cs := #[.int .u64 0, .bool x273001_1]) ?_ 1 _ rfl; (with_reducible repeat (first | refine blk_drewN ?_ _ | refine blk_drew ?_ | refine blk_alloc ?_ _)); refine blk_put (cs := #[.int .u64 x273000_1, .bool x273001_1]) ?_ 0 _ rfl; (with_reducible repeat (first | refine blk_drewN ?_ _ | refine blk_drew ?_ | refine blk_alloc ?_ _)); exact BK272.out) Try.underlying36 rfl (by kernel_rfl)) rfl ?_
                  exact ⟨by first | rfl | (simp [errW_none, errW_some] <;> rfl) | (simp [*, errW_none, errW_some] <;> rfl), by repeat (first | (with_reducible first | exact HB.out | apply below_alloc | apply pw_below_drewN | apply below_drew1 | refine below_set ?_ GE271.out | refine below_set ?_ GE272.out) | exact HB.out)⟩
                · rw [if_neg c32] at H
                  have c32b0 : decide (64 ≤ a0_2) = false := decide_eq_false c32
                  clear c32
                  have H' := Aside0.mk H
                  clear H
                  have hnb36 := NB271_272.out
                  have hnc36 := NB272_271.out
                  have hcz37_0 : wr.cell? ⟨gb271, 0, none⟩ = some (.int .i64 a0_0) := (blk_cell BK271.out 0).trans rfl
                  have hcz37_1 : wr.cell? ⟨gb271, 1, none⟩ = some (.int .i64 a0_1) := (blk_cell BK271.out 1).trans rfl
                  have hcz37_2 : wr.cell? ⟨gb271, 2, none⟩ = some (.int .i64 a0_2) := (blk_cell BK271.out 2).trans rfl
                  have hcz37_3 : wr.cell? ⟨gb271, 3, none⟩ = some (.int .i64 a0_3) := (blk_cell BK271.out 3).trans rfl
                  have hcz37_4 : wr.cell? ⟨gb271, 4, none⟩ = some (.int .i64 a0_4) := (blk_cell BK271.out 4).trans rfl
                  have hcz37_5 : wr.cell? ⟨gb271, 5, none⟩ = some (.int .i64 a0_5) := (blk_cell BK271.out 5).trans rfl
                  have hcz37_6 : wr.cell? ⟨gb271, 6, none⟩ = some (.int .i64 a0_6) := (blk_cell BK271.out 6).trans rfl
                  have hcz37_7 : wr.cell? ⟨gb271, 7, none⟩ = some (.int .i64 a0_7) := (blk_cell BK271.out 7).trans rfl
                  have hcz37_8 : wr.cell? ⟨gb271, 8, none⟩ = some (.int .i64 a0_8) := (blk_cell BK271.out 8).trans rfl
                  have hcz37_9 : wr.cell? ⟨gb271, 9, none⟩ = some (.int .i64 a0_9) := (blk_cell BK271.out 9).trans rfl
                  have hcz37_10 : wr.cell? ⟨gb271, 10, none⟩ = some (.int .i64 a0_10) := (blk_cell BK271.out 10).trans rfl
                  have hfz37_0 := blk_frozen BK271.out 0
                  have hfz37_1 := blk_frozen BK271.out 1
                  have hfz37_2 := blk_frozen BK271.out 2
                  have hfz37_3 := blk_frozen BK271.out 3
                  have hfz37_4 := blk_frozen BK271.out 4
                  have hfz37_5 := blk_frozen BK271.out 5
                  have hfz37_6 := blk_frozen BK271.out 6
                  have hfz37_7 := blk_frozen BK271.out 7
                  have hfz37_8 := blk_frozen BK271.out 8
                  have hfz37_9 := blk_frozen BK271.out 9
                  have hfz37_10 := blk_frozen BK271.out 10
                  go_wp2
                  go_roundg k1
                  case measure => have := HK1.out; omega
                  case rel => exact ⟨(IntKind.u64.wrap ((IntKind.u64.wrap (x3_1 * 64)) + (IntKind.u64.wrap (a0_2)))), (wrap64 ((2 : Int) - 1)), (x273000_1), (x273001_1), (by first | rfl | (simp; done) | (simp [*]; done) | (simp; decide +kernel)), (by first | rfl | (simp; done) | (simp [*]; done) | (simp; decide +kernel)), H', ⟨by have := HK1.out; omega⟩, ⟨by (with_reducible repeat (first | refine blk_drewN ?_ _ | refine blk_drew ?_ | refine blk_alloc ?_ _)); exact BK271.out⟩, ⟨by (with_reducible repeat (first | refine blk_drewN ?_ _ | refine blk_drew ?_ | refine blk_alloc ?_ _)); exact BK272.out⟩, ⟨by repeat (first | (with_reducible first | exact HB.out | apply below_alloc | apply pw_below_drewN | apply below_drew1 | refine below_set ?_ GE271.out | refine below_set ?_ GE272.out) | exact HB.out)⟩⟩
            · rw [if_neg c27] at H
              clear c27
              by_cases c38 : x4_1 = 3
              · subst c38
                rw [if_pos rfl] at H
                by_cases c39 : a0_3 < 0
                · rw [if_pos c39] at H
                  have c39b0 : decide (a0_3 < 0) = true := decide_eq_true c39
                  clear c39
                  simp only [Option.some.injEq, Prod.mk.injEq] at H
                  obtain ⟨rfl, rfl⟩ := H
                  have hnb40 := NB271_272.out
                  have hnc40 := NB272_271.out
                  have hcz41_0 : wr.cell? ⟨gb271, 0, none⟩ = some (.int .i64 a0_0) := (blk_cell BK271.out 0).trans rfl
                  have hcz41_1 : wr.cell? ⟨gb271, 1, none⟩ = some (.int .i64 a0_1) := (blk_cell BK271.out 1).trans rfl
                  have hcz41_2 : wr.cell? ⟨gb271, 2, none⟩ = some (.int .i64 a0_2) := (blk_cell BK271.out 2).trans rfl
                  have hcz41_3 : wr.cell? ⟨gb271, 3, none⟩ = some (.int .i64 a0_3) := (blk_cell BK271.out 3).trans rfl
                  have hcz41_4 : wr.cell? ⟨gb271, 4, none⟩ = some (.int .i64 a0_4) := (blk_cell BK271.out 4).trans rfl
                  have hcz41_5 : wr.cell? ⟨gb271, 5, none⟩ = some (.int .i64 a0_5) := (blk_cell BK271.out 5).trans rfl
                  have hcz41_6 : wr.cell? ⟨gb271, 6, none⟩ = some (.int .i64 a0_6) := (blk_cell BK271.out 6).trans rfl
                  have hcz41_7 : wr.cell? ⟨gb271, 7, none⟩ = some (.int .i64 a0_7) := (blk_cell BK271.out 7).trans rfl
                  have hcz41_8 : wr.cell? ⟨gb271, 8, none⟩ = some (.int .i64 a0_8) := (blk_cell BK271.out 8).trans rfl
                  have hcz41_9 : wr.cell? ⟨gb271, 9, none⟩ = some (.int .i64 a0_9) := (blk_cell BK271.out 9).trans rfl
                  have hcz41_10 : wr.cell? ⟨gb271, 10, none⟩ = some (.int .i64 a0_10) := (blk_cell BK271.out 10).trans rfl
                  have hfz41_0 := blk_frozen BK271.out 0
                  have hfz41_1 := blk_frozen BK271.out 1
                  have hfz41_2 := blk_frozen BK271.out 2
                  have hfz41_3 := blk_frozen BK271.out 3
                  have hfz41_4 := blk_frozen BK271.out 4
                  have hfz41_5 := blk_frozen BK271.out 5
                  have hfz41_6 := blk_frozen BK271.out 6
                  have hfz41_7 := blk_frozen BK271.out 7
                  have hfz41_8 := blk_frozen BK271.out 8
                  have hfz41_9 := blk_frozen BK271.out 9
                  have hfz41_10 := blk_frozen BK271.out 10
                  have hcz42_0 : wr.cell? ⟨gb272, 0, none⟩ = some (.int .u64 x273000_1) := (blk_cell BK272.out 0).trans rfl
                  have hcz42_1 : wr.cell? ⟨gb272, 1, none⟩ = some (.bool x273001_1) := (blk_cell BK272.out 1).trans rfl
                  have hfz42_0 := blk_frozen BK272.out 0
                  have hfz42_1 := blk_frozen BK272.out 1
                  go_wp2
                  refine bodyPost_ret (results_cell_row rfl _ _ gb272 36 #[.int .u64 0, .bool false] (0, 0) _ rfl (by (with_reducible repeat (first | refine blk_drewN ?_ _ | refine blk_drew ?_ | refine blk_alloc ?_ _)); refine blk_put (cs := #[.int .u64 0, .bool x273001_1]) ?_ 1 _ rfl; (with_reducible repeat (first | refine blk_drewN ?_ _ | refine blk_drew ?_ | refine blk_alloc ?_ _)); refine blk_put (cs := #[.int .u64 x273000_1, .bool x273001_1]) ?_ 0 _ rfl; (with_reducible repeat (first | refine blk_drewN ?_ _ | refine blk_drew ?_ | refine blk_alloc ?_ _)); exact BK272.out) Try.underlying36 rfl (by kernel_rfl)) rfl ?_
                  exact ⟨by first | rfl | (simp [errW_none, errW_some] <;> rfl) | (simp [*, errW_none, errW_some] <;> rfl), by repeat (first | (with_reducible first | exact HB.out | apply below_alloc | apply pw_below_drewN | apply below_drew1 | refine below_set ?_ GE271.out | refine below_set ?_ GE272.out) | exact HB.out)⟩
                · rw [if_neg c39] at H
                  have c39b0 : decide (a0_3 < 0) = false := decide_eq_false c39
                  clear c39
                  by_cases c43 : a0_3 ≥ 64
                  · rw [if_pos c43] at H
                    have c43b0 : decide (64 ≤ a0_3) = true := decide_eq_true c43
                    clear c43
                    simp only [Option.some.injEq, Prod.mk.injEq] at H
                    obtain ⟨rfl, rfl⟩ := H
                    have hnb44 := NB271_272.out
                    have hnc44 := NB272_271.out
                    have hcz45_0 : wr.cell? ⟨gb271, 0, none⟩ = some (.int .i64 a0_0) := (blk_cell BK271.out 0).trans rfl
                    have hcz45_1 : wr.cell? ⟨gb271, 1, none⟩ = some (.int .i64 a0_1) := (blk_cell BK271.out 1).trans rfl
                    have hcz45_2 : wr.cell? ⟨gb271, 2, none⟩ = some (.int .i64 a0_2) := (blk_cell BK271.out 2).trans rfl
                    have hcz45_3 : wr.cell? ⟨gb271, 3, none⟩ = some (.int .i64 a0_3) := (blk_cell BK271.out 3).trans rfl
                    have hcz45_4 : wr.cell? ⟨gb271, 4, none⟩ = some (.int .i64 a0_4) := (blk_cell BK271.out 4).trans rfl
                    have hcz45_5 : wr.cell? ⟨gb271, 5, none⟩ = some (.int .i64 a0_5) := (blk_cell BK271.out 5).trans rfl
                    have hcz45_6 : wr.cell? ⟨gb271, 6, none⟩ = some (.int .i64 a0_6) := (blk_cell BK271.out 6).trans rfl
                    have hcz45_7 : wr.cell? ⟨gb271, 7, none⟩ = some (.int .i64 a0_7) := (blk_cell BK271.out 7).trans rfl
                    have hcz45_8 : wr.cell? ⟨gb271, 8, none⟩ = some (.int .i64 a0_8) := (blk_cell BK271.out 8).trans rfl
                    have hcz45_9 : wr.cell? ⟨gb271, 9, none⟩ = some (.int .i64 a0_9) := (blk_cell BK271.out 9).trans rfl
                    have hcz45_10 : wr.cell? ⟨gb271, 10, none⟩ = some (.int .i64 a0_10) := (blk_cell BK271.out 10).trans rfl
                    have hfz45_0 := blk_frozen BK271.out 0
                    have hfz45_1 := blk_frozen BK271.out 1
                    have hfz45_2 := blk_frozen BK271.out 2
                    have hfz45_3 := blk_frozen BK271.out 3
                    have hfz45_4 := blk_frozen BK271.out 4
                    have hfz45_5 := blk_frozen BK271.out 5
                    have hfz45_6 := blk_frozen BK271.out 6
                    have hfz45_7 := blk_frozen BK271.out 7
                    have hfz45_8 := blk_frozen BK271.out 8
                    have hfz45_9 := blk_frozen BK271.out 9
                    have hfz45_10 := blk_frozen BK271.out 10
                    have hcz46_0 : wr.cell? ⟨gb272, 0, none⟩ = some (.int .u64 x273000_1) := (blk_cell BK272.out 0).trans rfl
                    have hcz46_1 : wr.cell? ⟨gb272, 1, none⟩ = some (.bool x273001_1) := (blk_cell BK272.out 1).trans rfl
                    have hfz46_0 := blk_frozen BK272.out 0
                    have hfz46_1 := blk_frozen BK272.out 1
                    go_wp2
                    refine bodyPost_ret (results_cell_row rfl _ _ gb272 36 #[.int .u64 0, .bool false] (0, 0) _ rfl (by (with_reducible repeat (first | refine blk_drewN ?_ _ | refine blk_drew ?_ | refine blk_alloc ?_ _)); refine blk_put (cs := #[.int .u64 0, .bool x273001_1]) ?_ 1 _ rfl; (with_reducible repeat (first | refine blk_drewN ?_ _ | refine blk_drew ?_ | refine blk_alloc ?_ _)); refine blk_put (cs := #[.int .u64 x273000_1, .bool x273001_1]) ?_ 0 _ rfl; (with_reducible repeat (first | refine blk_drewN ?_ _ | refine blk_drew ?_ | refine blk_alloc ?_ _)); exact BK272.out) Try.underlying36 rfl (by kernel_rfl)) rfl ?_
                    exact ⟨by first | rfl | (simp [errW_none, errW_some] <;> rfl) | (simp [*, errW_none, errW_some] <;> rfl), by repeat (first | (with_reducible first | exact HB.out | apply below_alloc | apply pw_below_drewN | apply below_drew1 | refine below_set ?_ GE271.out | refine below_set ?_ GE272.out) | exact HB.out)⟩
                  · rw [if_neg c43] at H
                    have c43b0 : decide (64 ≤ a0_3) = false := decide_eq_false c43
                    clear c43
                    have H' := Aside0.mk H
                    clear H
                    have hnb47 := NB271_272.out
                    have hnc47 := NB272_271.out
                    have hcz48_0 : wr.cell? ⟨gb271, 0, none⟩ = some (.int .i64 a0_0) := (blk_cell BK271.out 0).trans rfl
                    have hcz48_1 : wr.cell? ⟨gb271, 1, none⟩ = some (.int .i64 a0_1) := (blk_cell BK271.out 1).trans rfl
                    have hcz48_2 : wr.cell? ⟨gb271, 2, none⟩ = some (.int .i64 a0_2) := (blk_cell BK271.out 2).trans rfl
                    have hcz48_3 : wr.cell? ⟨gb271, 3, none⟩ = some (.int .i64 a0_3) := (blk_cell BK271.out 3).trans rfl
                    have hcz48_4 : wr.cell? ⟨gb271, 4, none⟩ = some (.int .i64 a0_4) := (blk_cell BK271.out 4).trans rfl
                    have hcz48_5 : wr.cell? ⟨gb271, 5, none⟩ = some (.int .i64 a0_5) := (blk_cell BK271.out 5).trans rfl
                    have hcz48_6 : wr.cell? ⟨gb271, 6, none⟩ = some (.int .i64 a0_6) := (blk_cell BK271.out 6).trans rfl
                    have hcz48_7 : wr.cell? ⟨gb271, 7, none⟩ = some (.int .i64 a0_7) := (blk_cell BK271.out 7).trans rfl
                    have hcz48_8 : wr.cell? ⟨gb271, 8, none⟩ = some (.int .i64 a0_8) := (blk_cell BK271.out 8).trans rfl
                    have hcz48_9 : wr.cell? ⟨gb271, 9, none⟩ = some (.int .i64 a0_9) := (blk_cell BK271.out 9).trans rfl
                    have hcz48_10 : wr.cell? ⟨gb271, 10, none⟩ = some (.int .i64 a0_10) := (blk_cell BK271.out 10).trans rfl
                    have hfz48_0 := blk_frozen BK271.out 0
                    have hfz48_1 := blk_frozen BK271.out 1
                    have hfz48_2 := blk_frozen BK271.out 2
                    have hfz48_3 := blk_frozen BK271.out 3
                    have hfz48_4 := blk_frozen BK271.out 4
                    have hfz48_5 := blk_frozen BK271.out 5
                    have hfz48_6 := blk_frozen BK271.out 6
                    have hfz48_7 := blk_frozen BK271.out 7
                    have hfz48_8 := blk_frozen BK271.out 8
                    have hfz48_9 := blk_frozen BK271.out 9
                    have hfz48_10 := blk_frozen BK271.out 10
                    go_wp2
                    go_roundg k1
                    case measure => have := HK1.out; omega
                    case rel => exact ⟨(IntKind.u64.wrap ((IntKind.u64.wrap (x3_1 * 64)) + (IntKind.u64.wrap (a0_3)))), (wrap64 ((3 : Int) - 1)), (x273000_1), (x273001_1), (by first | rfl | (simp; done) | (simp [*]; done) | (simp; decide +kernel)), (by first | rfl | (simp; done) | (simp [*]; done) | (simp; decide +kernel)), H', ⟨by have := HK1.out; omega⟩, ⟨by (with_reducible repeat (first | refine blk_drewN ?_ _ | refine blk_drew ?_ | refine blk_alloc ?_ _)); exact BK271.out⟩, ⟨by (with_reducible repeat (first | refine blk_drewN ?_ _ | refine blk_drew ?_ | refine blk_alloc ?_ _)); exact BK272.out⟩, ⟨by repeat (first | (with_reducible first | exact HB.out | apply below_alloc | apply pw_below_drewN | apply below_drew1 | refine below_set ?_ GE271.out | refine below_set ?_ GE272.out) | exact HB.out)⟩⟩
              · rw [if_neg c38] at H
                clear c38
                by_cases c49 : x4_1 = 4
                · subst c49
                  rw [if_pos rfl] at H
                  by_cases c50 : a0_4 < 0
                  · rw [if_pos c50] at H
                    have c50b0 : decide (a0_4 < 0) = true := decide_eq_true c50
                    clear c50
                    simp only [Option.some.injEq, Prod.mk.injEq] at H
                    obtain ⟨rfl, rfl⟩ := H
                    have hnb51 := NB271_272.out
                    have hnc51 := NB272_271.out
                    have hcz52_0 : wr.cell? ⟨gb271, 0, none⟩ = some (.int .i64 a0_0) := (blk_cell BK271.out 0).trans rfl
                    have hcz52_1 : wr.cell? ⟨gb271, 1, none⟩ = some (.int .i64 a0_1) := (blk_cell BK271.out 1).trans rfl
                    have hcz52_2 : wr.cell? ⟨gb271, 2, none⟩ = some (.int .i64 a0_2) := (blk_cell BK271.out 2).trans rfl
                    have hcz52_3 : wr.cell? ⟨gb271, 3, none⟩ = some (.int .i64 a0_3) := (blk_cell BK271.out 3).trans rfl
                    have hcz52_4 : wr.cell? ⟨gb271, 4, none⟩ = some (.int .i64 a0_4) := (blk_cell BK271.out 4).trans rfl
                    have hcz52_5 : wr.cell? ⟨gb271, 5, none⟩ = some (.int .i64 a0_5) := (blk_cell BK271.out 5).trans rfl
                    have hcz52_6 : wr.cell? ⟨gb271, 6, none⟩ = some (.int .i64 a0_6) := (blk_cell BK271.out 6).trans rfl
                    have hcz52_7 : wr.cell? ⟨gb271, 7, none⟩ = some (.int .i64 a0_7) := (blk_cell BK271.out 7).trans rfl
                    have hcz52_8 : wr.cell? ⟨gb271, 8, none⟩ = some (.int .i64 a0_8) := (blk_cell BK271.out 8).trans rfl
                    have hcz52_9 : wr.cell? ⟨gb271, 9, none⟩ = some (.int .i64 a0_9) := (blk_cell BK271.out 9).trans rfl
                    have hcz52_10 : wr.cell? ⟨gb271, 10, none⟩ = some (.int .i64 a0_10) := (blk_cell BK271.out 10).trans rfl
                    have hfz52_0 := blk_frozen BK271.out 0
                    have hfz52_1 := blk_frozen BK271.out 1
                    have hfz52_2 := blk_frozen BK271.out 2
                    have hfz52_3 := blk_frozen BK271.out 3
                    have hfz52_4 := blk_frozen BK271.out 4
                    have hfz52_5 := blk_frozen BK271.out 5
                    have hfz52_6 := blk_frozen BK271.out 6
                    have hfz52_7 := blk_frozen BK271.out 7
                    have hfz52_8 := blk_frozen BK271.out 8
                    have hfz52_9 := blk_frozen BK271.out 9
                    have hfz52_10 := blk_frozen BK271.out 10
                    have hcz53_0 : wr.cell? ⟨gb272, 0, none⟩ = some (.int .u64 x273000_1) := (blk_cell BK272.out 0).trans rfl
                    have hcz53_1 : wr.cell? ⟨gb272, 1, none⟩ = some (.bool x273001_1) := (blk_cell BK272.out 1).trans rfl
                    have hfz53_0 := blk_frozen BK272.out 0
                    have hfz53_1 := blk_frozen BK272.out 1
                    go_wp2
                    refine bodyPost_ret (results_cell_row rfl _ _ gb272 36 #[.int .u64 0, .bool false] (0, 0) _ rfl (by (with_reducible repeat (first | refine blk_drewN ?_ _ | refine blk_drew ?_ | refine blk_alloc ?_ _)); refine blk_put (cs := #[.int .u64 0, .bool x273001_1]) ?_ 1 _ rfl; (with_reducible repeat (first | refine blk_drewN ?_ _ | refine blk_drew ?_ | refine blk_alloc ?_ _)); refine blk_put (cs := #[.int .u64 x273000_1, .bool x273001_1]) ?_ 0 _ rfl; (with_reducible repeat (first | refine blk_drewN ?_ _ | refine blk_drew ?_ | refine blk_alloc ?_ _)); exact BK272.out) Try.underlying36 rfl (by kernel_rfl)) rfl ?_
                    exact ⟨by first | rfl | (simp [errW_none, errW_some] <;> rfl) | (simp [*, errW_none, errW_some] <;> rfl), by repeat (first | (with_reducible first | exact HB.out | apply below_alloc | apply pw_below_drewN | apply below_drew1 | refine below_set ?_ GE271.out | refine below_set ?_ GE272.out) | exact HB.out)⟩
                  · rw [if_neg c50] at H
                    have c50b0 : decide (a0_4 < 0) = false := decide_eq_false c50
                    clear c50
                    by_cases c54 : a0_4 ≥ 64
                    · rw [if_pos c54] at H
                      have c54b0 : decide (64 ≤ a0_4) = true := decide_eq_true c54
                      clear c54
                      simp only [Option.some.injEq, Prod.mk.injEq] at H
                      obtain ⟨rfl, rfl⟩ := H
                      have hnb55 := NB271_272.out
                      have hnc55 := NB272_271.out
                      have hcz56_0 : wr.cell? ⟨gb271, 0, none⟩ = some (.int .i64 a0_0) := (blk_cell BK271.out 0).trans rfl
                      have hcz56_1 : wr.cell? ⟨gb271, 1, none⟩ = some (.int .i64 a0_1) := (blk_cell BK271.out 1).trans rfl
                      have hcz56_2 : wr.cell? ⟨gb271, 2, none⟩ = some (.int .i64 a0_2) := (blk_cell BK271.out 2).trans rfl
                      have hcz56_3 : wr.cell? ⟨gb271, 3, none⟩ = some (.int .i64 a0_3) := (blk_cell BK271.out 3).trans rfl
                      have hcz56_4 : wr.cell? ⟨gb271, 4, none⟩ = some (.int .i64 a0_4) := (blk_cell BK271.out 4).trans rfl
                      have hcz56_5 : wr.cell? ⟨gb271, 5, none⟩ = some (.int .i64 a0_5) := (blk_cell BK271.out 5).trans rfl
                      have hcz56_6 : wr.cell? ⟨gb271, 6, none⟩ = some (.int .i64 a0_6) := (blk_cell BK271.out 6).trans rfl
                      have hcz56_7 : wr.cell? ⟨gb271, 7, none⟩ = some (.int .i64 a0_7) := (blk_cell BK271.out 7).trans rfl
                      have hcz56_8 : wr.cell? ⟨gb271, 8, none⟩ = some (.int .i64 a0_8) := (blk_cell BK271.out 8).trans rfl
                      have hcz56_9 : wr.cell? ⟨gb271, 9, none⟩ = some (.int .i64 a0_9) := (blk_cell BK271.out 9).trans rfl
                      have hcz56_10 : wr.cell? ⟨gb271, 10, none⟩ = some (.int .i64 a0_10) := (blk_cell BK271.out 10).trans rfl
                      have hfz56_0 := blk_frozen BK271.out 0
                      have hfz56_1 := blk_frozen BK271.out 1
                      have hfz56_2 := blk_frozen BK271.out 2
                      have hfz56_3 := blk_frozen BK271.out 3
                      have hfz56_4 := blk_frozen BK271.out 4
                      have hfz56_5 := blk_frozen BK271.out 5
                      have hfz56_6 := blk_frozen BK271.out 6
                      have hfz56_7 := blk_frozen BK271.out 7
                      have hfz56_8 := blk_frozen BK271.out 8
                      have hfz56_9 := blk_frozen BK271.out 9
                      have hfz56_10 := blk_frozen BK271.out 10
                      have hcz57_0 : wr.cell? ⟨gb272, 0, none⟩ = some (.int .u64 x273000_1) := (blk_cell BK272.out 0).trans rfl
                      have hcz57_1 : wr.cell? ⟨gb272, 1, none⟩ = some (.bool x273001_1) := (blk_cell BK272.out 1).trans rfl
                      have hfz57_0 := blk_frozen BK272.out 0
                      have hfz57_1 := blk_frozen BK272.out 1
                      go_wp2
                      refine bodyPost_ret (results_cell_row rfl _ _ gb272 36 #[.int .u64 0, .bool false] (0, 0) _ rfl (by (with_reducible repeat (first | refine blk_drewN ?_ _ | refine blk_drew ?_ | refine blk_alloc ?_ _)); refine blk_put (cs := #[.int .u64 0, .bool x273001_1]) ?_ 1 _ rfl; (with_reducible repeat (first | refine blk_drewN ?_ _ | refine blk_drew ?_ | refine blk_alloc ?_ _)); refine blk_put (cs := #[.int .u64 x273000_1, .bool x273001_1]) ?_ 0 _ rfl; (with_reducible repeat (first | refine blk_drewN ?_ _ | refine blk_drew ?_ | refine blk_alloc ?_ _)); exact BK272.out) Try.underlying36 rfl (by kernel_rfl)) rfl ?_
                      exact ⟨by first | rfl | (simp [errW_none, errW_some] <;> rfl) | (simp [*, errW_none, errW_some] <;> rfl), by repeat (first | (with_reducible first | exact HB.out | apply below_alloc | apply pw_below_drewN | apply below_drew1 | refine below_set ?_ GE271.out | refine below_set ?_ GE272.out) | exact HB.out)⟩
                    · rw [if_neg c54] at H
                      have c54b0 : decide (64 ≤ a0_4) = false := decide_eq_false c54
                      clear c54
                      have H' := Aside0.mk H
                      clear H
                      have hnb58 := NB271_272.out
                      have hnc58 := NB272_271.out
                      have hcz59_0 : wr.cell? ⟨gb271, 0, none⟩ = some (.int .i64 a0_0) := (blk_cell BK271.out 0).trans rfl
                      have hcz59_1 : wr.cell? ⟨gb271, 1, none⟩ = some (.int .i64 a0_1) := (blk_cell BK271.out 1).trans rfl
                      have hcz59_2 : wr.cell? ⟨gb271, 2, none⟩ = some (.int .i64 a0_2) := (blk_cell BK271.out 2).trans rfl
                      have hcz59_3 : wr.cell? ⟨gb271, 3, none⟩ = some (.int .i64 a0_3) := (blk_cell BK271.out 3).trans rfl
                      have hcz59_4 : wr.cell? ⟨gb271, 4, none⟩ = some (.int .i64 a0_4) := (blk_cell BK271.out 4).trans rfl
                      have hcz59_5 : wr.cell? ⟨gb271, 5, none⟩ = some (.int .i64 a0_5) := (blk_cell BK271.out 5).trans rfl
                      have hcz59_6 : wr.cell? ⟨gb271, 6, none⟩ = some (.int .i64 a0_6) := (blk_cell BK271.out 6).trans rfl
                      have hcz59_7 : wr.cell? ⟨gb271, 7, none⟩ = some (.int .i64 a0_7) := (blk_cell BK271.out 7).trans rfl
                      have hcz59_8 : wr.cell? ⟨gb271, 8, none⟩ = some (.int .i64 a0_8) := (blk_cell BK271.out 8).trans rfl
                      have hcz59_9 : wr.cell? ⟨gb271, 9, none⟩ = some (.int .i64 a0_9) := (blk_cell BK271.out 9).trans rfl
                      have hcz59_10 : wr.cell? ⟨gb271, 10, none⟩ = some (.int .i64 a0_10) := (blk_cell BK271.out 10).trans rfl
                      have hfz59_0 := blk_frozen BK271.out 0
                      have hfz59_1 := blk_frozen BK271.out 1
                      have hfz59_2 := blk_frozen BK271.out 2
                      have hfz59_3 := blk_frozen BK271.out 3
                      have hfz59_4 := blk_frozen BK271.out 4
                      have hfz59_5 := blk_frozen BK271.out 5
                      have hfz59_6 := blk_frozen BK271.out 6
                      have hfz59_7 := blk_frozen BK271.out 7
                      have hfz59_8 := blk_frozen BK271.out 8
                      have hfz59_9 := blk_frozen BK271.out 9
                      have hfz59_10 := blk_frozen BK271.out 10
                      go_wp2
                      go_roundg k1
                      case measure => have := HK1.out; omega
                      case rel => exact ⟨(IntKind.u64.wrap ((IntKind.u64.wrap (x3_1 * 64)) + (IntKind.u64.wrap (a0_4)))), (wrap64 ((4 : Int) - 1)), (x273000_1), (x273001_1), (by first | rfl | (simp; done) | (simp [*]; done) | (simp; decide +kernel)), (by first | rfl | (simp; done) | (simp [*]; done) | (simp; decide +kernel)), H', ⟨by have := HK1.out; omega⟩, ⟨by (with_reducible repeat (first | refine blk_drewN ?_ _ | refine blk_drew ?_ | refine blk_alloc ?_ _)); exact BK271.out⟩, ⟨by (with_reducible repeat (first | refine blk_drewN ?_ _ | refine blk_drew ?_ | refine blk_alloc ?_ _)); exact BK272.out⟩, ⟨by repeat (first | (with_reducible first | exact HB.out | apply below_alloc | apply pw_below_drewN | apply below_drew1 | refine below_set ?_ GE271.out | refine below_set ?_ GE272.out) | exact HB.out)⟩⟩
                · rw [if_neg c49] at H
                  clear c49
                  by_cases c60 : x4_1 = 5
                  · subst c60
                    rw [if_pos rfl] at H
                    by_cases c61 : a0_5 < 0
                    · rw [if_pos c61] at H
                      have c61b0 : decide (a0_5 < 0) = true := decide_eq_true c61
                      clear c61
                      simp only [Option.some.injEq, Prod.mk.injEq] at H
                      obtain ⟨rfl, rfl⟩ := H
                      have hnb62 := NB271_272.out
                      have hnc62 := NB272_271.out
                      have hcz63_0 : wr.cell? ⟨gb271, 0, none⟩ = some (.int .i64 a0_0) := (blk_cell BK271.out 0).trans rfl
                      have hcz63_1 : wr.cell? ⟨gb271, 1, none⟩ = some (.int .i64 a0_1) := (blk_cell BK271.out 1).trans rfl
                      have hcz63_2 : wr.cell? ⟨gb271, 2, none⟩ = some (.int .i64 a0_2) := (blk_cell BK271.out 2).trans rfl
                      have hcz63_3 : wr.cell? ⟨gb271, 3, none⟩ = some (.int .i64 a0_3) := (blk_cell BK271.out 3).trans rfl
                      have hcz63_4 : wr.cell? ⟨gb271, 4, none⟩ = some (.int .i64 a0_4) := (blk_cell BK271.out 4).trans rfl
                      have hcz63_5 : wr.cell? ⟨gb271, 5, none⟩ = some (.int .i64 a0_5) := (blk_cell BK271.out 5).trans rfl
                      have hcz63_6 : wr.cell? ⟨gb271, 6, none⟩ = some (.int .i64 a0_6) := (blk_cell BK271.out 6).trans rfl
                      have hcz63_7 : wr.cell? ⟨gb271, 7, none⟩ = some (.int .i64 a0_7) := (blk_cell BK271.out 7).trans rfl
                      have hcz63_8 : wr.cell? ⟨gb271, 8, none⟩ = some (.int .i64 a0_8) := (blk_cell BK271.out 8).trans rfl
                      have hcz63_9 : wr.cell? ⟨gb271, 9, none⟩ = some (.int .i64 a0_9) := (blk_cell BK271.out 9).trans rfl
                      have hcz63_10 : wr.cell? ⟨gb271, 10, none⟩ = some (.int .i64 a0_10) := (blk_cell BK271.out 10).trans rfl
                      have hfz63_0 := blk_frozen BK271.out 0
                      have hfz63_1 := blk_frozen BK271.out 1
                      have hfz63_2 := blk_frozen BK271.out 2
                      have hfz63_3 := blk_frozen BK271.out 3
                      have hfz63_4 := blk_frozen BK271.out 4
                      have hfz63_5 := blk_frozen BK271.out 5
                      have hfz63_6 := blk_frozen BK271.out 6
                      have hfz63_7 := blk_frozen BK271.out 7
                      have hfz63_8 := blk_frozen BK271.out 8
                      have hfz63_9 := blk_frozen BK271.out 9
                      have hfz63_10 := blk_frozen BK271.out 10
                      have hcz64_0 : wr.cell? ⟨gb272, 0, none⟩ = some (.int .u64 x273000_1) := (blk_cell BK272.out 0).trans rfl
                      have hcz64_1 : wr.cell? ⟨gb272, 1, none⟩ = some (.bool x273001_1) := (blk_cell BK272.out 1).trans rfl
                      have hfz64_0 := blk_frozen BK272.out 0
                      have hfz64_1 := blk_frozen BK272.out 1
                      go_wp2
                      refine bodyPost_ret (results_cell_row rfl _ _ gb272 36 #[.int .u64 0, .bool false] (0, 0) _ rfl (by (with_reducible repeat (first | refine blk_drewN ?_ _ | refine blk_drew ?_ | refine blk_alloc ?_ _)); refine blk_put (cs := #[.int .u64 0, .bool x273001_1]) ?_ 1 _ rfl; (with_reducible repeat (first | refine blk_drewN ?_ _ | refine blk_drew ?_ | refine blk_alloc ?_ _)); refine blk_put (cs := #[.int .u64 x273000_1, .bool x273001_1]) ?_ 0 _ rfl; (with_reducible repeat (first | refine blk_drewN ?_ _ | refine blk_drew ?_ | refine blk_alloc ?_ _)); exact BK272.out) Try.underlying36 rfl (by kernel_rfl)) rfl ?_
                      exact ⟨by first | rfl | (simp [errW_none, errW_some] <;> rfl) | (simp [*, errW_none, errW_some] <;> rfl), by repeat (first | (with_reducible first | exact HB.out | apply below_alloc | apply pw_below_drewN | apply below_drew1 | refine below_set ?_ GE271.out | refine below_set ?_ GE272.out) | exact HB.out)⟩
                    · rw [if_neg c61] at H
                      have c61b0 : decide (a0_5 < 0) = false := decide_eq_false c61
                      clear c61
                      by_cases c65 : a0_5 ≥ 64
                      · rw [if_pos c65] at H
                        have c65b0 : decide (64 ≤ a0_5) = true := decide_eq_true c65
                        clear c65
                        simp only [Option.some.injEq, Prod.mk.injEq] at H
                        obtain ⟨rfl, rfl⟩ := H
                        have hnb66 := NB271_272.out
                        have hnc66 := NB272_271.out
                        have hcz67_0 : wr.cell? ⟨gb271, 0, none⟩ = some (.int .i64 a0_0) := (blk_cell BK271.out 0).trans rfl
                        have hcz67_1 : wr.cell? ⟨gb271, 1, none⟩ = some (.int .i64 a0_1) := (blk_cell BK271.out 1).trans rfl
                        have hcz67_2 : wr.cell? ⟨gb271, 2, none⟩ = some (.int .i64 a0_2) := (blk_cell BK271.out 2).trans rfl
                        have hcz67_3 : wr.cell? ⟨gb271, 3, none⟩ = some (.int .i64 a0_3) := (blk_cell BK271.out 3).trans rfl
                        have hcz67_4 : wr.cell? ⟨gb271, 4, none⟩ = some (.int .i64 a0_4) := (blk_cell BK271.out 4).trans rfl
                        have hcz67_5 : wr.cell? ⟨gb271, 5, none⟩ = some (.int .i64 a0_5) := (blk_cell BK271.out 5).trans rfl
                        have hcz67_6 : wr.cell? ⟨gb271, 6, none⟩ = some (.int .i64 a0_6) := (blk_cell BK271.out 6).trans rfl
                        have hcz67_7 : wr.cell? ⟨gb271, 7, none⟩ = some (.int .i64 a0_7) := (blk_cell BK271.out 7).trans rfl
                        have hcz67_8 : wr.cell? ⟨gb271, 8, none⟩ = some (.int .i64 a0_8) := (blk_cell BK271.out 8).trans rfl
                        have hcz67_9 : wr.cell? ⟨gb271, 9, none⟩ = some (.int .i64 a0_9) := (blk_cell BK271.out 9).trans rfl
                        have hcz67_10 : wr.cell? ⟨gb271, 10, none⟩ = some (.int .i64 a0_10) := (blk_cell BK271.out 10).trans rfl
                        have hfz67_0 := blk_frozen BK271.out 0
                        have hfz67_1 := blk_frozen BK271.out 1
                        have hfz67_2 := blk_frozen BK271.out 2
                        have hfz67_3 := blk_frozen BK271.out 3
                        have hfz67_4 := blk_frozen BK271.out 4
                        have hfz67_5 := blk_frozen BK271.out 5
                        have hfz67_6 := blk_frozen BK271.out 6
                        have hfz67_7 := blk_frozen BK271.out 7
                        have hfz67_8 := blk_frozen BK271.out 8
                        have hfz67_9 := blk_frozen BK271.out 9
                        have hfz67_10 := blk_frozen BK271.out 10
                        have hcz68_0 : wr.cell? ⟨gb272, 0, none⟩ = some (.int .u64 x273000_1) := (blk_cell BK272.out 0).trans rfl
                        have hcz68_1 : wr.cell? ⟨gb272, 1, none⟩ = some (.bool x273001_1) := (blk_cell BK272.out 1).trans rfl
                        have hfz68_0 := blk_frozen BK272.out 0
                        have hfz68_1 := blk_frozen BK272.out 1
                        go_wp2
                        refine bodyPost_ret (results_cell_row rfl _ _ gb272 36 #[.int .u64 0, .bool false] (0, 0) _ rfl (by (with_reducible repeat (first | refine blk_drewN ?_ _ | refine blk_drew ?_ | refine blk_alloc ?_ _)); refine blk_put (cs := #[.int .u64 0, .bool x273001_1]) ?_ 1 _ rfl; (with_reducible repeat (first | refine blk_drewN ?_ _ | refine blk_drew ?_ | refine blk_alloc ?_ _)); refine blk_put (cs := #[.int .u64 x273000_1, .bool x273001_1]) ?_ 0 _ rfl; (with_reducible repeat (first | refine blk_drewN ?_ _ | refine blk_drew ?_ | refine blk_alloc ?_ _)); exact BK272.out) Try.underlying36 rfl (by kernel_rfl)) rfl ?_
                        exact ⟨by first | rfl | (simp [errW_none, errW_some] <;> rfl) | (simp [*, errW_none, errW_some] <;> rfl), by repeat (first | (with_reducible first | exact HB.out | apply below_alloc | apply pw_below_drewN | apply below_drew1 | refine below_set ?_ GE271.out | refine below_set ?_ GE272.out) | exact HB.out)⟩
                      · rw [if_neg c65] at H
                        have c65b0 : decide (64 ≤ a0_5) = false := decide_eq_false c65
                        clear c65
                        have H' := Aside0.mk H
                        clear H
                        have hnb69 := NB271_272.out
                        have hnc69 := NB272_271.out
                        have hcz70_0 : wr.cell? ⟨gb271, 0, none⟩ = some (.int .i64 a0_0) := (blk_cell BK271.out 0).trans rfl
                        have hcz70_1 : wr.cell? ⟨gb271, 1, none⟩ = some (.int .i64 a0_1) := (blk_cell BK271.out 1).trans rfl
                        have hcz70_2 : wr.cell? ⟨gb271, 2, none⟩ = some (.int .i64 a0_2) := (blk_cell BK271.out 2).trans rfl
                        have hcz70_3 : wr.cell? ⟨gb271, 3, none⟩ = some (.int .i64 a0_3) := (blk_cell BK271.out 3).trans rfl
                        have hcz70_4 : wr.cell? ⟨gb271, 4, none⟩ = some (.int .i64 a0_4) := (blk_cell BK271.out 4).trans rfl
                        have hcz70_5 : wr.cell? ⟨gb271, 5, none⟩ = some (.int .i64 a0_5) := (blk_cell BK271.out 5).trans rfl
                        have hcz70_6 : wr.cell? ⟨gb271, 6, none⟩ = some (.int .i64 a0_6) := (blk_cell BK271.out 6).trans rfl
                        have hcz70_7 : wr.cell? ⟨gb271, 7, none⟩ = some (.int .i64 a0_7) := (blk_cell BK271.out 7).trans rfl
                        have hcz70_8 : wr.cell? ⟨gb271, 8, none⟩ = some (.int .i64 a0_8) := (blk_cell BK271.out 8).trans rfl
                        have hcz70_9 : wr.cell? ⟨gb271, 9, none⟩ = some (.int .i64 a0_9) := (blk_cell BK271.out 9).trans rfl
                        have hcz70_10 : wr.cell? ⟨gb271, 10, none⟩ = some (.int .i64 a0_10) := (blk_cell BK271.out 10).trans rfl
                        have hfz70_0 := blk_frozen BK271.out 0
                        have hfz70_1 := blk_frozen BK271.out 1
                        have hfz70_2 := blk_frozen BK271.out 2
                        have hfz70_3 := blk_frozen BK271.out 3
                        have hfz70_4 := blk_frozen BK271.out 4
                        have hfz70_5 := blk_frozen BK271.out 5
                        have hfz70_6 := blk_frozen BK271.out 6
                        have hfz70_7 := blk_frozen BK271.out 7
                        have hfz70_8 := blk_frozen BK271.out 8
                        have hfz70_9 := blk_frozen BK271.out 9
                        have hfz70_10 := blk_frozen BK271.out 10
                        go_wp2
                        go_roundg k1
                        case measure => have := HK1.out; omega
                        case rel => exact ⟨(IntKind.u64.wrap ((IntKind.u64.wrap (x3_1 * 64)) + (IntKind.u64.wrap (a0_5)))), (wrap64 ((5 : Int) - 1)), (x273000_1), (x273001_1), (by first | rfl | (simp; done) | (simp [*]; done) | (simp; decide +kernel)), (by first | rfl | (simp; done) | (simp [*]; done) | (simp; decide +kernel)), H', ⟨by have := HK1.out; omega⟩, ⟨by (with_reducible repeat (first | refine blk_drewN ?_ _ | refine blk_drew ?_ | refine blk_alloc ?_ _)); exact BK271.out⟩, ⟨by (with_reducible repeat (first | refine blk_drewN ?_ _ | refine blk_drew ?_ | refine blk_alloc ?_ _)); exact BK272.out⟩, ⟨by repeat (first | (with_reducible first | exact HB.out | apply below_alloc | apply pw_below_drewN | apply below_drew1 | refine below_set ?_ GE271.out | refine below_set ?_ GE272.out) | exact HB.out)⟩⟩
                  · rw [if_neg c60] at H
                    clear c60
                    by_cases c71 : x4_1 = 6
                    · subst c71
                      rw [if_pos rfl] at H
                      by_cases c72 : a0_6 < 0
                      · rw [if_pos c72] at H
                        have c72b0 : decide (a0_6 < 0) = true := decide_eq_true c72
                        clear c72
                        simp only [Option.some.injEq, Prod.mk.injEq] at H
                        obtain ⟨rfl, rfl⟩ := H
                        have hnb73 := NB271_272.out
                        have hnc73 := NB272_271.out
                        have hcz74_0 : wr.cell? ⟨gb271, 0, none⟩ = some (.int .i64 a0_0) := (blk_cell BK271.out 0).trans rfl
                        have hcz74_1 : wr.cell? ⟨gb271, 1, none⟩ = some (.int .i64 a0_1) := (blk_cell BK271.out 1).trans rfl
                        have hcz74_2 : wr.cell? ⟨gb271, 2, none⟩ = some (.int .i64 a0_2) := (blk_cell BK271.out 2).trans rfl
                        have hcz74_3 : wr.cell? ⟨gb271, 3, none⟩ = some (.int .i64 a0_3) := (blk_cell BK271.out 3).trans rfl
                        have hcz74_4 : wr.cell? ⟨gb271, 4, none⟩ = some (.int .i64 a0_4) := (blk_cell BK271.out 4).trans rfl
                        have hcz74_5 : wr.cell? ⟨gb271, 5, none⟩ = some (.int .i64 a0_5) := (blk_cell BK271.out 5).trans rfl
                        have hcz74_6 : wr.cell? ⟨gb271, 6, none⟩ = some (.int .i64 a0_6) := (blk_cell BK271.out 6).trans rfl
                        have hcz74_7 : wr.cell? ⟨gb271, 7, none⟩ = some (.int .i64 a0_7) := (blk_cell BK271.out 7).trans rfl
                        have hcz74_8 : wr.cell? ⟨gb271, 8, none⟩ = some (.int .i64 a0_8) := (blk_cell BK271.out 8).trans rfl
                        have hcz74_9 : wr.cell? ⟨gb271, 9, none⟩ = some (.int .i64 a0_9) := (blk_cell BK271.out 9).trans rfl
                        have hcz74_10 : wr.cell? ⟨gb271, 10, none⟩ = some (.int .i64 a0_10) := (blk_cell BK271.out 10).trans rfl
                        have hfz74_0 := blk_frozen BK271.out 0
                        have hfz74_1 := blk_frozen BK271.out 1
                        have hfz74_2 := blk_frozen BK271.out 2
                        have hfz74_3 := blk_frozen BK271.out 3
                        have hfz74_4 := blk_frozen BK271.out 4
                        have hfz74_5 := blk_frozen BK271.out 5
                        have hfz74_6 := blk_frozen BK271.out 6
                        have hfz74_7 := blk_frozen BK271.out 7
                        have hfz74_8 := blk_frozen BK271.out 8
                        have hfz74_9 := blk_frozen BK271.out 9
                        have hfz74_10 := blk_frozen BK271.out 10
                        have hcz75_0 : wr.cell? ⟨gb272, 0, none⟩ = some (.int .u64 x273000_1) := (blk_cell BK272.out 0).trans rfl
                        have hcz75_1 : wr.cell? ⟨gb272, 1, none⟩ = some (.bool x273001_1) := (blk_cell BK272.out 1).trans rfl
                        have hfz75_0 := blk_frozen BK272.out 0
                        have hfz75_1 := blk_frozen BK272.out 1
                        go_wp2
                        refine bodyPost_ret (results_cell_row rfl _ _ gb272 36 #[.int .u64 0, .bool false] (0, 0) _ rfl (by (with_reducible repeat (first | refine blk_drewN ?_ _ | refine blk_drew ?_ | refine blk_alloc ?_ _)); refine blk_put (cs := #[.int .u64 0, .bool x273001_1]) ?_ 1 _ rfl; (with_reducible repeat (first | refine blk_drewN ?_ _ | refine blk_drew ?_ | refine blk_alloc ?_ _)); refine blk_put (cs := #[.int .u64 x273000_1, .bool x273001_1]) ?_ 0 _ rfl; (with_reducible repeat (first | refine blk_drewN ?_ _ | refine blk_drew ?_ | refine blk_alloc ?_ _)); exact BK272.out) Try.underlying36 rfl (by kernel_rfl)) rfl ?_
                        exact ⟨by first | rfl | (simp [errW_none, errW_some] <;> rfl) | (simp [*, errW_none, errW_some] <;> rfl), by repeat (first | (with_reducible first | exact HB.out | apply below_alloc | apply pw_below_drewN | apply below_drew1 | refine below_set ?_ GE271.out | refine below_set ?_ GE272.out) | exact HB.out)⟩
                      · rw [if_neg c72] at H
                        have c72b0 : decide (a0_6 < 0) = false := decide_eq_false c72
                        clear c72
                        by_cases c76 : a0_6 ≥ 64
                        · rw [if_pos c76] at H
                          have c76b0 : decide (64 ≤ a0_6) = true := decide_eq_true c76
                          clear c76
                          simp only [Option.some.injEq, Prod.mk.injEq] at H
                          obtain ⟨rfl, rfl⟩ := H
                          have hnb77 := NB271_272.out
                          have hnc77 := NB272_271.out
                          have hcz78_0 : wr.cell? ⟨gb271, 0, none⟩ = some (.int .i64 a0_0) := (blk_cell BK271.out 0).trans rfl
                          have hcz78_1 : wr.cell? ⟨gb271, 1, none⟩ = some (.int .i64 a0_1) := (blk_cell BK271.out 1).trans rfl
                          have hcz78_2 : wr.cell? ⟨gb271, 2, none⟩ = some (.int .i64 a0_2) := (blk_cell BK271.out 2).trans rfl
                          have hcz78_3 : wr.cell? ⟨gb271, 3, none⟩ = some (.int .i64 a0_3) := (blk_cell BK271.out 3).trans rfl
                          have hcz78_4 : wr.cell? ⟨gb271, 4, none⟩ = some (.int .i64 a0_4) := (blk_cell BK271.out 4).trans rfl
                          have hcz78_5 : wr.cell? ⟨gb271, 5, none⟩ = some (.int .i64 a0_5) := (blk_cell BK271.out 5).trans rfl
                          have hcz78_6 : wr.cell? ⟨gb271, 6, none⟩ = some (.int .i64 a0_6) := (blk_cell BK271.out 6).trans rfl
                          have hcz78_7 : wr.cell? ⟨gb271, 7, none⟩ = some (.int .i64 a0_7) := (blk_cell BK271.out 7).trans rfl
                          have hcz78_8 : wr.cell? ⟨gb271, 8, none⟩ = some (.int .i64 a0_8) := (blk_cell BK271.out 8).trans rfl
                          have hcz78_9 : wr.cell? ⟨gb271, 9, none⟩ = some (.int .i64 a0_9) := (blk_cell BK271.out 9).trans rfl
                          have hcz78_10 : wr.cell? ⟨gb271, 10, none⟩ = some (.int .i64 a0_10) := (blk_cell BK271.out 10).trans rfl
                          have hfz78_0 := blk_frozen BK271.out 0
                          have hfz78_1 := blk_frozen BK271.out 1
                          have hfz78_2 := blk_frozen BK271.out 2
                          have hfz78_3 := blk_frozen BK271.out 3
                          have hfz78_4 := blk_frozen BK271.out 4
                          have hfz78_5 := blk_frozen BK271.out 5
                          have hfz78_6 := blk_frozen BK271.out 6
                          have hfz78_7 := blk_frozen BK271.out 7
                          have hfz78_8 := blk_frozen BK271.out 8
                          have hfz78_9 := blk_frozen BK271.out 9
                          have hfz78_10 := blk_frozen BK271.out 10
                          have hcz79_0 : wr.cell? ⟨gb272, 0, none⟩ = some (.int .u64 x273000_1) := (blk_cell BK272.out 0).trans rfl
                          have hcz79_1 : wr.cell? ⟨gb272, 1, none⟩ = some (.bool x273001_1) := (blk_cell BK272.out 1).trans rfl
                          have hfz79_0 := blk_frozen BK272.out 0
                          have hfz79_1 := blk_frozen BK272.out 1
                          go_wp2
                          refine bodyPost_ret (results_cell_row rfl _ _ gb272 36 #[.int .u64 0, .bool false] (0, 0) _ rfl (by (with_reducible repeat (first | refine blk_drewN ?_ _ | refine blk_drew ?_ | refine blk_alloc ?_ _)); refine blk_put (cs := #[.int .u64 0, .bool x273001_1]) ?_ 1 _ rfl; (with_reducible repeat (first | refine blk_drewN ?_ _ | refine blk_drew ?_ | refine blk_alloc ?_ _)); refine blk_put (cs := #[.int .u64 x273000_1, .bool x273001_1]) ?_ 0 _ rfl; (with_reducible repeat (first | refine blk_drewN ?_ _ | refine blk_drew ?_ | refine blk_alloc ?_ _)); exact BK272.out) Try.underlying36 rfl (by kernel_rfl)) rfl ?_
                          exact ⟨by first | rfl | (simp [errW_none, errW_some] <;> rfl) | (simp [*, errW_none, errW_some] <;> rfl), by repeat (first | (with_reducible first | exact HB.out | apply below_alloc | apply pw_below_drewN | apply below_drew1 | refine below_set ?_ GE271.out | refine below_set ?_ GE272.out) | exact HB.out)⟩
                        · rw [if_neg c76] at H
                          have c76b0 : decide (64 ≤ a0_6) = false := decide_eq_false c76
                          clear c76
                          have H' := Aside0.mk H
                          clear H
                          have hnb80 := NB271_272.out
                          have hnc80 := NB272_271.out
                          have hcz81_0 : wr.cell? ⟨gb271, 0, none⟩ = some (.int .i64 a0_0) := (blk_cell BK271.out 0).trans rfl
                          have hcz81_1 : wr.cell? ⟨gb271, 1, none⟩ = some (.int .i64 a0_1) := (blk_cell BK271.out 1).trans rfl
                          have hcz81_2 : wr.cell? ⟨gb271, 2, none⟩ = some (.int .i64 a0_2) := (blk_cell BK271.out 2).trans rfl
                          have hcz81_3 : wr.cell? ⟨gb271, 3, none⟩ = some (.int .i64 a0_3) := (blk_cell BK271.out 3).trans rfl
                          have hcz81_4 : wr.cell? ⟨gb271, 4, none⟩ = some (.int .i64 a0_4) := (blk_cell BK271.out 4).trans rfl
                          have hcz81_5 : wr.cell? ⟨gb271, 5, none⟩ = some (.int .i64 a0_5) := (blk_cell BK271.out 5).trans rfl
                          have hcz81_6 : wr.cell? ⟨gb271, 6, none⟩ = some (.int .i64 a0_6) := (blk_cell BK271.out 6).trans rfl
                          have hcz81_7 : wr.cell? ⟨gb271, 7, none⟩ = some (.int .i64 a0_7) := (blk_cell BK271.out 7).trans rfl
                          have hcz81_8 : wr.cell? ⟨gb271, 8, none⟩ = some (.int .i64 a0_8) := (blk_cell BK271.out 8).trans rfl
                          have hcz81_9 : wr.cell? ⟨gb271, 9, none⟩ = some (.int .i64 a0_9) := (blk_cell BK271.out 9).trans rfl
                          have hcz81_10 : wr.cell? ⟨gb271, 10, none⟩ = some (.int .i64 a0_10) := (blk_cell BK271.out 10).trans rfl
                          have hfz81_0 := blk_frozen BK271.out 0
                          have hfz81_1 := blk_frozen BK271.out 1
                          have hfz81_2 := blk_frozen BK271.out 2
                          have hfz81_3 := blk_frozen BK271.out 3
                          have hfz81_4 := blk_frozen BK271.out 4
                          have hfz81_5 := blk_frozen BK271.out 5
                          have hfz81_6 := blk_frozen BK271.out 6
                          have hfz81_7 := blk_frozen BK271.out 7
                          have hfz81_8 := blk_frozen BK271.out 8
                          have hfz81_9 := blk_frozen BK271.out 9
                          have hfz81_10 := blk_frozen BK271.out 10
                          go_wp2
                          go_roundg k1
                          case measure => have := HK1.out; omega
                          case rel => exact ⟨(IntKind.u64.wrap ((IntKind.u64.wrap (x3_1 * 64)) + (IntKind.u64.wrap (a0_6)))), (wrap64 ((6 : Int) - 1)), (x273000_1), (x273001_1), (by first | rfl | (simp; done) | (simp [*]; done) | (simp; decide +kernel)), (by first | rfl | (simp; done) | (simp [*]; done) | (simp; decide +kernel)), H', ⟨by have := HK1.out; omega⟩, ⟨by (with_reducible repeat (first | refine blk_drewN ?_ _ | refine blk_drew ?_ | refine blk_alloc ?_ _)); exact BK271.out⟩, ⟨by (with_reducible repeat (first | refine blk_drewN ?_ _ | refine blk_drew ?_ | refine blk_alloc ?_ _)); exact BK272.out⟩, ⟨by repeat (first | (with_reducible first | exact HB.out | apply below_alloc | apply pw_below_drewN | apply below_drew1 | refine below_set ?_ GE271.out | refine below_set ?_ GE272.out) | exact HB.out)⟩⟩
                    · rw [if_neg c71] at H
                      clear c71
                      by_cases c82 : x4_1 = 7
                      · subst c82
                        rw [if_pos rfl] at H
                        by_cases c83 : a0_7 < 0
                        · rw [if_pos c83] at H
                          have c83b0 : decide (a0_7 < 0) = true := decide_eq_true c83
                          clear c83
                          simp only [Option.some.injEq, Prod.mk.injEq] at H
                          obtain ⟨rfl, rfl⟩ := H
                          have hnb84 := NB271_272.out
                          have hnc84 := NB272_271.out
                          have hcz85_0 : wr.cell? ⟨gb271, 0, none⟩ = some (.int .i64 a0_0) := (blk_cell BK271.out 0).trans rfl
                          have hcz85_1 : wr.cell? ⟨gb271, 1, none⟩ = some (.int .i64 a0_1) := (blk_cell BK271.out 1).trans rfl
                          have hcz85_2 : wr.cell? ⟨gb271, 2, none⟩ = some (.int .i64 a0_2) := (blk_cell BK271.out 2).trans rfl
                          have hcz85_3 : wr.cell? ⟨gb271, 3, none⟩ = some (.int .i64 a0_3) := (blk_cell BK271.out 3).trans rfl
                          have hcz85_4 : wr.cell? ⟨gb271, 4, none⟩ = some (.int .i64 a0_4) := (blk_cell BK271.out 4).trans rfl
                          have hcz85_5 : wr.cell? ⟨gb271, 5, none⟩ = some (.int .i64 a0_5) := (blk_cell BK271.out 5).trans rfl
                          have hcz85_6 : wr.cell? ⟨gb271, 6, none⟩ = some (.int .i64 a0_6) := (blk_cell BK271.out 6).trans rfl
                          have hcz85_7 : wr.cell? ⟨gb271, 7, none⟩ = some (.int .i64 a0_7) := (blk_cell BK271.out 7).trans rfl
                          have hcz85_8 : wr.cell? ⟨gb271, 8, none⟩ = some (.int .i64 a0_8) := (blk_cell BK271.out 8).trans rfl
                          have hcz85_9 : wr.cell? ⟨gb271, 9, none⟩ = some (.int .i64 a0_9) := (blk_cell BK271.out 9).trans rfl
                          have hcz85_10 : wr.cell? ⟨gb271, 10, none⟩ = some (.int .i64 a0_10) := (blk_cell BK271.out 10).trans rfl
                          have hfz85_0 := blk_frozen BK271.out 0
                          have hfz85_1 := blk_frozen BK271.out 1
                          have hfz85_2 := blk_frozen BK271.out 2
                          have hfz85_3 := blk_frozen BK271.out 3
                          have hfz85_4 := blk_frozen BK271.out 4
                          have hfz85_5 := blk_frozen BK271.out 5
                          have hfz85_6 := blk_frozen BK271.out 6
                          have hfz85_7 := blk_frozen BK271.out 7
                          have hfz85_8 := blk_frozen BK271.out 8
                          have hfz85_9 := blk_frozen BK271.out 9
                          have hfz85_10 := blk_frozen BK271.out 10
                          have hcz86_0 : wr.cell? ⟨gb272, 0, none⟩ = some (.int .u64 x273000_1) := (blk_cell BK272.out 0).trans rfl
                          have hcz86_1 : wr.cell? ⟨gb272, 1, none⟩ = some (.bool x273001_1) := (blk_cell BK272.out 1).trans rfl
                          have hfz86_0 := blk_frozen BK272.out 0
                          have hfz86_1 := blk_frozen BK272.out 1
                          go_wp2
                          refine bodyPost_ret (results_cell_row rfl _ _ gb272 36 #[.int .u64 0, .bool false] (0, 0) _ rfl (by (with_reducible repeat (first | refine blk_drewN ?_ _ | refine blk_drew ?_ | refine blk_alloc ?_ _)); refine blk_put (cs := #[.int .u64 0, .bool x273001_1]) ?_ 1 _ rfl; (with_reducible repeat (first | refine blk_drewN ?_ _ | refine blk_drew ?_ | refine blk_alloc ?_ _)); refine blk_put (cs := #[.int .u64 x273000_1, .bool x273001_1]) ?_ 0 _ rfl; (with_reducible repeat (first | refine blk_drewN ?_ _ | refine blk_drew ?_ | refine blk_alloc ?_ _)); exact BK272.out) Try.underlying36 rfl (by kernel_rfl)) rfl ?_
                          exact ⟨by first | rfl | (simp [errW_none, errW_some] <;> rfl) | (simp [*, errW_none, errW_some] <;> rfl), by repeat (first | (with_reducible first | exact HB.out | apply below_alloc | apply pw_below_drewN | apply below_drew1 | refine below_set ?_ GE271.out | refine below_set ?_ GE272.out) | exact HB.out)⟩
                        · rw [if_neg c83] at H
                          have c83b0 : decide (a0_7 < 0) = false := decide_eq_false c83
                          clear c83
                          by_cases c87 : a0_7 ≥ 64
                          · rw [if_pos c87] at H
                            have c87b0 : decide (64 ≤ a0_7) = true := decide_eq_true c87
                            clear c87
                            simp only [Option.some.injEq, Prod.mk.injEq] at H
                            obtain ⟨rfl, rfl⟩ := H
                            have hnb88 := NB271_272.out
                            have hnc88 := NB272_271.out
                            have hcz89_0 : wr.cell? ⟨gb271, 0, none⟩ = some (.int .i64 a0_0) := (blk_cell BK271.out 0).trans rfl
                            have hcz89_1 : wr.cell? ⟨gb271, 1, none⟩ = some (.int .i64 a0_1) := (blk_cell BK271.out 1).trans rfl
                            have hcz89_2 : wr.cell? ⟨gb271, 2, none⟩ = some (.int .i64 a0_2) := (blk_cell BK271.out 2).trans rfl
                            have hcz89_3 : wr.cell? ⟨gb271, 3, none⟩ = some (.int .i64 a0_3) := (blk_cell BK271.out 3).trans rfl
                            have hcz89_4 : wr.cell? ⟨gb271, 4, none⟩ = some (.int .i64 a0_4) := (blk_cell BK271.out 4).trans rfl
                            have hcz89_5 : wr.cell? ⟨gb271, 5, none⟩ = some (.int .i64 a0_5) := (blk_cell BK271.out 5).trans rfl
                            have hcz89_6 : wr.cell? ⟨gb271, 6, none⟩ = some (.int .i64 a0_6) := (blk_cell BK271.out 6).trans rfl
                            have hcz89_7 : wr.cell? ⟨gb271, 7, none⟩ = some (.int .i64 a0_7) := (blk_cell BK271.out 7).trans rfl
                            have hcz89_8 : wr.cell? ⟨gb271, 8, none⟩ = some (.int .i64 a0_8) := (blk_cell BK271.out 8).trans rfl
                            have hcz89_9 : wr.cell? ⟨gb271, 9, none⟩ = some (.int .i64 a0_9) := (blk_cell BK271.out 9).trans rfl
                            have hcz89_10 : wr.cell? ⟨gb271, 10, none⟩ = some (.int .i64 a0_10) := (blk_cell BK271.out 10).trans rfl
                            have hfz89_0 := blk_frozen BK271.out 0
                            have hfz89_1 := blk_frozen BK271.out 1
                            have hfz89_2 := blk_frozen BK271.out 2
                            have hfz89_3 := blk_frozen BK271.out 3
                            have hfz89_4 := blk_frozen BK271.out 4
                            have hfz89_5 := blk_frozen BK271.out 5
                            have hfz89_6 := blk_frozen BK271.out 6
                            have hfz89_7 := blk_frozen BK271.out 7
                            have hfz89_8 := blk_frozen BK271.out 8
                            have hfz89_9 := blk_frozen BK271.out 9
                            have hfz89_10 := blk_frozen BK271.out 10
                            have hcz90_0 : wr.cell? ⟨gb272, 0, none⟩ = some (.int .u64 x273000_1) := (blk_cell BK272.out 0).trans rfl
                            have hcz90_1 : wr.cell? ⟨gb272, 1, none⟩ = some (.bool x273001_1) := (blk_cell BK272.out 1).trans rfl
                            have hfz90_0 := blk_frozen BK272.out 0
                            have hfz90_1 := blk_frozen BK272.out 1
                            go_wp2
                            refine bodyPost_ret (results_cell_row rfl _ _ gb272 36 #[.int .u64 0, .bool false] (0, 0) _ rfl (by (with_reducible repeat (first | refine blk_drewN ?_ _ | refine blk_drew ?_ | refine blk_alloc ?_ _)); refine blk_put (cs := #[.int .u64 0, .bool x273001_1]) ?_ 1 _ rfl; (with_reducible repeat (first | refine blk_drewN ?_ _ | refine blk_drew ?_ | refine blk_alloc ?_ _)); refine blk_put (cs := #[.int .u64 x273000_1, .bool x273001_1]) ?_ 0 _ rfl; (with_reducible repeat (first | refine blk_drewN ?_ _ | refine blk_drew ?_ | refine blk_alloc ?_ _)); exact BK272.out) Try.underlying36 rfl (by kernel_rfl)) rfl ?_
                            exact ⟨by first | rfl | (simp [errW_none, errW_some] <;> rfl) | (simp [*, errW_none, errW_some] <;> rfl), by repeat (first | (with_reducible first | exact HB.out | apply below_alloc | apply pw_below_drewN | apply below_drew1 | refine below_set ?_ GE271.out | refine below_set ?_ GE272.out) | exact HB.out)⟩
                          · rw [if_neg c87] at H
                            have c87b0 : decide (64 ≤ a0_7) = false := decide_eq_false c87
                            clear c87
                            have H' := Aside0.mk H
                            clear H
                            have hnb91 := NB271_272.out
                            have hnc91 := NB272_271.out
                            have hcz92_0 : wr.cell? ⟨gb271, 0, none⟩ = some (.int .i64 a0_0) := (blk_cell BK271.out 0).trans rfl
                            have hcz92_1 : wr.cell? ⟨gb271, 1, none⟩ = some (.int .i64 a0_1) := (blk_cell BK271.out 1).trans rfl
                            have hcz92_2 : wr.cell? ⟨gb271, 2, none⟩ = some (.int .i64 a0_2) := (blk_cell BK271.out 2).trans rfl
                            have hcz92_3 : wr.cell? ⟨gb271, 3, none⟩ = some (.int .i64 a0_3) := (blk_cell BK271.out 3).trans rfl
                            have hcz92_4 : wr.cell? ⟨gb271, 4, none⟩ = some (.int .i64 a0_4) := (blk_cell BK271.out 4).trans rfl
                            have hcz92_5 : wr.cell? ⟨gb271, 5, none⟩ = some (.int .i64 a0_5) := (blk_cell BK271.out 5).trans rfl
                            have hcz92_6 : wr.cell? ⟨gb271, 6, none⟩ = some (.int .i64 a0_6) := (blk_cell BK271.out 6).trans rfl
                            have hcz92_7 : wr.cell? ⟨gb271, 7, none⟩ = some (.int .i64 a0_7) := (blk_cell BK271.out 7).trans rfl
                            have hcz92_8 : wr.cell? ⟨gb271, 8, none⟩ = some (.int .i64 a0_8) := (blk_cell BK271.out 8).trans rfl
                            have hcz92_9 : wr.cell? ⟨gb271, 9, none⟩ = some (.int .i64 a0_9) := (blk_cell BK271.out 9).trans rfl
                            have hcz92_10 : wr.cell? ⟨gb271, 10, none⟩ = some (.int .i64 a0_10) := (blk_cell BK271.out 10).trans rfl
                            have hfz92_0 := blk_frozen BK271.out 0
                            have hfz92_1 := blk_frozen BK271.out 1
                            have hfz92_2 := blk_frozen BK271.out 2
                            have hfz92_3 := blk_frozen BK271.out 3
                            have hfz92_4 := blk_frozen BK271.out 4
                            have hfz92_5 := blk_frozen BK271.out 5
                            have hfz92_6 := blk_frozen BK271.out 6
                            have hfz92_7 := blk_frozen BK271.out 7
                            have hfz92_8 := blk_frozen BK271.out 8
                            have hfz92_9 := blk_frozen BK271.out 9
                            have hfz92_10 := blk_frozen BK271.out 10
                            go_wp2
                            go_roundg k1
                            case measure => have := HK1.out; omega
                            case rel => exact ⟨(IntKind.u64.wrap ((IntKind.u64.wrap (x3_1 * 64)) + (IntKind.u64.wrap (a0_7)))), (wrap64 ((7 : Int) - 1)), (x273000_1), (x273001_1), (by first | rfl | (simp; done) | (simp [*]; done) | (simp; decide +kernel)), (by first | rfl | (simp; done) | (simp [*]; done) | (simp; decide +kernel)), H', ⟨by have := HK1.out; omega⟩, ⟨by (with_reducible repeat (first | refine blk_drewN ?_ _ | refine blk_drew ?_ | refine blk_alloc ?_ _)); exact BK271.out⟩, ⟨by (with_reducible repeat (first | refine blk_drewN ?_ _ | refine blk_drew ?_ | refine blk_alloc ?_ _)); exact BK272.out⟩, ⟨by repeat (first | (with_reducible first | exact HB.out | apply below_alloc | apply pw_below_drewN | apply below_drew1 | refine below_set ?_ GE271.out | refine below_set ?_ GE272.out) | exact HB.out)⟩⟩
                      · rw [if_neg c82] at H
                        clear c82
                        by_cases c93 : x4_1 = 8
                        · subst c93
                          rw [if_pos rfl] at H
                          by_cases c94 : a0_8 < 0
                          · rw [if_pos c94] at H
                            have c94b0 : decide (a0_8 < 0) = true := decide_eq_true c94
                            clear c94
                            simp only [Option.some.injEq, Prod.mk.injEq] at H
                            obtain ⟨rfl, rfl⟩ := H
                            have hnb95 := NB271_272.out
                            have hnc95 := NB272_271.out
                            have hcz96_0 : wr.cell? ⟨gb271, 0, none⟩ = some (.int .i64 a0_0) := (blk_cell BK271.out 0).trans rfl
                            have hcz96_1 : wr.cell? ⟨gb271, 1, none⟩ = some (.int .i64 a0_1) := (blk_cell BK271.out 1).trans rfl
                            have hcz96_2 : wr.cell? ⟨gb271, 2, none⟩ = some (.int .i64 a0_2) := (blk_cell BK271.out 2).trans rfl
                            have hcz96_3 : wr.cell? ⟨gb271, 3, none⟩ = some (.int .i64 a0_3) := (blk_cell BK271.out 3).trans rfl
                            have hcz96_4 : wr.cell? ⟨gb271, 4, none⟩ = some (.int .i64 a0_4) := (blk_cell BK271.out 4).trans rfl
                            have hcz96_5 : wr.cell? ⟨gb271, 5, none⟩ = some (.int .i64 a0_5) := (blk_cell BK271.out 5).trans rfl
                            have hcz96_6 : wr.cell? ⟨gb271, 6, none⟩ = some (.int .i64 a0_6) := (blk_cell BK271.out 6).trans rfl
                            have hcz96_7 : wr.cell? ⟨gb271, 7, none⟩ = some (.int .i64 a0_7) := (blk_cell BK271.out 7).trans rfl
                            have hcz96_8 : wr.cell? ⟨gb271, 8, none⟩ = some (.int .i64 a0_8) := (blk_cell BK271.out 8).trans rfl
                            have hcz96_9 : wr.cell? ⟨gb271, 9, none⟩ = some (.int .i64 a0_9) := (blk_cell BK271.out 9).trans rfl
                            have hcz96_10 : wr.cell? ⟨gb271, 10, none⟩ = some (.int .i64 a0_10) := (blk_cell BK271.out 10).trans rfl
                            have hfz96_0 := blk_frozen BK271.out 0
                            have hfz96_1 := blk_frozen BK271.out 1
                            have hfz96_2 := blk_frozen BK271.out 2
                            have hfz96_3 := blk_frozen BK271.out 3
                            have hfz96_4 := blk_frozen BK271.out 4
                            have hfz96_5 := blk_frozen BK271.out 5
                            have hfz96_6 := blk_frozen BK271.out 6
                            have hfz96_7 := blk_frozen BK271.out 7
                            have hfz96_8 := blk_frozen BK271.out 8
                            have hfz96_9 := blk_frozen BK271.out 9
                            have hfz96_10 := blk_frozen BK271.out 10
                            have hcz97_0 : wr.cell? ⟨gb272, 0, none⟩ = some (.int .u64 x273000_1) := (blk_cell BK272.out 0).trans rfl
                            have hcz97_1 : wr.cell? ⟨gb272, 1, none⟩ = some (.bool x273001_1) := (blk_cell BK272.out 1).trans rfl
                            have hfz97_0 := blk_frozen BK272.out 0
                            have hfz97_1 := blk_frozen BK272.out 1
                            go_wp2
                            refine bodyPost_ret (results_cell_row rfl _ _ gb272 36 #[.int .u64 0, .bool false] (0, 0) _ rfl (by (with_reducible repeat (first | refine blk_drewN ?_ _ | refine blk_drew ?_ | refine blk_alloc ?_ _)); refine blk_put (cs := #[.int .u64 0, .bool x273001_1]) ?_ 1 _ rfl; (with_reducible repeat (first | refine blk_drewN ?_ _ | refine blk_drew ?_ | refine blk_alloc ?_ _)); refine blk_put (cs := #[.int .u64 x273000_1, .bool x273001_1]) ?_ 0 _ rfl; (with_reducible repeat (first | refine blk_drewN ?_ _ | refine blk_drew ?_ | refine blk_alloc ?_ _)); exact BK272.out) Try.underlying36 rfl (by kernel_rfl)) rfl ?_
                            exact ⟨by first | rfl | (simp [errW_none, errW_some] <;> rfl) | (simp [*, errW_none, errW_some] <;> rfl), by repeat (first | (with_reducible first | exact HB.out | apply below_alloc | apply pw_below_drewN | apply below_drew1 | refine below_set ?_ GE271.out | refine below_set ?_ GE272.out) | exact HB.out)⟩
                          · rw [if_neg c94] at H
                            have c94b0 : decide (a0_8 < 0) = false := decide_eq_false c94
                            clear c94
                            by_cases c98 : a0_8 ≥ 64
                            · rw [if_pos c98] at H
                              have c98b0 : decide (64 ≤ a0_8) = true := decide_eq_true c98
                              clear c98
                              simp only [Option.some.injEq, Prod.mk.injEq] at H
                              obtain ⟨rfl, rfl⟩ := H
                              have hnb99 := NB271_272.out
                              have hnc99 := NB272_271.out
                              have hcz100_0 : wr.cell? ⟨gb271, 0, none⟩ = some (.int .i64 a0_0) := (blk_cell BK271.out 0).trans rfl
                              have hcz100_1 : wr.cell? ⟨gb271, 1, none⟩ = some (.int .i64 a0_1) := (blk_cell BK271.out 1).trans rfl
                              have hcz100_2 : wr.cell? ⟨gb271, 2, none⟩ = some (.int .i64 a0_2) := (blk_cell BK271.out 2).trans rfl
                              have hcz100_3 : wr.cell? ⟨gb271, 3, none⟩ = some (.int .i64 a0_3) := (blk_cell BK271.out 3).trans rfl
                              have hcz100_4 : wr.cell? ⟨gb271, 4, none⟩ = some (.int .i64 a0_4) := (blk_cell BK271.out 4).trans rfl
                              have hcz100_5 : wr.cell? ⟨gb271, 5, none⟩ = some (.int .i64 a0_5) := (blk_cell BK271.out 5).trans rfl
                              have hcz100_6 : wr.cell? ⟨gb271, 6, none⟩ = some (.int .i64 a0_6) := (blk_cell BK271.out 6).trans rfl
                              have hcz100_7 : wr.cell? ⟨gb271, 7, none⟩ = some (.int .i64 a0_7) := (blk_cell BK271.out 7).trans rfl
                              have hcz100_8 : wr.cell? ⟨gb271, 8, none⟩ = some (.int .i64 a0_8) := (blk_cell BK271.out 8).trans rfl
                              have hcz100_9 : wr.cell? ⟨gb271, 9, none⟩ = some (.int .i64 a0_9) := (blk_cell BK271.out 9).trans rfl
                              have hcz100_10 : wr.cell? ⟨gb271, 10, none⟩ = some (.int .i64 a0_10) := (blk_cell BK271.out 10).trans rfl
                              have hfz100_0 := blk_frozen BK271.out 0
                              have hfz100_1 := blk_frozen BK271.out 1
                              have hfz100_2 := blk_frozen BK271.out 2
                              have hfz100_3 := blk_frozen BK271.out 3
                              have hfz100_4 := blk_frozen BK271.out 4
                              have hfz100_5 := blk_frozen BK271.out 5
                              have hfz100_6 := blk_frozen BK271.out 6
                              have hfz100_7 := blk_frozen BK271.out 7
                              have hfz100_8 := blk_frozen BK271.out 8
                              have hfz100_9 := blk_frozen BK271.out 9
                              have hfz100_10 := blk_frozen BK271.out 10
                              have hcz101_0 : wr.cell? ⟨gb272, 0, none⟩ = some (.int .u64 x273000_1) := (blk_cell BK272.out 0).trans rfl
                              have hcz101_1 : wr.cell? ⟨gb272, 1, none⟩ = some (.bool x273001_1) := (blk_cell BK272.out 1).trans rfl
                              have hfz101_0 := blk_frozen BK272.out 0
                              have hfz101_1 := blk_frozen BK272.out 1
                              go_wp2
                              refine bodyPost_ret (results_cell_row rfl _ _ gb272 36 #[.int .u64 0, .bool false] (0, 0) _ rfl (by (with_reducible repeat (first | refine blk_drewN ?_ _ | refine blk_drew ?_ | refine blk_alloc ?_ _)); refine blk_put (cs := #[.int .u64 0, .bool x273001_1]) ?_ 1 _ rfl; (with_reducible repeat (first | refine blk_drewN ?_ _ | refine blk_drew ?_ | refine blk_alloc ?_ _)); refine blk_put (cs := #[.int .u64 x273000_1, .bool x273001_1]) ?_ 0 _ rfl; (with_reducible repeat (first | refine blk_drewN ?_ _ | refine blk_drew ?_ | refine blk_alloc ?_ _)); exact BK272.out) Try.underlying36 rfl (by kernel_rfl)) rfl ?_
                              exact ⟨by first | rfl | (simp [errW_none, errW_some] <;> rfl) | (simp [*, errW_none, errW_some] <;> rfl), by repeat (first | (with_reducible first | exact HB.out | apply below_alloc | apply pw_below_drewN | apply below_drew1 | refine below_set ?_ GE271.out | refine below_set ?_ GE272.out) | exact HB.out)⟩
                            · rw [if_neg c98] at H
                              have c98b0 : decide (64 ≤ a0_8) = false := decide_eq_false c98
                              clear c98
                              have H' := Aside0.mk H
                              clear H
                              have hnb102 := NB271_272.out
                              have hnc102 := NB272_271.out
                              have hcz103_0 : wr.cell? ⟨gb271, 0, none⟩ = some (.int .i64 a0_0) := (blk_cell BK271.out 0).trans rfl
                              have hcz103_1 : wr.cell? ⟨gb271, 1, none⟩ = some (.int .i64 a0_1) := (blk_cell BK271.out 1).trans rfl
                              have hcz103_2 : wr.cell? ⟨gb271, 2, none⟩ = some (.int .i64 a0_2) := (blk_cell BK271.out 2).trans rfl
                              have hcz103_3 : wr.cell? ⟨gb271, 3, none⟩ = some (.int .i64 a0_3) := (blk_cell BK271.out 3).trans rfl
                              have hcz103_4 : wr.cell? ⟨gb271, 4, none⟩ = some (.int .i64 a0_4) := (blk_cell BK271.out 4).trans rfl
                              have hcz103_5 : wr.cell? ⟨gb271, 5, none⟩ = some (.int .i64 a0_5) := (blk_cell BK271.out 5).trans rfl
                              have hcz103_6 : wr.cell? ⟨gb271, 6, none⟩ = some (.int .i64 a0_6) := (blk_cell BK271.out 6).trans rfl
                              have hcz103_7 : wr.cell? ⟨gb271, 7, none⟩ = some (.int .i64 a0_7) := (blk_cell BK271.out 7).trans rfl
                              have hcz103_8 : wr.cell? ⟨gb271, 8, none⟩ = some (.int .i64 a0_8) := (blk_cell BK271.out 8).trans rfl
                              have hcz103_9 : wr.cell? ⟨gb271, 9, none⟩ = some (.int .i64 a0_9) := (blk_cell BK271.out 9).trans rfl
                              have hcz103_10 : wr.cell? ⟨gb271, 10, none⟩ = some (.int .i64 a0_10) := (blk_cell BK271.out 10).trans rfl
                              have hfz103_0 := blk_frozen BK271.out 0
                              have hfz103_1 := blk_frozen BK271.out 1
                              have hfz103_2 := blk_frozen BK271.out 2
                              have hfz103_3 := blk_frozen BK271.out 3
                              have hfz103_4 := blk_frozen BK271.out 4
                              have hfz103_5 := blk_frozen BK271.out 5
                              have hfz103_6 := blk_frozen BK271.out 6
                              have hfz103_7 := blk_frozen BK271.out 7
                              have hfz103_8 := blk_frozen BK271.out 8
                              have hfz103_9 := blk_frozen BK271.out 9
                              have hfz103_10 := blk_frozen BK271.out 10
                              go_wp2
                              go_roundg k1
                              case measure => have := HK1.out; omega
                              case rel => exact ⟨(IntKind.u64.wrap ((IntKind.u64.wrap (x3_1 * 64)) + (IntKind.u64.wrap (a0_8)))), (wrap64 ((8 : Int) - 1)), (x273000_1), (x273001_1), (by first | rfl | (simp; done) | (simp [*]; done) | (simp; decide +kernel)), (by first | rfl | (simp; done) | (simp [*]; done) | (simp; decide +kernel)), H', ⟨by have := HK1.out; omega⟩, ⟨by (with_reducible repeat (first | refine blk_drewN ?_ _ | refine blk_drew ?_ | refine blk_alloc ?_ _)); exact BK271.out⟩, ⟨by (with_reducible repeat (first | refine blk_drewN ?_ _ | refine blk_drew ?_ | refine blk_alloc ?_ _)); exact BK272.out⟩, ⟨by repeat (first | (with_reducible first | exact HB.out | apply below_alloc | apply pw_below_drewN | apply below_drew1 | refine below_set ?_ GE271.out | refine below_set ?_ GE272.out) | exact HB.out)⟩⟩
                        · rw [if_neg c93] at H
                          clear c93
                          by_cases c104 : x4_1 = 9
                          · subst c104
                            rw [if_pos rfl] at H
                            by_cases c105 : a0_9 < 0
                            · rw [if_pos c105] at H
                              have c105b0 : decide (a0_9 < 0) = true := decide_eq_true c105
                              clear c105
                              simp only [Option.some.injEq, Prod.mk.injEq] at H
                              obtain ⟨rfl, rfl⟩ := H
                              have hnb106 := NB271_272.out
                              have hnc106 := NB272_271.out
                              have hcz107_0 : wr.cell? ⟨gb271, 0, none⟩ = some (.int .i64 a0_0) := (blk_cell BK271.out 0).trans rfl
                              have hcz107_1 : wr.cell? ⟨gb271, 1, none⟩ = some (.int .i64 a0_1) := (blk_cell BK271.out 1).trans rfl
                              have hcz107_2 : wr.cell? ⟨gb271, 2, none⟩ = some (.int .i64 a0_2) := (blk_cell BK271.out 2).trans rfl
                              have hcz107_3 : wr.cell? ⟨gb271, 3, none⟩ = some (.int .i64 a0_3) := (blk_cell BK271.out 3).trans rfl
                              have hcz107_4 : wr.cell? ⟨gb271, 4, none⟩ = some (.int .i64 a0_4) := (blk_cell BK271.out 4).trans rfl
                              have hcz107_5 : wr.cell? ⟨gb271, 5, none⟩ = some (.int .i64 a0_5) := (blk_cell BK271.out 5).trans rfl
                              have hcz107_6 : wr.cell? ⟨gb271, 6, none⟩ = some (.int .i64 a0_6) := (blk_cell BK271.out 6).trans rfl
                              have hcz107_7 : wr.cell? ⟨gb271, 7, none⟩ = some (.int .i64 a0_7) := (blk_cell BK271.out 7).trans rfl
                              have hcz107_8 : wr.cell? ⟨gb271, 8, none⟩ = some (.int .i64 a0_8) := (blk_cell BK271.out 8).trans rfl
                              have hcz107_9 : wr.cell? ⟨gb271, 9, none⟩ = some (.int .i64 a0_9) := (blk_cell BK271.out 9).trans rfl
                              have hcz107_10 : wr.cell? ⟨gb271, 10, none⟩ = some (.int .i64 a0_10) := (blk_cell BK271.out 10).trans rfl
                              have hfz107_0 := blk_frozen BK271.out 0
                              have hfz107_1 := blk_frozen BK271.out 1
                              have hfz107_2 := blk_frozen BK271.out 2
                              have hfz107_3 := blk_frozen BK271.out 3
                              have hfz107_4 := blk_frozen BK271.out 4
                              have hfz107_5 := blk_frozen BK271.out 5
                              have hfz107_6 := blk_frozen BK271.out 6
                              have hfz107_7 := blk_frozen BK271.out 7
                              have hfz107_8 := blk_frozen BK271.out 8
                              have hfz107_9 := blk_frozen BK271.out 9
                              have hfz107_10 := blk_frozen BK271.out 10
                              have hcz108_0 : wr.cell? ⟨gb272, 0, none⟩ = some (.int .u64 x273000_1) := (blk_cell BK272.out 0).trans rfl
                              have hcz108_1 : wr.cell? ⟨gb272, 1, none⟩ = some (.bool x273001_1) := (blk_cell BK272.out 1).trans rfl
                              have hfz108_0 := blk_frozen BK272.out 0
                              have hfz108_1 := blk_frozen BK272.out 1
                              go_wp2
                              refine bodyPost_ret (results_cell_row rfl _ _ gb272 36 #[.int .u64 0, .bool false] (0, 0) _ rfl (by (with_reducible repeat (first | refine blk_drewN ?_ _ | refine blk_drew ?_ | refine blk_alloc ?_ _)); refine blk_put (cs := #[.int .u64 0, .bool x273001_1]) ?_ 1 _ rfl; (with_reducible repeat (first | refine blk_drewN ?_ _ | refine blk_drew ?_ | refine blk_alloc ?_ _)); refine blk_put (cs := #[.int .u64 x273000_1, .bool x273001_1]) ?_ 0 _ rfl; (with_reducible repeat (first | refine blk_drewN ?_ _ | refine blk_drew ?_ | refine blk_alloc ?_ _)); exact BK272.out) Try.underlying36 rfl (by kernel_rfl)) rfl ?_
                              exact ⟨by first | rfl | (simp [errW_none, errW_some] <;> rfl) | (simp [*, errW_none, errW_some] <;> rfl), by repeat (first | (with_reducible first | exact HB.out | apply below_alloc | apply pw_below_drewN | apply below_drew1 | refine below_set ?_ GE271.out | refine below_set ?_ GE272.out) | exact HB.out)⟩
                            · rw [if_neg c105] at H
                              have c105b0 : decide (a0_9 < 0) = false := decide_eq_false c105
                              clear c105
                              by_cases c109 : a0_9 ≥ 64
                              · rw [if_pos c109] at H
                                have c109b0 : decide (64 ≤ a0_9) = true := decide_eq_true c109
                                clear c109
                                simp only [Option.some.injEq, Prod.mk.injEq] at H
                                obtain ⟨rfl, rfl⟩ := H
                                have hnb110 := NB271_272.out
                                have hnc110 := NB272_271.out
                                have hcz111_0 : wr.cell? ⟨gb271, 0, none⟩ = some (.int .i64 a0_0) := (blk_cell BK271.out 0).trans rfl
                                have hcz111_1 : wr.cell? ⟨gb271, 1, none⟩ = some (.int .i64 a0_1) := (blk_cell BK271.out 1).trans rfl
                                have hcz111_2 : wr.cell? ⟨gb271, 2, none⟩ = some (.int .i64 a0_2) := (blk_cell BK271.out 2).trans rfl
                                have hcz111_3 : wr.cell? ⟨gb271, 3, none⟩ = some (.int .i64 a0_3) := (blk_cell BK271.out 3).trans rfl
                                have hcz111_4 : wr.cell? ⟨gb271, 4, none⟩ = some (.int .i64 a0_4) := (blk_cell BK271.out 4).trans rfl
                                have hcz111_5 : wr.cell? ⟨gb271, 5, none⟩ = some (.int .i64 a0_5) := (blk_cell BK271.out 5).trans rfl
                                have hcz111_6 : wr.cell? ⟨gb271, 6, none⟩ = some (.int .i64 a0_6) := (blk_cell BK271.out 6).trans rfl
                                have hcz111_7 : wr.cell? ⟨gb271, 7, none⟩ = some (.int .i64 a0_7) := (blk_cell BK271.out 7).trans rfl
                                have hcz111_8 : wr.cell? ⟨gb271, 8, none⟩ = some (.int .i64 a0_8) := (blk_cell BK271.out 8).trans rfl
                                have hcz111_9 : wr.cell? ⟨gb271, 9, none⟩ = some (.int .i64 a0_9) := (blk_cell BK271.out 9).trans rfl
                                have hcz111_10 : wr.cell? ⟨gb271, 10, none⟩ = some (.int .i64 a0_10) := (blk_cell BK271.out 10).trans rfl
                                have hfz111_0 := blk_frozen BK271.out 0
                                have hfz111_1 := blk_frozen BK271.out 1
                                have hfz111_2 := blk_frozen BK271.out 2
                                have hfz111_3 := blk_frozen BK271.out 3
                                have hfz111_4 := blk_frozen BK271.out 4
                                have hfz111_5 := blk_frozen BK271.out 5
                                have hfz111_6 := blk_frozen BK271.out 6
                                have hfz111_7 := blk_frozen BK271.out 7
                                have hfz111_8 := blk_frozen BK271.out 8
                                have hfz111_9 := blk_frozen BK271.out 9
                                have hfz111_10 := blk_frozen BK271.out 10
                                have hcz112_0 : wr.cell? ⟨gb272, 0, none⟩ = some (.int .u64 x273000_1) := (blk_cell BK272.out 0).trans rfl
                                have hcz112_1 : wr.cell? ⟨gb272, 1, none⟩ = some (.bool x273001_1) := (blk_cell BK272.out 1).trans rfl
                                have hfz112_0 := blk_frozen BK272.out 0
                                have hfz112_1 := blk_frozen BK272.out 1
                                go_wp2
                                refine bodyPost_ret (results_cell_row rfl _ _ gb272 36 #[.int .u64 0, .bool false] (0, 0) _ rfl (by (with_reducible repeat (first | refine blk_drewN ?_ _ | refine blk_drew ?_ | refine blk_alloc ?_ _)); refine blk_put (cs := #[.int .u64 0, .bool x273001_1]) ?_ 1 _ rfl; (with_reducible repeat (first | refine blk_drewN ?_ _ | refine blk_drew ?_ | refine blk_alloc ?_ _)); refine blk_put (cs := #[.int .u64 x273000_1, .bool x273001_1]) ?_ 0 _ rfl; (with_reducible repeat (first | refine blk_drewN ?_ _ | refine blk_drew ?_ | refine blk_alloc ?_ _)); exact BK272.out) Try.underlying36 rfl (by kernel_rfl)) rfl ?_
                                exact ⟨by first | rfl | (simp [errW_none, errW_some] <;> rfl) | (simp [*, errW_none, errW_some] <;> rfl), by repeat (first | (with_reducible first | exact HB.out | apply below_alloc | apply pw_below_drewN | apply below_drew1 | refine below_set ?_ GE271.out | refine below_set ?_ GE272.out) | exact HB.out)⟩
                              · rw [if_neg c109] at H
                                have c109b0 : decide (64 ≤ a0_9) = false := decide_eq_false c109
                                clear c109
                                have H' := Aside0.mk H
                                clear H
                                have hnb113 := NB271_272.out
                                have hnc113 := NB272_271.out
                                have hcz114_0 : wr.cell? ⟨gb271, 0, none⟩ = some (.int .i64 a0_0) := (blk_cell BK271.out 0).trans rfl
                                have hcz114_1 : wr.cell? ⟨gb271, 1, none⟩ = some (.int .i64 a0_1) := (blk_cell BK271.out 1).trans rfl
                                have hcz114_2 : wr.cell? ⟨gb271, 2, none⟩ = some (.int .i64 a0_2) := (blk_cell BK271.out 2).trans rfl
                                have hcz114_3 : wr.cell? ⟨gb271, 3, none⟩ = some (.int .i64 a0_3) := (blk_cell BK271.out 3).trans rfl
                                have hcz114_4 : wr.cell? ⟨gb271, 4, none⟩ = some (.int .i64 a0_4) := (blk_cell BK271.out 4).trans rfl
                                have hcz114_5 : wr.cell? ⟨gb271, 5, none⟩ = some (.int .i64 a0_5) := (blk_cell BK271.out 5).trans rfl
                                have hcz114_6 : wr.cell? ⟨gb271, 6, none⟩ = some (.int .i64 a0_6) := (blk_cell BK271.out 6).trans rfl
                                have hcz114_7 : wr.cell? ⟨gb271, 7, none⟩ = some (.int .i64 a0_7) := (blk_cell BK271.out 7).trans rfl
                                have hcz114_8 : wr.cell? ⟨gb271, 8, none⟩ = some (.int .i64 a0_8) := (blk_cell BK271.out 8).trans rfl
                                have hcz114_9 : wr.cell? ⟨gb271, 9, none⟩ = some (.int .i64 a0_9) := (blk_cell BK271.out 9).trans rfl
                                have hcz114_10 : wr.cell? ⟨gb271, 10, none⟩ = some (.int .i64 a0_10) := (blk_cell BK271.out 10).trans rfl
                                have hfz114_0 := blk_frozen BK271.out 0
                                have hfz114_1 := blk_frozen BK271.out 1
                                have hfz114_2 := blk_frozen BK271.out 2
                                have hfz114_3 := blk_frozen BK271.out 3
                                have hfz114_4 := blk_frozen BK271.out 4
                                have hfz114_5 := blk_frozen BK271.out 5
                                have hfz114_6 := blk_frozen BK271.out 6
                                have hfz114_7 := blk_frozen BK271.out 7
                                have hfz114_8 := blk_frozen BK271.out 8
                                have hfz114_9 := blk_frozen BK271.out 9
                                have hfz114_10 := blk_frozen BK271.out 10
                                go_wp2
                                go_roundg k1
                                case measure => have := HK1.out; omega
                                case rel => exact ⟨(IntKind.u64.wrap ((IntKind.u64.wrap (x3_1 * 64)) + (IntKind.u64.wrap (a0_9)))), (wrap64 ((9 : Int) - 1)), (x273000_1), (x273001_1), (by first | rfl | (simp; done) | (simp [*]; done) | (simp; decide +kernel)), (by first | rfl | (simp; done) | (simp [*]; done) | (simp; decide +kernel)), H', ⟨by have := HK1.out; omega⟩, ⟨by (with_reducible repeat (first | refine blk_drewN ?_ _ | refine blk_drew ?_ | refine blk_alloc ?_ _)); exact BK271.out⟩, ⟨by (with_reducible repeat (first | refine blk_drewN ?_ _ | refine blk_drew ?_ | refine blk_alloc ?_ _)); exact BK272.out⟩, ⟨by repeat (first | (with_reducible first | exact HB.out | apply below_alloc | apply pw_below_drewN | apply below_drew1 | refine below_set ?_ GE271.out | refine below_set ?_ GE272.out) | exact HB.out)⟩⟩
                          · rw [if_neg c104] at H
                            clear c104
                            by_cases c115 : x4_1 = 10
                            · subst c115
                              rw [if_pos rfl] at H
                              by_cases c116 : a0_10 < 0
                              · rw [if_pos c116] at H
                                have c116b0 : decide (a0_10 < 0) = true := decide_eq_true c116
                                clear c116
                                simp only [Option.some.injEq, Prod.mk.injEq] at H
                                obtain ⟨rfl, rfl⟩ := H
                                have hnb117 := NB271_272.out
                                have hnc117 := NB272_271.out
                                have hcz118_0 : wr.cell? ⟨gb271, 0, none⟩ = some (.int .i64 a0_0) := (blk_cell BK271.out 0).trans rfl
                                have hcz118_1 : wr.cell? ⟨gb271, 1, none⟩ = some (.int .i64 a0_1) := (blk_cell BK271.out 1).trans rfl
                                have hcz118_2 : wr.cell? ⟨gb271, 2, none⟩ = some (.int .i64 a0_2) := (blk_cell BK271.out 2).trans rfl
                                have hcz118_3 : wr.cell? ⟨gb271, 3, none⟩ = some (.int .i64 a0_3) := (blk_cell BK271.out 3).trans rfl
                                have hcz118_4 : wr.cell? ⟨gb271, 4, none⟩ = some (.int .i64 a0_4) := (blk_cell BK271.out 4).trans rfl
                                have hcz118_5 : wr.cell? ⟨gb271, 5, none⟩ = some (.int .i64 a0_5) := (blk_cell BK271.out 5).trans rfl
                                have hcz118_6 : wr.cell? ⟨gb271, 6, none⟩ = some (.int .i64 a0_6) := (blk_cell BK271.out 6).trans rfl
                                have hcz118_7 : wr.cell? ⟨gb271, 7, none⟩ = some (.int .i64 a0_7) := (blk_cell BK271.out 7).trans rfl
                                have hcz118_8 : wr.cell? ⟨gb271, 8, none⟩ = some (.int .i64 a0_8) := (blk_cell BK271.out 8).trans rfl
                                have hcz118_9 : wr.cell? ⟨gb271, 9, none⟩ = some (.int .i64 a0_9) := (blk_cell BK271.out 9).trans rfl
                                have hcz118_10 : wr.cell? ⟨gb271, 10, none⟩ = some (.int .i64 a0_10) := (blk_cell BK271.out 10).trans rfl
                                have hfz118_0 := blk_frozen BK271.out 0
                                have hfz118_1 := blk_frozen BK271.out 1
                                have hfz118_2 := blk_frozen BK271.out 2
                                have hfz118_3 := blk_frozen BK271.out 3
                                have hfz118_4 := blk_frozen BK271.out 4
                                have hfz118_5 := blk_frozen BK271.out 5
                                have hfz118_6 := blk_frozen BK271.out 6
                                have hfz118_7 := blk_frozen BK271.out 7
                                have hfz118_8 := blk_frozen BK271.out 8
                                have hfz118_9 := blk_frozen BK271.out 9
                                have hfz118_10 := blk_frozen BK271.out 10
                                have hcz119_0 : wr.cell? ⟨gb272, 0, none⟩ = some (.int .u64 x273000_1) := (blk_cell BK272.out 0).trans rfl
                                have hcz119_1 : wr.cell? ⟨gb272, 1, none⟩ = some (.bool x273001_1) := (blk_cell BK272.out 1).trans rfl
                                have hfz119_0 := blk_frozen BK272.out 0
                                have hfz119_1 := blk_frozen BK272.out 1
                                go_wp2
                                refine bodyPost_ret (results_cell_row rfl _ _ gb272 36 #[.int .u64 0, .bool false] (0, 0) _ rfl (by (with_reducible repeat (first | refine blk_drewN ?_ _ | refine blk_drew ?_ | refine blk_alloc ?_ _)); refine blk_put (cs := #[.int .u64 0, .bool x273001_1]) ?_ 1 _ rfl; (with_reducible repeat (first | refine blk_drewN ?_ _ | refine blk_drew ?_ | refine blk_alloc ?_ _)); refine blk_put (cs := #[.int .u64 x273000_1, .bool x273001_1]) ?_ 0 _ rfl; (with_reducible repeat (first | refine blk_drewN ?_ _ | refine blk_drew ?_ | refine blk_alloc ?_ _)); exact BK272.out) Try.underlying36 rfl (by kernel_rfl)) rfl ?_
                                exact ⟨by first | rfl | (simp [errW_none, errW_some] <;> rfl) | (simp [*, errW_none, errW_some] <;> rfl), by repeat (first | (with_reducible first | exact HB.out | apply below_alloc | apply pw_below_drewN | apply below_drew1 | refine below_set ?_ GE271.out | refine below_set ?_ GE272.out) | exact HB.out)⟩
                              · rw [if_neg c116] at H
                                have c116b0 : decide (a0_10 < 0) = false := decide_eq_false c116
                                clear c116
                                by_cases c120 : a0_10 ≥ 64
                                · rw [if_pos c120] at H
                                  have c120b0 : decide (64 ≤ a0_10) = true := decide_eq_true c120
                                  clear c120
                                  simp only [Option.some.injEq, Prod.mk.injEq] at H
                                  obtain ⟨rfl, rfl⟩ := H
                                  have hnb121 := NB271_272.out
                                  have hnc121 := NB272_271.out
                                  have hcz122_0 : wr.cell? ⟨gb271, 0, none⟩ = some (.int .i64 a0_0) := (blk_cell BK271.out 0).trans rfl
                                  have hcz122_1 : wr.cell? ⟨gb271, 1, none⟩ = some (.int .i64 a0_1) := (blk_cell BK271.out 1).trans rfl
                                  have hcz122_2 : wr.cell? ⟨gb271, 2, none⟩ = some (.int .i64 a0_2) := (blk_cell BK271.out 2).trans rfl
                                  have hcz122_3 : wr.cell? ⟨gb271, 3, none⟩ = some (.int .i64 a0_3) := (blk_cell BK271.out 3).trans rfl
                                  have hcz122_4 : wr.cell? ⟨gb271, 4, none⟩ = some (.int .i64 a0_4) := (blk_cell BK271.out 4).trans rfl
                                  have hcz122_5 : wr.cell? ⟨gb271, 5, none⟩ = some (.int .i64 a0_5) := (blk_cell BK271.out 5).trans rfl
                                  have hcz122_6 : wr.cell? ⟨gb271, 6, none⟩ = some (.int .i64 a0_6) := (blk_cell BK271.out 6).trans rfl
                                  have hcz122_7 : wr.cell? ⟨gb271, 7, none⟩ = some (.int .i64 a0_7) := (blk_cell BK271.out 7).trans rfl
                                  have hcz122_8 : wr.cell? ⟨gb271, 8, none⟩ = some (.int .i64 a0_8) := (blk_cell BK271.out 8).trans rfl
                                  have hcz122_9 : wr.cell? ⟨gb271, 9, none⟩ = some (.int .i64 a0_9) := (blk_cell BK271.out 9).trans rfl
                                  have hcz122_10 : wr.cell? ⟨gb271, 10, none⟩ = some (.int .i64 a0_10) := (blk_cell BK271.out 10).trans rfl
                                  have hfz122_0 := blk_frozen BK271.out 0
                                  have hfz122_1 := blk_frozen BK271.out 1
                                  have hfz122_2 := blk_frozen BK271.out 2
                                  have hfz122_3 := blk_frozen BK271.out 3
                                  have hfz122_4 := blk_frozen BK271.out 4
                                  have hfz122_5 := blk_frozen BK271.out 5
                                  have hfz122_6 := blk_frozen BK271.out 6
                                  have hfz122_7 := blk_frozen BK271.out 7
                                  have hfz122_8 := blk_frozen BK271.out 8
                                  have hfz122_9 := blk_frozen BK271.out 9
                                  have hfz122_10 := blk_frozen BK271.out 10
                                  have hcz123_0 : wr.cell? ⟨gb272, 0, none⟩ = some (.int .u64 x273000_1) := (blk_cell BK272.out 0).trans rfl
                                  have hcz123_1 : wr.cell? ⟨gb272, 1, none⟩ = some (.bool x273001_1) := (blk_cell BK272.out 1).trans rfl
                                  have hfz123_0 := blk_frozen BK272.out 0
                                  have hfz123_1 := blk_frozen BK272.out 1
                                  go_wp2
                                  refine bodyPost_ret (results_cell_row rfl _ _ gb272 36 #[.int .u64 0, .bool false] (0, 0) _ rfl (by (with_reducible repeat (first | refine blk_drewN ?_ _ | refine blk_drew ?_ | refine blk_alloc ?_ _)); refine blk_put (cs := #[.int .u64 0, .bool x273001_1]) ?_ 1 _ rfl; (with_reducible repeat (first | refine blk_drewN ?_ _ | refine blk_drew ?_ | refine blk_alloc ?_ _)); refine blk_put (cs := #[.int .u64 x273000_1, .bool x273001_1]) ?_ 0 _ rfl; (with_reducible repeat (first | refine blk_drewN ?_ _ | refine blk_drew ?_ | refine blk_alloc ?_ _)); exact BK272.out) Try.underlying36 rfl (by kernel_rfl)) rfl ?_
                                  exact ⟨by first | rfl | (simp [errW_none, errW_some] <;> rfl) | (simp [*, errW_none, errW_some] <;> rfl), by repeat (first | (with_reducible first | exact HB.out | apply below_alloc | apply pw_below_drewN | apply below_drew1 | refine below_set ?_ GE271.out | refine below_set ?_ GE272.out) | exact HB.out)⟩
                                · rw [if_neg c120] at H
                                  have c120b0 : decide (64 ≤ a0_10) = false := decide_eq_false c120
                                  clear c120
                                  by_cases c124 : a0_10 > 15
                                  · rw [if_pos c124] at H
                                    have c124b0 : decide (15 < a0_10) = true := decide_eq_true c124
                                    clear c124
                                    simp only [Option.some.injEq, Prod.mk.injEq] at H
                                    obtain ⟨rfl, rfl⟩ := H
                                    have hnb125 := NB271_272.out
                                    have hnc125 := NB272_271.out
                                    have hcz126_0 : wr.cell? ⟨gb271, 0, none⟩ = some (.int .i64 a0_0) := (blk_cell BK271.out 0).trans rfl
                                    have hcz126_1 : wr.cell? ⟨gb271, 1, none⟩ = some (.int .i64 a0_1) := (blk_cell BK271.out 1).trans rfl
                                    have hcz126_2 : wr.cell? ⟨gb271, 2, none⟩ = some (.int .i64 a0_2) := (blk_cell BK271.out 2).trans rfl
                                    have hcz126_3 : wr.cell? ⟨gb271, 3, none⟩ = some (.int .i64 a0_3) := (blk_cell BK271.out 3).trans rfl
                                    have hcz126_4 : wr.cell? ⟨gb271, 4, none⟩ = some (.int .i64 a0_4) := (blk_cell BK271.out 4).trans rfl
                                    have hcz126_5 : wr.cell? ⟨gb271, 5, none⟩ = some (.int .i64 a0_5) := (blk_cell BK271.out 5).trans rfl
                                    have hcz126_6 : wr.cell? ⟨gb271, 6, none⟩ = some (.int .i64 a0_6) := (blk_cell BK271.out 6).trans rfl
                                    have hcz126_7 : wr.cell? ⟨gb271, 7, none⟩ = some (.int .i64 a0_7) := (blk_cell BK271.out 7).trans rfl
                                    have hcz126_8 : wr.cell? ⟨gb271, 8, none⟩ = some (.int .i64 a0_8) := (blk_cell BK271.out 8).trans rfl
                                    have hcz126_9 : wr.cell? ⟨gb271, 9, none⟩ = some (.int .i64 a0_9) := (blk_cell BK271.out 9).trans rfl
                                    have hcz126_10 : wr.cell? ⟨gb271, 10, none⟩ = some (.int .i64 a0_10) := (blk_cell BK271.out 10).trans rfl
                                    have hfz126_0 := blk_frozen BK271.out 0
                                    have hfz126_1 := blk_frozen BK271.out 1
                                    have hfz126_2 := blk_frozen BK271.out 2
                                    have hfz126_3 := blk_frozen BK271.out 3
                                    have hfz126_4 := blk_frozen BK271.out 4
                                    have hfz126_5 := blk_frozen BK271.out 5
                                    have hfz126_6 := blk_frozen BK271.out 6
                                    have hfz126_7 := blk_frozen BK271.out 7
                                    have hfz126_8 := blk_frozen BK271.out 8
                                    have hfz126_9 := blk_frozen BK271.out 9
                                    have hfz126_10 := blk_frozen BK271.out 10
                                    have hcz127_0 : wr.cell? ⟨gb272, 0, none⟩ = some (.int .u64 x273000_1) := (blk_cell BK272.out 0).trans rfl
                                    have hcz127_1 : wr.cell? ⟨gb272, 1, none⟩ = some (.bool x273001_1) := (blk_cell BK272.out 1).trans rfl
                                    have hfz127_0 := blk_frozen BK272.out 0
                                    have hfz127_1 := blk_frozen BK272.out 1
                                    go_wp2
                                    refine bodyPost_ret (results_cell_row rfl _ _ gb272 36 #[.int .u64 0, .bool false] (0, 0) _ rfl (by (with_reducible repeat (first | refine blk_drewN ?_ _ | refine blk_drew ?_ | refine blk_alloc ?_ _)); refine blk_put (cs := #[.int .u64 0, .bool x273001_1]) ?_ 1 _ rfl; (with_reducible repeat (first | refine blk_drewN ?_ _ | refine blk_drew ?_ | refine blk_alloc ?_ _)); refine blk_put (cs := #[.int .u64 x273000_1, .bool x273001_1]) ?_ 0 _ rfl; (with_reducible repeat (first | refine blk_drewN ?_ _ | refine blk_drew ?_ | refine blk_alloc ?_ _)); exact BK272.out) Try.underlying36 rfl (by kernel_rfl)) rfl ?_
                                    exact ⟨by first | rfl | (simp [errW_none, errW_some] <;> rfl) | (simp [*, errW_none, errW_some] <;> rfl), by repeat (first | (with_reducible first | exact HB.out | apply below_alloc | apply pw_below_drewN | apply below_drew1 | refine below_set ?_ GE271.out | refine below_set ?_ GE272.out) | exact HB.out)⟩
                                  · rw [if_neg c124] at H
                                    have c124b0 : decide (15 < a0_10) = false := decide_eq_false c124
                                    clear c124
                                    have H' := Aside0.mk H
                                    clear H
                                    have hnb128 := NB271_272.out
                                    have hnc128 := NB272_271.out
                                    have hcz129_0 : wr.cell? ⟨gb271, 0, none⟩ = some (.int .i64 a0_0) := (blk_cell BK271.out 0).trans rfl
                                    have hcz129_1 : wr.cell? ⟨gb271, 1, none⟩ = some (.int .i64 a0_1) := (blk_cell BK271.out 1).trans rfl
                                    have hcz129_2 : wr.cell? ⟨gb271, 2, none⟩ = some (.int .i64 a0_2) := (blk_cell BK271.out 2).trans rfl
                                    have hcz129_3 : wr.cell? ⟨gb271, 3, none⟩ = some (.int .i64 a0_3) := (blk_cell BK271.out 3).trans rfl
                                    have hcz129_4 : wr.cell? ⟨gb271, 4, none⟩ = some (.int .i64 a0_4) := (blk_cell BK271.out 4).trans rfl
                                    have hcz129_5 : wr.cell? ⟨gb271, 5, none⟩ = some (.int .i64 a0_5) := (blk_cell BK271.out 5).trans rfl
                                    have hcz129_6 : wr.cell? ⟨gb271, 6, none⟩ = some (.int .i64 a0_6) := (blk_cell BK271.out 6).trans rfl
                                    have hcz129_7 : wr.cell? ⟨gb271, 7, none⟩ = some (.int .i64 a0_7) := (blk_cell BK271.out 7).trans rfl
                                    have hcz129_8 : wr.cell? ⟨gb271, 8, none⟩ = some (.int .i64 a0_8) := (blk_cell BK271.out 8).trans rfl
                                    have hcz129_9 : wr.cell? ⟨gb271, 9, none⟩ = some (.int .i64 a0_9) := (blk_cell BK271.out 9).trans rfl
                                    have hcz129_10 : wr.cell? ⟨gb271, 10, none⟩ = some (.int .i64 a0_10) := (blk_cell BK271.out 10).trans rfl
                                    have hfz129_0 := blk_frozen BK271.out 0
                                    have hfz129_1 := blk_frozen BK271.out 1
                                    have hfz129_2 := blk_frozen BK271.out 2
                                    have hfz129_3 := blk_frozen BK271.out 3
                                    have hfz129_4 := blk_frozen BK271.out 4
                                    have hfz129_5 := blk_frozen BK271.out 5
                                    have hfz129_6 := blk_frozen BK271.out 6
                                    have hfz129_7 := blk_frozen BK271.out 7
                                    have hfz129_8 := blk_frozen BK271.out 8
                                    have hfz129_9 := blk_frozen BK271.out 9
                                    have hfz129_10 := blk_frozen BK271.out 10
                                    go_wp2
                                    go_roundg k1
                                    case measure => have := HK1.out; omega
                                    case rel => exact ⟨(IntKind.u64.wrap ((IntKind.u64.wrap (x3_1 * 64)) + (IntKind.u64.wrap (a0_10)))), (wrap64 ((10 : Int) - 1)), (x273000_1), (x273001_1), (by first | rfl | (simp; done) | (simp [*]; done) | (simp; decide +kernel)), (by first | rfl | (simp; done) | (simp [*]; done) | (simp; decide +kernel)), H', ⟨by have := HK1.out; omega⟩, ⟨by (with_reducible repeat (first | refine blk_drewN ?_ _ | refine blk_drew ?_ | refine blk_alloc ?_ _)); exact BK271.out⟩, ⟨by (with_reducible repeat (first | refine blk_drewN ?_ _ | refine blk_drew ?_ | refine blk_alloc ?_ _)); exact BK272.out⟩, ⟨by repeat (first | (with_reducible first | exact HB.out | apply below_alloc | apply pw_below_drewN | apply below_drew1 | refine below_set ?_ GE271.out | refine below_set ?_ GE272.out) | exact HB.out)⟩⟩
                            · rw [if_neg c115] at H
                              clear c115
                              exact absurd H (by simp)
      · rw [if_neg c4] at H
        have c4b0 : decide (0 ≤ x4_1) = false := decide_eq_false c4
        clear c4
        simp only [Option.some.injEq, Prod.mk.injEq] at H
        obtain ⟨rfl, rfl⟩ := H
        have hnb130 := NB272_271.out
        have hnc130 := NB271_272.out
        have hcz131_0 : wr.cell? ⟨gb272, 0, none⟩ = some (.int .u64 x273000_1) := (blk_cell BK272.out 0).trans rfl
        have hcz131_1 : wr.cell? ⟨gb272, 1, none⟩ = some (.bool x273001_1) := (blk_cell BK272.out 1).trans rfl
        have hfz131_0 := blk_frozen BK272.out 0
        have hfz131_1 := blk_frozen BK272.out 1
        go_wp2
        refine bodyPost_ret (results_cell_row rfl _ _ gb272 36 #[.int .u64 x3_1, .bool true] (0, 0) _ rfl (by (with_reducible repeat (first | refine blk_drewN ?_ _ | refine blk_drew ?_ | refine blk_alloc ?_ _)); refine blk_put (cs := #[.int .u64 x3_1, .bool x273001_1]) ?_ 1 _ rfl; (with_reducible repeat (first | refine blk_drewN ?_ _ | refine blk_drew ?_ | refine blk_alloc ?_ _)); refine blk_put (cs := #[.int .u64 x273000_1, .bool x273001_1]) ?_ 0 _ rfl; (with_reducible repeat (first | refine blk_drewN ?_ _ | refine blk_drew ?_ | refine blk_alloc ?_ _)); exact BK272.out) Try.underlying36 rfl (by kernel_rfl)) rfl ?_
        exact ⟨by first | rfl | (simp [errW_none, errW_some] <;> rfl) | (simp [*, errW_none, errW_some] <;> rfl), by repeat (first | (with_reducible first | exact HB.out | apply below_alloc | apply pw_below_drewN | apply below_drew1 | refine below_set ?_ GE271.out | refine below_set ?_ GE272.out) | exact HB.out)⟩

end Go.Proofs.Ytfkknipkfcmiaaa.PAll
