-- Printed by a program of ours (wip/common/mkprint.py), turned from the kit's print; Lean checks it.
import Derived.Test.YtdnonlapiheenaaPAllx0
import Derived.Test.YtdnonlapiheenaaPAllx1
import Derived.Test.YtdnonlapiheenaaPAllx2
namespace Go.Proofs.Ytdnonlapiheenaa.PAll
open Go.RowKit Go.Proofs.YtdnonlapiheenaaW.PrintWords Go.Proofs.YtdnonlapiheenaaW.PrintLast Go.Proofs.YtdnonlapiheenaaW.PrintMore
attribute [local go_sem] max2_int min2_int max_two min_two max_three min_three max_four min_four   -- for this text's walks alone
set_option linter.unusedVariables false
set_option linter.unusedSimpArgs false

/-! ### remontoirlaw08_TurnOvertakes: function 4 -/
mutual
def remontoirlaw08_TurnOvertakes.j0 : Nat → Int → Bool → Int → Int → Int → Option (Bool)
  | 0, _, _, _, _, _ => none
  | k + 1, x7, x54, x154000, x154001, x154002 => if x54 = true then (none) else (remontoirlaw08_TurnOvertakes.l0 k x7 0 x154000 x154001 x154002)
def remontoirlaw08_TurnOvertakes.l0 : Nat → Int → Int → Int → Int → Int → Option (Bool)
  | 0, _, _, _, _, _ => none
  | k + 1, x7, x11, x154000, x154001, x154002 => if x11 < x154001 then ((turn_Less.f x7 2 x11 x154002 x154000 x154001 x154002).bind fun t158 => (if t158 = true then (remontoirlaw08_TurnOvertakes.l0 k x7 (wrap64 (x11 + 1)) x154000 x154001 x154002) else (none))) else ((remontoirlaw08_wakes.f k).bind fun t159 => (some t159))
end
def remontoirlaw08_TurnOvertakes.f (k : Nat) (a0 : Int) (a1_0 : Int) (a1_1 : Int) (a2 : Int) : Option (Bool) := (remontoirlaw08_job.f 1 a1_0 a1_1).bind fun bt150 => ((turn_Less.f (wrap64 (1 + (Int.tmod (wrap64 (a0)) 1000))) bt150.1 bt150.2.1 bt150.2.2 2 (Int.tmod (wrap64 (a2)) 8) (wrap64 ((wrap64 ((wrap64 (bt150.2.2 + (wrap64 ((wrap64 (1 + (Int.tmod (wrap64 (a0)) 1000))) * bt150.2.1)))) + 1)) + (wrap64 (Int.tdiv (wrap64 (a2)) 8))))).bind fun t156 => (if t156 = true then ((turn_Less.f (wrap64 (1 + (Int.tmod (wrap64 (a0)) 1000))) bt150.1 bt150.2.1 bt150.2.2 2 bt150.2.1 (wrap64 ((wrap64 (bt150.2.2 + 1)) + (wrap64 (a2))))).bind fun t157 => (remontoirlaw08_TurnOvertakes.j0 k (wrap64 (1 + (Int.tmod (wrap64 (a0)) 1000))) (!t157) bt150.1 bt150.2.1 bt150.2.2)) else (remontoirlaw08_TurnOvertakes.j0 k (wrap64 (1 + (Int.tmod (wrap64 (a0)) 1000))) true bt150.1 bt150.2.1 bt150.2.2)))
theorem remontoirlaw08_TurnOvertakes.mono_l : ∀ k, (∀ y0 y1 y2 y3 y4, LeO (remontoirlaw08_TurnOvertakes.j0 k y0 y1 y2 y3 y4) (remontoirlaw08_TurnOvertakes.j0 (k + 1) y0 y1 y2 y3 y4)) ∧ (∀ y0 y1 y2 y3 y4, LeO (remontoirlaw08_TurnOvertakes.l0 k y0 y1 y2 y3 y4) (remontoirlaw08_TurnOvertakes.l0 (k + 1) y0 y1 y2 y3 y4))
  | 0 => ⟨fun _ _ _ _ _ r h => by simp [remontoirlaw08_TurnOvertakes.j0] at h, fun _ _ _ _ _ r h => by simp [remontoirlaw08_TurnOvertakes.l0] at h⟩
  | k + 1 => by
    obtain ⟨ih0, ih1⟩ := remontoirlaw08_TurnOvertakes.mono_l k
    refine ⟨?_, ?_⟩
    · intro y0 y1 y2 y3 y4
      unfold remontoirlaw08_TurnOvertakes.j0
      repeat' first
      | (with_reducible exact ih0 _ _ _ _ _)
      | (with_reducible exact ih1 _ _ _ _ _)
      | (with_reducible exact remontoirlaw08_wakes.mono _)
      | (with_reducible exact LeO.refl _)
      | (with_reducible exact LeO.none _)
      | (with_reducible refine LeO.ite ?_ ?_)
      | (with_reducible refine LeO.bind ?_ (fun _ => ?_))
      | exact ih0 _ _ _ _ _
      | exact ih1 _ _ _ _ _
      | exact remontoirlaw08_wakes.mono _
      | exact LeO.none _
      | refine LeO.ite ?_ ?_
      | refine LeO.bind ?_ (fun _ => ?_)
    · intro y0 y1 y2 y3 y4
      unfold remontoirlaw08_TurnOvertakes.l0
      repeat' first
      | (with_reducible exact ih0 _ _ _ _ _)
      | (with_reducible exact ih1 _ _ _ _ _)
      | (with_reducible exact remontoirlaw08_wakes.mono _)
      | (with_reducible exact LeO.refl _)
      | (with_reducible exact LeO.none _)
      | (with_reducible refine LeO.ite ?_ ?_)
      | (with_reducible refine LeO.bind ?_ (fun _ => ?_))
      | exact ih0 _ _ _ _ _
      | exact ih1 _ _ _ _ _
      | exact remontoirlaw08_wakes.mono _
      | exact LeO.none _
      | refine LeO.ite ?_ ?_
      | refine LeO.bind ?_ (fun _ => ?_)
theorem remontoirlaw08_TurnOvertakes.mono : ∀ a0 a1 a2 a3 k, LeO (remontoirlaw08_TurnOvertakes.f k a0 a1 a2 a3) (remontoirlaw08_TurnOvertakes.f (k + 1) a0 a1 a2 a3) := by
  intro a0 a1 a2 a3 k
  obtain ⟨ih0, ih1⟩ := remontoirlaw08_TurnOvertakes.mono_l k
  unfold remontoirlaw08_TurnOvertakes.f
  repeat' first
      | (with_reducible exact ih0 _ _ _ _ _)
      | (with_reducible exact ih1 _ _ _ _ _)
      | (with_reducible exact remontoirlaw08_wakes.mono _)
      | (with_reducible exact LeO.refl _)
      | (with_reducible exact LeO.none _)
      | (with_reducible refine LeO.ite ?_ ?_)
      | (with_reducible refine LeO.bind ?_ (fun _ => ?_))
      | exact ih0 _ _ _ _ _
      | exact ih1 _ _ _ _ _
      | exact remontoirlaw08_wakes.mono _
      | exact LeO.none _
      | refine LeO.ite ?_ ?_
      | refine LeO.bind ?_ (fun _ => ?_)
set_option maxHeartbeats 8000000 in
set_option maxRecDepth 100000 in
theorem remontoirlaw08_TurnOvertakes.calls (k : Nat) (a0 : Int) (a1_0 : Int) (a1_1 : Int) (a2 : Int) (r : Bool) (w : World) (h : remontoirlaw08_TurnOvertakes.f k a0 a1_0 a1_1 a2 = some r) :
    Calls Try.prog 4 #[.int .u16 a0, .agg #[.int .u16 a1_0, .int .u16 a1_1], .int .u16 a2] w fun e w' => e = .returned (.bool r) ∧ Below w.heap.size w w' := by
  have hu23 := Try.underlying23
  have hu26 := Try.underlying26
  have HB := Aside0.mk (Below.refl w.heap.size w)
  have H : ((remontoirlaw08_job.f 1 a1_0 a1_1).bind fun bt150 => ((turn_Less.f (wrap64 (1 + (Int.tmod (wrap64 (a0)) 1000))) bt150.1 bt150.2.1 bt150.2.2 2 (Int.tmod (wrap64 (a2)) 8) (wrap64 ((wrap64 ((wrap64 (bt150.2.2 + (wrap64 ((wrap64 (1 + (Int.tmod (wrap64 (a0)) 1000))) * bt150.2.1)))) + 1)) + (wrap64 (Int.tdiv (wrap64 (a2)) 8))))).bind fun t156 => (if t156 = true then ((turn_Less.f (wrap64 (1 + (Int.tmod (wrap64 (a0)) 1000))) bt150.1 bt150.2.1 bt150.2.2 2 bt150.2.1 (wrap64 ((wrap64 (bt150.2.2 + 1)) + (wrap64 (a2))))).bind fun t157 => (remontoirlaw08_TurnOvertakes.j0 k (wrap64 (1 + (Int.tmod (wrap64 (a0)) 1000))) (!t157) bt150.1 bt150.2.1 bt150.2.2)) else (remontoirlaw08_TurnOvertakes.j0 k (wrap64 (1 + (Int.tmod (wrap64 (a0)) 1000))) true bt150.1 bt150.2.1 bt150.2.2)))) = some r := h
  clear h
  replace H := Option.bind_eq_some_iff.mp H
  obtain ⟨⟨t150, t151, t152⟩, A40, H⟩ := H
  replace H : ((turn_Less.f (wrap64 (1 + (Int.tmod (wrap64 (a0)) 1000))) t150 t151 t152 2 (Int.tmod (wrap64 (a2)) 8) (wrap64 ((wrap64 ((wrap64 (t152 + (wrap64 ((wrap64 (1 + (Int.tmod (wrap64 (a0)) 1000))) * t151)))) + 1)) + (wrap64 (Int.tdiv (wrap64 (a2)) 8))))).bind fun t156 => (if t156 = true then ((turn_Less.f (wrap64 (1 + (Int.tmod (wrap64 (a0)) 1000))) t150 t151 t152 2 t151 (wrap64 ((wrap64 (t152 + 1)) + (wrap64 (a2))))).bind fun t157 => (remontoirlaw08_TurnOvertakes.j0 k (wrap64 (1 + (Int.tmod (wrap64 (a0)) 1000))) (!t157) t150 t151 t152)) else (remontoirlaw08_TurnOvertakes.j0 k (wrap64 (1 + (Int.tmod (wrap64 (a0)) 1000))) true t150 t151 t152))) = some r := H
  have A4 := Aside0.mk A40
  clear A40
  have HC5 := Aside0.mk H
  clear H
  go_enter Try.func4, Try.ntmps4
  go_upto_region 5 with (first | ((with_reducible refine gate_dst (N := 4) rfl ?_); refine box_event ?hg (N := 4) ?hd (cs := #[.int .u16 a1_0, .int .u16 a1_1]) (t := 23) ?hr ?_; (case hd => rfl); (case hg => rfl); (case hr => first | (go_simp; done) | (go_simp; rfl)); intro gb149 hg w6 hbox hb; have n0_ := Aside0.mk (below_step (by repeat (first | (with_reducible first | exact HB.out | apply below_alloc | apply pw_below_drewN | apply below_drew1) | exact HB.out)) hb); have n1_ := Aside0.mk (hbox); have n2_ := Aside0.mk ((by rw [hg]; exact (below_size (by repeat (first | (with_reducible first | exact HB.out | apply below_alloc | apply pw_below_drewN | apply below_drew1) | exact HB.out))) : w.heap.size ≤ gb149)); have n3_ := Aside0.mk ((by rw [hg]; exact (below_size (by repeat (first | (with_reducible first | exact HB.out | apply below_alloc | apply pw_below_drewN | apply below_drew1) | exact HB.out))) : w.heap.size ≤ gb149)); clear HB; have HB := n0_; have BK149 := n1_; have GW149 := n2_; have GE149 := n3_; clear n0_ n1_ n2_ n3_; clear hb hbox hg; have hcz7_0 : w6.cell? ⟨gb149, 0, none⟩ = some (.int .u16 a1_0) := (blk_cell BK149.out 0).trans rfl; have hcz7_1 : w6.cell? ⟨gb149, 1, none⟩ = some (.int .u16 a1_1) := (blk_cell BK149.out 1).trans rfl; have hfz7_0 := blk_frozen BK149.out 0; have hfz7_1 := blk_frozen BK149.out 1) | ((with_reducible refine gate_callee (f := 8) rfl ?_); refine goesL_ (some 17) rfl rfl Try.func8 (by kernel_rfl) rfl #[.int .i64 1, .agg #[.int .u16 a1_0, .int .u16 a1_1]] rfl (by (try simp only [List.map_toArray, List.map_cons, List.map_nil]); first | done | rfl | (simp only [List.length_drop, List.length_take]; rfl)) ?_; (with_reducible refine (remontoirlaw08_job.calls 1 a1_0 a1_1 t150 t151 t152 _ A4.out).mono ?_); rintro e w8 ⟨rfl, hb⟩; refine ⟨_, rfl, ?_⟩; have n0_ := Aside0.mk (blk_below (g := gb149) (o := .cells #[.int .u16 a1_0, .int .u16 a1_1] 23 (0, 0)) (by (with_reducible repeat (first | refine blk_drewN ?_ _ | refine blk_drew ?_ | refine blk_alloc ?_ _)); exact BK149.out) hb); have n1_ := Aside0.mk (below_step (by repeat (first | (with_reducible first | exact HB.out | apply below_alloc | apply pw_below_drewN | apply below_drew1 | refine below_set ?_ GE149.out) | exact HB.out)) hb); clear BK149; clear HB; have BK149 := n0_; have HB := n1_; clear n0_ n1_; (try clear hb); (try clear hb2); (try clear hk); (try clear hi)) | ((with_reducible refine gate_dst (N := 8) rfl ?_); refine box_event ?hg (N := 8) ?hd (cs := #[.int .i64 0, .int .i64 0, .int .i64 0]) (t := 26) ?hr ?_; (case hd => rfl); (case hg => rfl); (case hr => first | (go_simp; done) | (go_simp; rfl)); intro gb153 hg w9 hbox hb; have n0_ := Aside0.mk (blk_below (g := gb149) (o := .cells #[.int .u16 a1_0, .int .u16 a1_1] 23 (0, 0)) (by (with_reducible repeat (first | refine blk_drewN ?_ _ | refine blk_drew ?_ | refine blk_alloc ?_ _)); exact BK149.out) hb); have n1_ := Aside0.mk (below_step (by repeat (first | (with_reducible first | exact HB.out | apply below_alloc | apply pw_below_drewN | apply below_drew1 | refine below_set ?_ GE149.out) | exact HB.out)) hb); have n2_ := Aside0.mk (hbox); have n3_ := Aside0.mk ((by rw [hg]; exact (below_size (by repeat (first | (with_reducible first | exact HB.out | apply below_alloc | apply pw_below_drewN | apply below_drew1 | refine below_set ?_ GE149.out) | exact HB.out))) : w.heap.size ≤ gb153)); have n4_ := Aside0.mk ((by rw [hg]; exact (below_size (by repeat (first | (with_reducible first | exact HB.out | apply below_alloc | apply pw_below_drewN | apply below_drew1 | refine below_set ?_ GE149.out) | exact HB.out))) : w.heap.size ≤ gb153)); have n5_ := Aside0.mk ((by rw [hg]; exact Nat.ne_of_lt (blk_lt (g := gb149) (o := .cells #[.int .u16 a1_0, .int .u16 a1_1] 23 (0, 0)) (by (with_reducible repeat (first | refine blk_drewN ?_ _ | refine blk_drew ?_ | refine blk_alloc ?_ _)); exact BK149.out)) : gb149 ≠ gb153)); have n6_ := Aside0.mk ((by rw [hg]; exact Nat.ne_of_gt (blk_lt (g := gb149) (o := .cells #[.int .u16 a1_0, .int .u16 a1_1] 23 (0, 0)) (by (with_reducible repeat (first | refine blk_drewN ?_ _ | refine blk_drew ?_ | refine blk_alloc ?_ _)); exact BK149.out)) : gb153 ≠ gb149)); clear BK149; clear HB; have BK149 := n0_; have HB := n1_; have BK153 := n2_; have GW153 := n3_; have GE153 := n4_; have NB149_153 := n5_; have NB153_149 := n6_; clear n0_ n1_ n2_ n3_ n4_ n5_ n6_; clear hb hbox hg; have hnb10 := NB153_149.out; have hnc10 := NB149_153.out; have hcz11_0 : w9.cell? ⟨gb153, 0, none⟩ = some (.int .i64 0) := (blk_cell BK153.out 0).trans rfl; have hcz11_1 : w9.cell? ⟨gb153, 1, none⟩ = some (.int .i64 0) := (blk_cell BK153.out 1).trans rfl; have hcz11_2 : w9.cell? ⟨gb153, 2, none⟩ = some (.int .i64 0) := (blk_cell BK153.out 2).trans rfl; have hfz11_0 := blk_frozen BK153.out 0; have hfz11_1 := blk_frozen BK153.out 1; have hfz11_2 := blk_frozen BK153.out 2) | ((with_reducible refine gate_dst (N := 9) rfl ?_); refine box_event ?hg (N := 9) ?hd (cs := #[.int .i64 0, .int .i64 0, .int .i64 0]) (t := 26) ?hr ?_; (case hd => rfl); (case hg => rfl); (case hr => first | (go_simp; done) | (go_simp; rfl)); intro gb154 hg w12 hbox hb; have n0_ := Aside0.mk (blk_below (g := gb149) (o := .cells #[.int .u16 a1_0, .int .u16 a1_1] 23 (0, 0)) (by (with_reducible repeat (first | refine blk_drewN ?_ _ | refine blk_drew ?_ | refine blk_alloc ?_ _)); refine blk_far ?_ NB149_153.out _; (with_reducible repeat (first | refine blk_drewN ?_ _ | refine blk_drew ?_ | refine blk_alloc ?_ _)); refine blk_far ?_ NB149_153.out _; (with_reducible repeat (first | refine blk_drewN ?_ _ | refine blk_drew ?_ | refine blk_alloc ?_ _)); refine blk_far ?_ NB149_153.out _; (with_reducible repeat (first | refine blk_drewN ?_ _ | refine blk_drew ?_ | refine blk_alloc ?_ _)); exact BK149.out) hb); have n1_ := Aside0.mk (blk_below (g := gb153) (o := .cells #[.int .i64 t150, .int .i64 t151, .int .i64 t152] 26 (0, 0)) (by (with_reducible repeat (first | refine blk_drewN ?_ _ | refine blk_drew ?_ | refine blk_alloc ?_ _)); refine blk_put (cs := #[.int .i64 t150, .int .i64 t151, .int .i64 0]) ?_ 2 _ rfl; (with_reducible repeat (first | refine blk_drewN ?_ _ | refine blk_drew ?_ | refine blk_alloc ?_ _)); refine blk_put (cs := #[.int .i64 t150, .int .i64 0, .int .i64 0]) ?_ 1 _ rfl; (with_reducible repeat (first | refine blk_drewN ?_ _ | refine blk_drew ?_ | refine blk_alloc ?_ _)); refine blk_put (cs := #[.int .i64 0, .int .i64 0, .int .i64 0]) ?_ 0 _ rfl; (with_reducible repeat (first | refine blk_drewN ?_ _ | refine blk_drew ?_ | refine blk_alloc ?_ _)); exact BK153.out) hb); have n2_ := Aside0.mk (below_step (by repeat (first | (with_reducible first | exact HB.out | apply below_alloc | apply pw_below_drewN | apply below_drew1 | refine below_set ?_ GE149.out | refine below_set ?_ GE153.out) | exact HB.out)) hb); have n3_ := Aside0.mk (hbox); have n4_ := Aside0.mk ((by rw [hg]; exact (below_size (by repeat (first | (with_reducible first | exact HB.out | apply below_alloc | apply pw_below_drewN | apply below_drew1 | refine below_set ?_ GE149.out | refine below_set ?_ GE153.out) | exact HB.out))) : w.heap.size ≤ gb154)); have n5_ := Aside0.mk ((by rw [hg]; exact (below_size (by repeat (first | (with_reducible first | exact HB.out | apply below_alloc | apply pw_below_drewN | apply below_drew1 | refine below_set ?_ GE149.out | refine below_set ?_ GE153.out) | exact HB.out))) : w.heap.size ≤ gb154)); have n6_ := Aside0.mk ((by rw [hg]; exact Nat.ne_of_lt (blk_lt (g := gb149) (o := .cells #[.int .u16 a1_0, .int .u16 a1_1] 23 (0, 0)) (by (with_reducible repeat (first | refine blk_drewN ?_ _ | refine blk_drew ?_ | refine blk_alloc ?_ _)); refine blk_far ?_ NB149_153.out _; (with_reducible repeat (first | refine blk_drewN ?_ _ | refine blk_drew ?_ | refine blk_alloc ?_ _)); refine blk_far ?_ NB149_153.out _; (with_reducible repeat (first | refine blk_drewN ?_ _ | refine blk_drew ?_ | refine blk_alloc ?_ _)); refine blk_far ?_ NB149_153.out _; (with_reducible repeat (first | refine blk_drewN ?_ _ | refine blk_drew ?_ | refine blk_alloc ?_ _)); exact BK149.out)) : gb149 ≠ gb154)); have n7_ := Aside0.mk ((by rw [hg]; exact Nat.ne_of_gt (blk_lt (g := gb149) (o := .cells #[.int .u16 a1_0, .int .u16 a1_1] 23 (0, 0)) (by (with_reducible repeat (first | refine blk_drewN ?_ _ | refine blk_drew ?_ | refine blk_alloc ?_ _)); refine blk_far ?_ NB149_153.out _; (with_reducible repeat (first | refine blk_drewN ?_ _ | refine blk_drew ?_ | refine blk_alloc ?_ _)); refine blk_far ?_ NB149_153.out _; (with_reducible repeat (first | refine blk_drewN ?_ _ | refine blk_drew ?_ | refine blk_alloc ?_ _)); refine blk_far ?_ NB149_153.out _; (with_reducible repeat (first | refine blk_drewN ?_ _ | refine blk_drew ?_ | refine blk_alloc ?_ _)); exact BK149.out)) : gb154 ≠ gb149)); have n8_ := Aside0.mk ((by rw [hg]; exact Nat.ne_of_lt (blk_lt (g := gb153) (o := .cells #[.int .i64 t150, .int .i64 t151, .int .i64 t152] 26 (0, 0)) (by (with_reducible repeat (first | refine blk_drewN ?_ _ | refine blk_drew ?_ | refine blk_alloc ?_ _)); refine blk_put (cs := #[.int .i64 t150, .int .i64 t151, .int .i64 0]) ?_ 2 _ rfl; (with_reducible repeat (first | refine blk_drewN ?_ _ | refine blk_drew ?_ | refine blk_alloc ?_ _)); refine blk_put (cs := #[.int .i64 t150, .int .i64 0, .int .i64 0]) ?_ 1 _ rfl; (with_reducible repeat (first | refine blk_drewN ?_ _ | refine blk_drew ?_ | refine blk_alloc ?_ _)); refine blk_put (cs := #[.int .i64 0, .int .i64 0, .int .i64 0]) ?_ 0 _ rfl; (with_reducible repeat (first | refine blk_drewN ?_ _ | refine blk_drew ?_ | refine blk_alloc ?_ _)); exact BK153.out)) : gb153 ≠ gb154)); have n9_ := Aside0.mk ((by rw [hg]; exact Nat.ne_of_gt (blk_lt (g := gb153) (o := .cells #[.int .i64 t150, .int .i64 t151, .int .i64 t152] 26 (0, 0)) (by (with_reducible repeat (first | refine blk_drewN ?_ _ | refine blk_drew ?_ | refine blk_alloc ?_ _)); refine blk_put (cs := #[.int .i64 t150, .int .i64 t151, .int .i64 0]) ?_ 2 _ rfl; (with_reducible repeat (first | refine blk_drewN ?_ _ | refine blk_drew ?_ | refine blk_alloc ?_ _)); refine blk_put (cs := #[.int .i64 t150, .int .i64 0, .int .i64 0]) ?_ 1 _ rfl; (with_reducible repeat (first | refine blk_drewN ?_ _ | refine blk_drew ?_ | refine blk_alloc ?_ _)); refine blk_put (cs := #[.int .i64 0, .int .i64 0, .int .i64 0]) ?_ 0 _ rfl; (with_reducible repeat (first | refine blk_drewN ?_ _ | refine blk_drew ?_ | refine blk_alloc ?_ _)); exact BK153.out)) : gb154 ≠ gb153)); clear BK149; clear BK153; clear HB; have BK149 := n0_; have BK153 := n1_; have HB := n2_; have BK154 := n3_; have GW154 := n4_; have GE154 := n5_; have NB149_154 := n6_; have NB154_149 := n7_; have NB153_154 := n8_; have NB154_153 := n9_; clear n0_ n1_ n2_ n3_ n4_ n5_ n6_ n7_ n8_ n9_; clear hb hbox hg; have hnb13 := NB154_149.out; have hnc13 := NB149_154.out; have hnb14 := NB154_153.out; have hnc14 := NB153_154.out; have hcz15_0 : w12.cell? ⟨gb154, 0, none⟩ = some (.int .i64 0) := (blk_cell BK154.out 0).trans rfl; have hcz15_1 : w12.cell? ⟨gb154, 1, none⟩ = some (.int .i64 0) := (blk_cell BK154.out 1).trans rfl; have hcz15_2 : w12.cell? ⟨gb154, 2, none⟩ = some (.int .i64 0) := (blk_cell BK154.out 2).trans rfl; have hfz15_0 := blk_frozen BK154.out 0; have hfz15_1 := blk_frozen BK154.out 1; have hfz15_2 := blk_frozen BK154.out 2; have hcz16_0 : w12.cell? ⟨gb153, 0, none⟩ = some (.int .i64 t150) := (blk_cell BK153.out 0).trans rfl; have hcz16_1 : w12.cell? ⟨gb153, 1, none⟩ = some (.int .i64 t151) := (blk_cell BK153.out 1).trans rfl; have hcz16_2 : w12.cell? ⟨gb153, 2, none⟩ = some (.int .i64 t152) := (blk_cell BK153.out 2).trans rfl; have hfz16_0 := blk_frozen BK153.out 0; have hfz16_1 := blk_frozen BK153.out 1; have hfz16_2 := blk_frozen BK153.out 2) | ((with_reducible refine gate_dst (N := 10) rfl ?_); refine box_event ?hg (N := 10) ?hd (cs := #[.int .i64 0, .int .i64 0, .int .i64 0]) (t := 26) ?hr ?_; (case hd => rfl); (case hg => rfl); (case hr => first | (go_simp; done) | (go_simp; rfl)); intro gb155 hg w17 hbox hb; have n0_ := Aside0.mk (blk_below (g := gb149) (o := .cells #[.int .u16 a1_0, .int .u16 a1_1] 23 (0, 0)) (by (with_reducible repeat (first | refine blk_drewN ?_ _ | refine blk_drew ?_ | refine blk_alloc ?_ _)); refine blk_far ?_ NB149_154.out _; (with_reducible repeat (first | refine blk_drewN ?_ _ | refine blk_drew ?_ | refine blk_alloc ?_ _)); refine blk_far ?_ NB149_154.out _; (with_reducible repeat (first | refine blk_drewN ?_ _ | refine blk_drew ?_ | refine blk_alloc ?_ _)); refine blk_far ?_ NB149_154.out _; (with_reducible repeat (first | refine blk_drewN ?_ _ | refine blk_drew ?_ | refine blk_alloc ?_ _)); exact BK149.out) hb); have n1_ := Aside0.mk (blk_below (g := gb153) (o := .cells #[.int .i64 t150, .int .i64 t151, .int .i64 t152] 26 (0, 0)) (by (with_reducible repeat (first | refine blk_drewN ?_ _ | refine blk_drew ?_ | refine blk_alloc ?_ _)); refine blk_far ?_ NB153_154.out _; (with_reducible repeat (first | refine blk_drewN ?_ _ | refine blk_drew ?_ | refine blk_alloc ?_ _)); refine blk_far ?_ NB153_154.out _; (with_reducible repeat (first | refine blk_drewN ?_ _ | refine blk_drew ?_ | refine blk_alloc ?_ _)); refine blk_far ?_ NB153_154.out _; (with_reducible repeat (first | refine blk_drewN ?_ _ | refine blk_drew ?_ | refine blk_alloc ?_ _)); exact BK153.out) hb); have n2_ := Aside0.mk (blk_below (g := gb154) (o := .cells #[.int .i64 2, .int .i64 (Int.tmod (wrap64 (a2)) 8), .int .i64 (wrap64 ((wrap64 ((wrap64 (t152 + (wrap64 ((wrap64 (1 + (Int.tmod (wrap64 (a0)) 1000))) * t151)))) + 1)) + (wrap64 (Int.tdiv (wrap64 (a2)) 8))))] 26 (0, 0)) (by (with_reducible repeat (first | refine blk_drewN ?_ _ | refine blk_drew ?_ | refine blk_alloc ?_ _)); refine blk_put (cs := #[.int .i64 2, .int .i64 (Int.tmod (wrap64 (a2)) 8), .int .i64 0]) ?_ 2 _ rfl; (with_reducible repeat (first | refine blk_drewN ?_ _ | refine blk_drew ?_ | refine blk_alloc ?_ _)); refine blk_put (cs := #[.int .i64 2, .int .i64 0, .int .i64 0]) ?_ 1 _ rfl; (with_reducible repeat (first | refine blk_drewN ?_ _ | refine blk_drew ?_ | refine blk_alloc ?_ _)); refine blk_put (cs := #[.int .i64 0, .int .i64 0, .int .i64 0]) ?_ 0 _ rfl; (with_reducible repeat (first | refine blk_drewN ?_ _ | refine blk_drew ?_ | refine blk_alloc ?_ _)); exact BK154.out) hb); have n3_ := Aside0.mk (below_step (by repeat (first | (with_reducible first | exact HB.out | apply below_alloc | apply pw_below_drewN | apply below_drew1 | refine below_set ?_ GE149.out | refine below_set ?_ GE153.out | refine below_set ?_ GE154.out) | exact HB.out)) hb); have n4_ := Aside0.mk (hbox); have n5_ := Aside0.mk ((by rw [hg]; exact (below_size (by repeat (first | (with_reducible first | exact HB.out | apply below_alloc | apply pw_below_drewN | apply below_drew1 | refine below_set ?_ GE149.out | refine below_set ?_ GE153.out | refine below_set ?_ GE154.out) | exact HB.out))) : w.heap.size ≤ gb155)); have n6_ := Aside0.mk ((by rw [hg]; exact (below_size (by repeat (first | (with_reducible first | exact HB.out | apply below_alloc | apply pw_below_drewN | apply below_drew1 | refine below_set ?_ GE149.out | refine below_set ?_ GE153.out | refine below_set ?_ GE154.out) | exact HB.out))) : w.heap.size ≤ gb155)); have n7_ := Aside0.mk ((by rw [hg]; exact Nat.ne_of_lt (blk_lt (g := gb149) (o := .cells #[.int .u16 a1_0, .int .u16 a1_1] 23 (0, 0)) (by (with_reducible repeat (first | refine blk_drewN ?_ _ | refine blk_drew ?_ | refine blk_alloc ?_ _)); refine blk_far ?_ NB149_154.out _; (with_reducible repeat (first | refine blk_drewN ?_ _ | refine blk_drew ?_ | refine blk_alloc ?_ _)); refine blk_far ?_ NB149_154.out _; (with_reducible repeat (first | refine blk_drewN ?_ _ | refine blk_drew ?_ | refine blk_alloc ?_ _)); refine blk_far ?_ NB149_154.out _; (with_reducible repeat (first | refine blk_drewN ?_ _ | refine blk_drew ?_ | refine blk_alloc ?_ _)); exact BK149.out)) : gb149 ≠ gb155)); have n8_ := Aside0.mk ((by rw [hg]; exact Nat.ne_of_gt (blk_lt (g := gb149) (o := .cells #[.int .u16 a1_0, .int .u16 a1_1] 23 (0, 0)) (by (with_reducible repeat (first | refine blk_drewN ?_ _ | refine blk_drew ?_ | refine blk_alloc ?_ _)); refine blk_far ?_ NB149_154.out _; (with_reducible repeat (first | refine blk_drewN ?_ _ | refine blk_drew ?_ | refine blk_alloc ?_ _)); refine blk_far ?_ NB149_154.out _; (with_reducible repeat (first | refine blk_drewN ?_ _ | refine blk_drew ?_ | refine blk_alloc ?_ _)); refine blk_far ?_ NB149_154.out _; (with_reducible repeat (first | refine blk_drewN ?_ _ | refine blk_drew ?_ | refine blk_alloc ?_ _)); exact BK149.out)) : gb155 ≠ gb149)); have n9_ := Aside0.mk ((by rw [hg]; exact Nat.ne_of_lt (blk_lt (g := gb153) (o := .cells #[.int .i64 t150, .int .i64 t151, .int .i64 t152] 26 (0, 0)) (by (with_reducible repeat (first | refine blk_drewN ?_ _ | refine blk_drew ?_ | refine blk_alloc ?_ _)); refine blk_far ?_ NB153_154.out _; (with_reducible repeat (first | refine blk_drewN ?_ _ | refine blk_drew ?_ | refine blk_alloc ?_ _)); refine blk_far ?_ NB153_154.out _; (with_reducible repeat (first | refine blk_drewN ?_ _ | refine blk_drew ?_ | refine blk_alloc ?_ _)); refine blk_far ?_ NB153_154.out _; (with_reducible repeat (first | refine blk_drewN ?_ _ | refine blk_drew ?_ | refine blk_alloc ?_ _)); exact BK153.out)) : gb153 ≠ gb155)); have n10_ := Aside0.mk ((by rw [hg]; exact Nat.ne_of_gt (blk_lt (g := gb153) (o := .cells #[.int .i64 t150, .int .i64 t151, .int .i64 t152] 26 (0, 0)) (by (with_reducible repeat (first | refine blk_drewN ?_ _ | refine blk_drew ?_ | refine blk_alloc ?_ _)); refine blk_far ?_ NB153_154.out _; (with_reducible repeat (first | refine blk_drewN ?_ _ | refine blk_drew ?_ | refine blk_alloc ?_ _)); refine blk_far ?_ NB153_154.out _; (with_reducible repeat (first | refine blk_drewN ?_ _ | refine blk_drew ?_ | refine blk_alloc ?_ _)); refine blk_far ?_ NB153_154.out _; (with_reducible repeat (first | refine blk_drewN ?_ _ | refine blk_drew ?_ | refine blk_alloc ?_ _)); exact BK153.out)) : gb155 ≠ gb153)); have n11_ := Aside0.mk ((by rw [hg]; exact Nat.ne_of_lt (blk_lt (g := gb154) (o := .cells #[.int .i64 2, .int .i64 (Int.tmod (wrap64 (a2)) 8), .int .i64 (wrap64 ((wrap64 ((wrap64 (t152 + (wrap64 ((wrap64 (1 + (Int.tmod (wrap64 (a0)) 1000))) * t151)))) + 1)) + (wrap64 (Int.tdiv (wrap64 (a2)) 8))))] 26 (0, 0)) (by (with_reducible repeat (first | refine blk_drewN ?_ _ | refine blk_drew ?_ | refine blk_alloc ?_ _)); refine blk_put (cs := #[.int .i64 2, .int .i64 (Int.tmod (wrap64 (a2)) 8), .int .i64 0]) ?_ 2 _ rfl; (with_reducible repeat (first | refine blk_drewN ?_ _ | refine blk_drew ?_ | refine blk_alloc ?_ _)); refine blk_put (cs := #[.int .i64 2, .int .i64 0, .int .i64 0]) ?_ 1 _ rfl; (with_reducible repeat (first | refine blk_drewN ?_ _ | refine blk_drew ?_ | refine blk_alloc ?_ _)); refine blk_put (cs := #[.int .i64 0, .int .i64 0, .int .i64 0]) ?_ 0 _ rfl; (with_reducible repeat (first | refine blk_drewN ?_ _ | refine blk_drew ?_ | refine blk_alloc ?_ _)); exact BK154.out)) : gb154 ≠ gb155)); have n12_ := Aside0.mk ((by rw [hg]; exact Nat.ne_of_gt (blk_lt (g := gb154) (o := .cells #[.int .i64 2, .int .i64 (Int.tmod (wrap64 (a2)) 8), .int .i64 (wrap64 ((wrap64 ((wrap64 (t152 + (wrap64 ((wrap64 (1 + (Int.tmod (wrap64 (a0)) 1000))) * t151)))) + 1)) + (wrap64 (Int.tdiv (wrap64 (a2)) 8))))] 26 (0, 0)) (by (with_reducible repeat (first | refine blk_drewN ?_ _ | refine blk_drew ?_ | refine blk_alloc ?_ _)); refine blk_put (cs := #[.int .i64 2, .int .i64 (Int.tmod (wrap64 (a2)) 8), .int .i64 0]) ?_ 2 _ rfl; (with_reducible repeat (first | refine blk_drewN ?_ _ | refine blk_drew ?_ | refine blk_alloc ?_ _)); refine blk_put (cs := #[.int .i64 2, .int .i64 0, .int .i64 0]) ?_ 1 _ rfl; (with_reducible repeat (first | refine blk_drewN ?_ _ | refine blk_drew ?_ | refine blk_alloc ?_ _)); refine blk_put (cs := #[.int .i64 0, .int .i64 0, .int .i64 0]) ?_ 0 _ rfl; (with_reducible repeat (first | refine blk_drewN ?_ _ | refine blk_drew ?_ | refine blk_alloc ?_ _)); exact BK154.out)) : gb155 ≠ gb154)); clear BK149; clear BK153; clear BK154; clear HB; have BK149 := n0_; have BK153 := n1_; have BK154 := n2_; have HB := n3_; have BK155 := n4_; have GW155 := n5_; have GE155 := n6_; have NB149_155 := n7_; have NB155_149 := n8_; have NB153_155 := n9_; have NB155_153 := n10_; have NB154_155 := n11_; have NB155_154 := n12_; clear n0_ n1_ n2_ n3_ n4_ n5_ n6_ n7_ n8_ n9_ n10_ n11_ n12_; clear hb hbox hg; have hnb18 := NB155_149.out; have hnc18 := NB149_155.out; have hnb19 := NB155_153.out; have hnc19 := NB153_155.out; have hnb20 := NB155_154.out; have hnc20 := NB154_155.out; have hcz21_0 : w17.cell? ⟨gb155, 0, none⟩ = some (.int .i64 0) := (blk_cell BK155.out 0).trans rfl; have hcz21_1 : w17.cell? ⟨gb155, 1, none⟩ = some (.int .i64 0) := (blk_cell BK155.out 1).trans rfl; have hcz21_2 : w17.cell? ⟨gb155, 2, none⟩ = some (.int .i64 0) := (blk_cell BK155.out 2).trans rfl; have hfz21_0 := blk_frozen BK155.out 0; have hfz21_1 := blk_frozen BK155.out 1; have hfz21_2 := blk_frozen BK155.out 2))
  (try simp only [Act.put, List.setIfInBounds_toArray, List.set_cons_zero, List.set_cons_succ])
  go_cut [54] (fun v54 wc => ∃ (kq : Nat) (x54_4 : Bool), v54 = .bool x54_4 ∧ Aside0 (remontoirlaw08_TurnOvertakes.j0 kq (wrap64 (1 + (Int.tmod (wrap64 (a0)) 1000))) x54_4 t150 t151 t152 = some r) ∧ Aside0 (kq ≤ k) ∧ Aside0 (wc.heap[gb149]? = some (.cells #[.int .u16 a1_0, .int .u16 a1_1] 23 (0, 0))) ∧ Aside0 (wc.heap[gb153]? = some (.cells #[.int .i64 t150, .int .i64 t151, .int .i64 t152] 26 (0, 0))) ∧ Aside0 (wc.heap[gb154]? = some (.cells #[.int .i64 2, .int .i64 (Int.tmod (wrap64 (a2)) 8), .int .i64 (wrap64 ((wrap64 ((wrap64 (t152 + (wrap64 ((wrap64 (1 + (Int.tmod (wrap64 (a0)) 1000))) * t151)))) + 1)) + (wrap64 (Int.tdiv (wrap64 (a2)) 8))))] 26 (0, 0))) ∧ Aside0 (wc.heap[gb155]? = some (.cells #[.int .i64 2, .int .i64 t151, .int .i64 (wrap64 ((wrap64 (t152 + 1)) + (wrap64 (a2))))] 26 (0, 0))) ∧ Aside0 (Below w.heap.size w wc))
  case first =>
    have H := HC5.out
    clear HC5
    replace H := Option.bind_eq_some_iff.mp H
    obtain ⟨t156, A220, H⟩ := H
    replace H : (if t156 = true then ((turn_Less.f (wrap64 (1 + (Int.tmod (wrap64 (a0)) 1000))) t150 t151 t152 2 t151 (wrap64 ((wrap64 (t152 + 1)) + (wrap64 (a2))))).bind fun t157 => (remontoirlaw08_TurnOvertakes.j0 k (wrap64 (1 + (Int.tmod (wrap64 (a0)) 1000))) (!t157) t150 t151 t152)) else (remontoirlaw08_TurnOvertakes.j0 k (wrap64 (1 + (Int.tmod (wrap64 (a0)) 1000))) true t150 t151 t152)) = some r := H
    have A22 := Aside0.mk A220
    clear A220
    by_cases c23 : t156 = true
    · subst c23
      have H1 : ((turn_Less.f (wrap64 (1 + (Int.tmod (wrap64 (a0)) 1000))) t150 t151 t152 2 t151 (wrap64 ((wrap64 (t152 + 1)) + (wrap64 (a2))))).bind fun t157 => (remontoirlaw08_TurnOvertakes.j0 k (wrap64 (1 + (Int.tmod (wrap64 (a0)) 1000))) (!t157) t150 t151 t152)) = some r := by rw [if_pos rfl] at H; exact H
      clear H
      have H := H1
      clear H1
      replace H := Option.bind_eq_some_iff.mp H
      obtain ⟨t157, A240, H⟩ := H
      replace H : (remontoirlaw08_TurnOvertakes.j0 k (wrap64 (1 + (Int.tmod (wrap64 (a0)) 1000))) (!t157) t150 t151 t152) = some r := H
      have A24 := Aside0.mk A240
      clear A240
      have H' := Aside0.mk H
      clear H
      have hnb25 := NB153_149.out
      have hnc25 := NB149_153.out
      have hnb26 := NB153_154.out
      have hnc26 := NB154_153.out
      have hnb27 := NB153_155.out
      have hnc27 := NB155_153.out
      have hcz28_0 : w17.cell? ⟨gb153, 0, none⟩ = some (.int .i64 t150) := (blk_cell BK153.out 0).trans rfl
      have hcz28_1 : w17.cell? ⟨gb153, 1, none⟩ = some (.int .i64 t151) := (blk_cell BK153.out 1).trans rfl
      have hcz28_2 : w17.cell? ⟨gb153, 2, none⟩ = some (.int .i64 t152) := (blk_cell BK153.out 2).trans rfl
      have hfz28_0 := blk_frozen BK153.out 0
      have hfz28_1 := blk_frozen BK153.out 1
      have hfz28_2 := blk_frozen BK153.out 2
      have hnb29 := NB154_149.out
      have hnc29 := NB149_154.out
      have hnb30 := NB154_155.out
      have hnc30 := NB155_154.out
      have hcz31_0 : w17.cell? ⟨gb154, 0, none⟩ = some (.int .i64 2) := (blk_cell BK154.out 0).trans rfl
      have hcz31_1 : w17.cell? ⟨gb154, 1, none⟩ = some (.int .i64 (Int.tmod (wrap64 (a2)) 8)) := (blk_cell BK154.out 1).trans rfl
      have hcz31_2 : w17.cell? ⟨gb154, 2, none⟩ = some (.int .i64 (wrap64 ((wrap64 ((wrap64 (t152 + (wrap64 ((wrap64 (1 + (Int.tmod (wrap64 (a0)) 1000))) * t151)))) + 1)) + (wrap64 (Int.tdiv (wrap64 (a2)) 8))))) := (blk_cell BK154.out 2).trans rfl
      have hfz31_0 := blk_frozen BK154.out 0
      have hfz31_1 := blk_frozen BK154.out 1
      have hfz31_2 := blk_frozen BK154.out 2
      go_wp2_with (first | ((with_reducible refine gate_callee (f := 9) rfl ?_); refine goesL_ (some 46) rfl rfl Try.func9 (by kernel_rfl) rfl #[.int .i64 (wrap64 (1 + (Int.tmod (wrap64 (a0)) 1000))), .agg #[.int .i64 t150, .int .i64 t151, .int .i64 t152], .agg #[.int .i64 2, .int .i64 (Int.tmod (wrap64 (a2)) 8), .int .i64 (wrap64 ((wrap64 ((wrap64 (t152 + (wrap64 ((wrap64 (1 + (Int.tmod (wrap64 (a0)) 1000))) * t151)))) + 1)) + (wrap64 (Int.tdiv (wrap64 (a2)) 8))))]] rfl (by (try simp only [List.map_toArray, List.map_cons, List.map_nil]); first | done | rfl | (simp only [List.length_drop, List.length_take]; rfl)) ?_; (with_reducible refine (turn_Less.calls (wrap64 (1 + (Int.tmod (wrap64 (a0)) 1000))) t150 t151 t152 2 (Int.tmod (wrap64 (a2)) 8) (wrap64 ((wrap64 ((wrap64 (t152 + (wrap64 ((wrap64 (1 + (Int.tmod (wrap64 (a0)) 1000))) * t151)))) + 1)) + (wrap64 (Int.tdiv (wrap64 (a2)) 8)))) true _ A22.out).mono ?_); rintro e w32 ⟨rfl, hb⟩; refine ⟨_, rfl, ?_⟩; have n0_ := Aside0.mk (blk_below (g := gb149) (o := .cells #[.int .u16 a1_0, .int .u16 a1_1] 23 (0, 0)) (by (with_reducible repeat (first | refine blk_drewN ?_ _ | refine blk_drew ?_ | refine blk_alloc ?_ _)); refine blk_far ?_ NB149_155.out _; (with_reducible repeat (first | refine blk_drewN ?_ _ | refine blk_drew ?_ | refine blk_alloc ?_ _)); refine blk_far ?_ NB149_155.out _; (with_reducible repeat (first | refine blk_drewN ?_ _ | refine blk_drew ?_ | refine blk_alloc ?_ _)); refine blk_far ?_ NB149_155.out _; (with_reducible repeat (first | refine blk_drewN ?_ _ | refine blk_drew ?_ | refine blk_alloc ?_ _)); exact BK149.out) hb); have n1_ := Aside0.mk (blk_below (g := gb153) (o := .cells #[.int .i64 t150, .int .i64 t151, .int .i64 t152] 26 (0, 0)) (by (with_reducible repeat (first | refine blk_drewN ?_ _ | refine blk_drew ?_ | refine blk_alloc ?_ _)); refine blk_far ?_ NB153_155.out _; (with_reducible repeat (first | refine blk_drewN ?_ _ | refine blk_drew ?_ | refine blk_alloc ?_ _)); refine blk_far ?_ NB153_155.out _; (with_reducible repeat (first | refine blk_drewN ?_ _ | refine blk_drew ?_ | refine blk_alloc ?_ _)); refine blk_far ?_ NB153_155.out _; (with_reducible repeat (first | refine blk_drewN ?_ _ | refine blk_drew ?_ | refine blk_alloc ?_ _)); exact BK153.out) hb); have n2_ := Aside0.mk (blk_below (g := gb154) (o := .cells #[.int .i64 2, .int .i64 (Int.tmod (wrap64 (a2)) 8), .int .i64 (wrap64 ((wrap64 ((wrap64 (t152 + (wrap64 ((wrap64 (1 + (Int.tmod (wrap64 (a0)) 1000))) * t151)))) + 1)) + (wrap64 (Int.tdiv (wrap64 (a2)) 8))))] 26 (0, 0)) (by (with_reducible repeat (first | refine blk_drewN ?_ _ | refine blk_drew ?_ | refine blk_alloc ?_ _)); refine blk_far ?_ NB154_155.out _; (with_reducible repeat (first | refine blk_drewN ?_ _ | refine blk_drew ?_ | refine blk_alloc ?_ _)); refine blk_far ?_ NB154_155.out _; (with_reducible repeat (first | refine blk_drewN ?_ _ | refine blk_drew ?_ | refine blk_alloc ?_ _)); refine blk_far ?_ NB154_155.out _; (with_reducible repeat (first | refine blk_drewN ?_ _ | refine blk_drew ?_ | refine blk_alloc ?_ _)); exact BK154.out) hb); have n3_ := Aside0.mk (blk_below (g := gb155) (o := .cells #[.int .i64 2, .int .i64 t151, .int .i64 (wrap64 ((wrap64 (t152 + 1)) + (wrap64 (a2))))] 26 (0, 0)) (by (with_reducible repeat (first | refine blk_drewN ?_ _ | refine blk_drew ?_ | refine blk_alloc ?_ _)); refine blk_put (cs := #[.int .i64 2, .int .i64 t151, .int .i64 0]) ?_ 2 _ rfl; (with_reducible repeat (first | refine blk_drewN ?_ _ | refine blk_drew ?_ | refine blk_alloc ?_ _)); refine blk_put (cs := #[.int .i64 2, .int .i64 0, .int .i64 0]) ?_ 1 _ rfl; (with_reducible repeat (first | refine blk_drewN ?_ _ | refine blk_drew ?_ | refine blk_alloc ?_ _)); refine blk_put (cs := #[.int .i64 0, .int .i64 0, .int .i64 0]) ?_ 0 _ rfl; (with_reducible repeat (first | refine blk_drewN ?_ _ | refine blk_drew ?_ | refine blk_alloc ?_ _)); exact BK155.out) hb); have n4_ := Aside0.mk (below_step (by repeat (first | (with_reducible first | exact HB.out | apply below_alloc | apply pw_below_drewN | apply below_drew1 | refine below_set ?_ GE149.out | refine below_set ?_ GE153.out | refine below_set ?_ GE154.out | refine below_set ?_ GE155.out) | exact HB.out)) hb); clear BK149; clear BK153; clear BK154; clear BK155; clear HB; have BK149 := n0_; have BK153 := n1_; have BK154 := n2_; have BK155 := n3_; have HB := n4_; clear n0_ n1_ n2_ n3_ n4_; (try clear hb); (try clear hb2); (try clear hk); (try clear hi); have hcz33_0 : w32.cell? ⟨gb153, 0, none⟩ = some (.int .i64 t150) := (blk_cell BK153.out 0).trans rfl; have hcz33_1 : w32.cell? ⟨gb153, 1, none⟩ = some (.int .i64 t151) := (blk_cell BK153.out 1).trans rfl; have hcz33_2 : w32.cell? ⟨gb153, 2, none⟩ = some (.int .i64 t152) := (blk_cell BK153.out 2).trans rfl; have hfz33_0 := blk_frozen BK153.out 0; have hfz33_1 := blk_frozen BK153.out 1; have hfz33_2 := blk_frozen BK153.out 2; have hnb34 := NB155_149.out; have hnc34 := NB149_155.out; have hcz35_0 : w32.cell? ⟨gb155, 0, none⟩ = some (.int .i64 2) := (blk_cell BK155.out 0).trans rfl; have hcz35_1 : w32.cell? ⟨gb155, 1, none⟩ = some (.int .i64 t151) := (blk_cell BK155.out 1).trans rfl; have hcz35_2 : w32.cell? ⟨gb155, 2, none⟩ = some (.int .i64 (wrap64 ((wrap64 (t152 + 1)) + (wrap64 (a2))))) := (blk_cell BK155.out 2).trans rfl; have hfz35_0 := blk_frozen BK155.out 0; have hfz35_1 := blk_frozen BK155.out 1; have hfz35_2 := blk_frozen BK155.out 2) | (go_at_call 9; (with_reducible refine (turn_Less.calls (wrap64 (1 + (Int.tmod (wrap64 (a0)) 1000))) t150 t151 t152 2 t151 (wrap64 ((wrap64 (t152 + 1)) + (wrap64 (a2)))) t157 _ A24.out).mono ?_); rintro e w36 ⟨rfl, hb⟩; have n0_ := Aside0.mk (blk_below (g := gb149) (o := .cells #[.int .u16 a1_0, .int .u16 a1_1] 23 (0, 0)) (by (with_reducible repeat (first | refine blk_drewN ?_ _ | refine blk_drew ?_ | refine blk_alloc ?_ _)); exact BK149.out) hb); have n1_ := Aside0.mk (blk_below (g := gb153) (o := .cells #[.int .i64 t150, .int .i64 t151, .int .i64 t152] 26 (0, 0)) (by (with_reducible repeat (first | refine blk_drewN ?_ _ | refine blk_drew ?_ | refine blk_alloc ?_ _)); exact BK153.out) hb); have n2_ := Aside0.mk (blk_below (g := gb154) (o := .cells #[.int .i64 2, .int .i64 (Int.tmod (wrap64 (a2)) 8), .int .i64 (wrap64 ((wrap64 ((wrap64 (t152 + (wrap64 ((wrap64 (1 + (Int.tmod (wrap64 (a0)) 1000))) * t151)))) + 1)) + (wrap64 (Int.tdiv (wrap64 (a2)) 8))))] 26 (0, 0)) (by (with_reducible repeat (first | refine blk_drewN ?_ _ | refine blk_drew ?_ | refine blk_alloc ?_ _)); exact BK154.out) hb); have n3_ := Aside0.mk (blk_below (g := gb155) (o := .cells #[.int .i64 2, .int .i64 t151, .int .i64 (wrap64 ((wrap64 (t152 + 1)) + (wrap64 (a2))))] 26 (0, 0)) (by (with_reducible repeat (first | refine blk_drewN ?_ _ | refine blk_drew ?_ | refine blk_alloc ?_ _)); exact BK155.out) hb); have n4_ := Aside0.mk (below_step (by repeat (first | (with_reducible first | exact HB.out | apply below_alloc | apply pw_below_drewN | apply below_drew1 | refine below_set ?_ GE149.out | refine below_set ?_ GE153.out | refine below_set ?_ GE154.out | refine below_set ?_ GE155.out) | exact HB.out)) hb); clear BK149; clear BK153; clear BK154; clear BK155; clear HB; have BK149 := n0_; have BK153 := n1_; have BK154 := n2_; have BK155 := n3_; have HB := n4_; clear n0_ n1_ n2_ n3_ n4_; (try clear hb); (try clear hb2); (try clear hk); (try clear hi)))
      go_meet
      case rel => exact ⟨_, (!t157), (by first | rfl | (simp; done) | (simp [*]; done)), H', ⟨by first | omega | exact Nat.le_refl _⟩, ⟨by (with_reducible repeat (first | refine blk_drewN ?_ _ | refine blk_drew ?_ | refine blk_alloc ?_ _)); exact BK149.out⟩, ⟨by (with_reducible repeat (first | refine blk_drewN ?_ _ | refine blk_drew ?_ | refine blk_alloc ?_ _)); exact BK153.out⟩, ⟨by (with_reducible repeat (first | refine blk_drewN ?_ _ | refine blk_drew ?_ | refine blk_alloc ?_ _)); exact BK154.out⟩, ⟨by (with_reducible repeat (first | refine blk_drewN ?_ _ | refine blk_drew ?_ | refine blk_alloc ?_ _)); exact BK155.out⟩, ⟨by repeat (first | (with_reducible first | exact HB.out | apply below_alloc | apply pw_below_drewN | apply below_drew1 | refine below_set ?_ GE149.out | refine below_set ?_ GE153.out | refine below_set ?_ GE154.out | refine below_set ?_ GE155.out) | exact HB.out)⟩⟩
    · replace c23 := Bool.eq_false_iff.mpr c23
      subst c23
      have H1 : (remontoirlaw08_TurnOvertakes.j0 k (wrap64 (1 + (Int.tmod (wrap64 (a0)) 1000))) true t150 t151 t152) = some r := by rw [if_neg (show ¬ (false = true) by decide)] at H; exact H
      clear H
      have H := H1
      clear H1
      have H' := Aside0.mk H
      clear H
      have hnb37 := NB153_149.out
      have hnc37 := NB149_153.out
      have hnb38 := NB153_154.out
      have hnc38 := NB154_153.out
      have hnb39 := NB153_155.out
      have hnc39 := NB155_153.out
      have hcz40_0 : w17.cell? ⟨gb153, 0, none⟩ = some (.int .i64 t150) := (blk_cell BK153.out 0).trans rfl
      have hcz40_1 : w17.cell? ⟨gb153, 1, none⟩ = some (.int .i64 t151) := (blk_cell BK153.out 1).trans rfl
      have hcz40_2 : w17.cell? ⟨gb153, 2, none⟩ = some (.int .i64 t152) := (blk_cell BK153.out 2).trans rfl
      have hfz40_0 := blk_frozen BK153.out 0
      have hfz40_1 := blk_frozen BK153.out 1
      have hfz40_2 := blk_frozen BK153.out 2
      have hnb41 := NB154_149.out
      have hnc41 := NB149_154.out
      have hnb42 := NB154_155.out
      have hnc42 := NB155_154.out
      have hcz43_0 : w17.cell? ⟨gb154, 0, none⟩ = some (.int .i64 2) := (blk_cell BK154.out 0).trans rfl
      have hcz43_1 : w17.cell? ⟨gb154, 1, none⟩ = some (.int .i64 (Int.tmod (wrap64 (a2)) 8)) := (blk_cell BK154.out 1).trans rfl
      have hcz43_2 : w17.cell? ⟨gb154, 2, none⟩ = some (.int .i64 (wrap64 ((wrap64 ((wrap64 (t152 + (wrap64 ((wrap64 (1 + (Int.tmod (wrap64 (a0)) 1000))) * t151)))) + 1)) + (wrap64 (Int.tdiv (wrap64 (a2)) 8))))) := (blk_cell BK154.out 2).trans rfl
      have hfz43_0 := blk_frozen BK154.out 0
      have hfz43_1 := blk_frozen BK154.out 1
      have hfz43_2 := blk_frozen BK154.out 2
      go_wp2_with (first | ((with_reducible refine gate_callee (f := 9) rfl ?_); refine goesL_ (some 46) rfl rfl Try.func9 (by kernel_rfl) rfl #[.int .i64 (wrap64 (1 + (Int.tmod (wrap64 (a0)) 1000))), .agg #[.int .i64 t150, .int .i64 t151, .int .i64 t152], .agg #[.int .i64 2, .int .i64 (Int.tmod (wrap64 (a2)) 8), .int .i64 (wrap64 ((wrap64 ((wrap64 (t152 + (wrap64 ((wrap64 (1 + (Int.tmod (wrap64 (a0)) 1000))) * t151)))) + 1)) + (wrap64 (Int.tdiv (wrap64 (a2)) 8))))]] rfl (by (try simp only [List.map_toArray, List.map_cons, List.map_nil]); first | done | rfl | (simp only [List.length_drop, List.length_take]; rfl)) ?_; (with_reducible refine (turn_Less.calls (wrap64 (1 + (Int.tmod (wrap64 (a0)) 1000))) t150 t151 t152 2 (Int.tmod (wrap64 (a2)) 8) (wrap64 ((wrap64 ((wrap64 (t152 + (wrap64 ((wrap64 (1 + (Int.tmod (wrap64 (a0)) 1000))) * t151)))) + 1)) + (wrap64 (Int.tdiv (wrap64 (a2)) 8)))) false _ A22.out).mono ?_); rintro e w44 ⟨rfl, hb⟩; refine ⟨_, rfl, ?_⟩; have n0_ := Aside0.mk (blk_below (g := gb149) (o := .cells #[.int .u16 a1_0, .int .u16 a1_1] 23 (0, 0)) (by (with_reducible repeat (first | refine blk_drewN ?_ _ | refine blk_drew ?_ | refine blk_alloc ?_ _)); refine blk_far ?_ NB149_155.out _; (with_reducible repeat (first | refine blk_drewN ?_ _ | refine blk_drew ?_ | refine blk_alloc ?_ _)); refine blk_far ?_ NB149_155.out _; (with_reducible repeat (first | refine blk_drewN ?_ _ | refine blk_drew ?_ | refine blk_alloc ?_ _)); refine blk_far ?_ NB149_155.out _; (with_reducible repeat (first | refine blk_drewN ?_ _ | refine blk_drew ?_ | refine blk_alloc ?_ _)); exact BK149.out) hb); have n1_ := Aside0.mk (blk_below (g := gb153) (o := .cells #[.int .i64 t150, .int .i64 t151, .int .i64 t152] 26 (0, 0)) (by (with_reducible repeat (first | refine blk_drewN ?_ _ | refine blk_drew ?_ | refine blk_alloc ?_ _)); refine blk_far ?_ NB153_155.out _; (with_reducible repeat (first | refine blk_drewN ?_ _ | refine blk_drew ?_ | refine blk_alloc ?_ _)); refine blk_far ?_ NB153_155.out _; (with_reducible repeat (first | refine blk_drewN ?_ _ | refine blk_drew ?_ | refine blk_alloc ?_ _)); refine blk_far ?_ NB153_155.out _; (with_reducible repeat (first | refine blk_drewN ?_ _ | refine blk_drew ?_ | refine blk_alloc ?_ _)); exact BK153.out) hb); have n2_ := Aside0.mk (blk_below (g := gb154) (o := .cells #[.int .i64 2, .int .i64 (Int.tmod (wrap64 (a2)) 8), .int .i64 (wrap64 ((wrap64 ((wrap64 (t152 + (wrap64 ((wrap64 (1 + (Int.tmod (wrap64 (a0)) 1000))) * t151)))) + 1)) + (wrap64 (Int.tdiv (wrap64 (a2)) 8))))] 26 (0, 0)) (by (with_reducible repeat (first | refine blk_drewN ?_ _ | refine blk_drew ?_ | refine blk_alloc ?_ _)); refine blk_far ?_ NB154_155.out _; (with_reducible repeat (first | refine blk_drewN ?_ _ | refine blk_drew ?_ | refine blk_alloc ?_ _)); refine blk_far ?_ NB154_155.out _; (with_reducible repeat (first | refine blk_drewN ?_ _ | refine blk_drew ?_ | refine blk_alloc ?_ _)); refine blk_far ?_ NB154_155.out _; (with_reducible repeat (first | refine blk_drewN ?_ _ | refine blk_drew ?_ | refine blk_alloc ?_ _)); exact BK154.out) hb); have n3_ := Aside0.mk (blk_below (g := gb155) (o := .cells #[.int .i64 2, .int .i64 t151, .int .i64 (wrap64 ((wrap64 (t152 + 1)) + (wrap64 (a2))))] 26 (0, 0)) (by (with_reducible repeat (first | refine blk_drewN ?_ _ | refine blk_drew ?_ | refine blk_alloc ?_ _)); refine blk_put (cs := #[.int .i64 2, .int .i64 t151, .int .i64 0]) ?_ 2 _ rfl; (with_reducible repeat (first | refine blk_drewN ?_ _ | refine blk_drew ?_ | refine blk_alloc ?_ _)); refine blk_put (cs := #[.int .i64 2, .int .i64 0, .int .i64 0]) ?_ 1 _ rfl; (with_reducible repeat (first | refine blk_drewN ?_ _ | refine blk_drew ?_ | refine blk_alloc ?_ _)); refine blk_put (cs := #[.int .i64 0, .int .i64 0, .int .i64 0]) ?_ 0 _ rfl; (with_reducible repeat (first | refine blk_drewN ?_ _ | refine blk_drew ?_ | refine blk_alloc ?_ _)); exact BK155.out) hb); have n4_ := Aside0.mk (below_step (by repeat (first | (with_reducible first | exact HB.out | apply below_alloc | apply pw_below_drewN | apply below_drew1 | refine below_set ?_ GE149.out | refine below_set ?_ GE153.out | refine below_set ?_ GE154.out | refine below_set ?_ GE155.out) | exact HB.out)) hb); clear BK149; clear BK153; clear BK154; clear BK155; clear HB; have BK149 := n0_; have BK153 := n1_; have BK154 := n2_; have BK155 := n3_; have HB := n4_; clear n0_ n1_ n2_ n3_ n4_; (try clear hb); (try clear hb2); (try clear hk); (try clear hi)))
      go_meet
      case rel => exact ⟨_, (true), (by first | rfl | (simp; done) | (simp [*]; done)), H', ⟨by first | omega | exact Nat.le_refl _⟩, ⟨by (with_reducible repeat (first | refine blk_drewN ?_ _ | refine blk_drew ?_ | refine blk_alloc ?_ _)); exact BK149.out⟩, ⟨by (with_reducible repeat (first | refine blk_drewN ?_ _ | refine blk_drew ?_ | refine blk_alloc ?_ _)); exact BK153.out⟩, ⟨by (with_reducible repeat (first | refine blk_drewN ?_ _ | refine blk_drew ?_ | refine blk_alloc ?_ _)); exact BK154.out⟩, ⟨by (with_reducible repeat (first | refine blk_drewN ?_ _ | refine blk_drew ?_ | refine blk_alloc ?_ _)); exact BK155.out⟩, ⟨by repeat (first | (with_reducible first | exact HB.out | apply below_alloc | apply pw_below_drewN | apply below_drew1 | refine below_set ?_ GE149.out | refine below_set ?_ GE153.out | refine below_set ?_ GE154.out | refine below_set ?_ GE155.out) | exact HB.out)⟩⟩
  case rest =>
    clear HC5
    try clear c1
    try clear c2
    try clear p2
    try clear c3
    try clear c4
    try clear p6
    try clear c8
    try clear c9
    try clear c10
    try clear c13
    try clear c14
    try clear c18
    try clear c19
    try clear c20
    try clear c23
    try clear c25
    try clear c26
    try clear c27
    try clear c29
    try clear c30
    try clear c34
    try clear c37
    try clear c38
    try clear c39
    try clear c41
    try clear c42
    try clear hcz11_0
    try clear hcz11_1
    try clear hcz11_2
    try clear hcz15_0
    try clear hcz15_1
    try clear hcz15_2
    try clear hcz16_0
    try clear hcz16_1
    try clear hcz16_2
    try clear hcz21_0
    try clear hcz21_1
    try clear hcz21_2
    try clear hcz28_0
    try clear hcz28_1
    try clear hcz28_2
    try clear hcz31_0
    try clear hcz31_1
    try clear hcz31_2
    try clear hcz33_0
    try clear hcz33_1
    try clear hcz33_2
    try clear hcz35_0
    try clear hcz35_1
    try clear hcz35_2
    try clear hcz40_0
    try clear hcz40_1
    try clear hcz40_2
    try clear hcz43_0
    try clear hcz43_1
    try clear hcz43_2
    try clear hcz7_0
    try clear hcz7_1
    try clear hfz11_0
    try clear hfz11_1
    try clear hfz11_2
    try clear hfz15_0
    try clear hfz15_1
    try clear hfz15_2
    try clear hfz16_0
    try clear hfz16_1
    try clear hfz16_2
    try clear hfz21_0
    try clear hfz21_1
    try clear hfz21_2
    try clear hfz28_0
    try clear hfz28_1
    try clear hfz28_2
    try clear hfz31_0
    try clear hfz31_1
    try clear hfz31_2
    try clear hfz33_0
    try clear hfz33_1
    try clear hfz33_2
    try clear hfz35_0
    try clear hfz35_1
    try clear hfz35_2
    try clear hfz40_0
    try clear hfz40_1
    try clear hfz40_2
    try clear hfz43_0
    try clear hfz43_1
    try clear hfz43_2
    try clear hfz7_0
    try clear hfz7_1
    obtain ⟨kq, x54_4, rfl, HA, HJ4, BK149, BK153, BK154, BK155, HB⟩ := hcut
    cases kq with
    | zero => exact absurd HA.out (by simp [remontoirlaw08_TurnOvertakes.j0])
    | succ kj4 =>
      have H := HA.out
      clear HA
      simp only [remontoirlaw08_TurnOvertakes.j0] at H
      by_cases c45 : x54_4 = true
      · subst c45
        have H1 : (none) = some r := by rw [if_pos rfl] at H; exact H
        clear H
        have H := H1
        clear H1
        exact absurd H (by simp)
      · replace c45 := Bool.eq_false_iff.mpr c45
        subst c45
        have H1 : (remontoirlaw08_TurnOvertakes.l0 kj4 (wrap64 (1 + (Int.tmod (wrap64 (a0)) 1000))) 0 t150 t151 t152) = some r := by rw [if_neg (show ¬ (false = true) by decide)] at H; exact H
        clear H
        have H := H1
        clear H1
        have H' := Aside0.mk H
        clear H
        go_wp2
        go_loopg [11] kj4 (fun kq v11 w' => ∃ (x11_2 : Int), v11 = .int .i64 x11_2 ∧ Aside0 (remontoirlaw08_TurnOvertakes.l0 kq (wrap64 (1 + (Int.tmod (wrap64 (a0)) 1000))) x11_2 t150 t151 t152 = some r) ∧ Aside0 (kq ≤ kj4) ∧ Aside0 (w'.heap[gb149]? = some (.cells #[.int .u16 a1_0, .int .u16 a1_1] 23 (0, 0))) ∧ Aside0 (w'.heap[gb153]? = some (.cells #[.int .i64 t150, .int .i64 t151, .int .i64 t152] 26 (0, 0))) ∧ Aside0 (w'.heap[gb154]? = some (.cells #[.int .i64 2, .int .i64 (Int.tmod (wrap64 (a2)) 8), .int .i64 (wrap64 ((wrap64 ((wrap64 (t152 + (wrap64 ((wrap64 (1 + (Int.tmod (wrap64 (a0)) 1000))) * t151)))) + 1)) + (wrap64 (Int.tdiv (wrap64 (a2)) 8))))] 26 (0, 0))) ∧ Aside0 (w'.heap[gb155]? = some (.cells #[.int .i64 2, .int .i64 t151, .int .i64 (wrap64 ((wrap64 (t152 + 1)) + (wrap64 (a2))))] 26 (0, 0))) ∧ Aside0 (Below w.heap.size w w'))
        case atStart => exact ⟨(0), (by first | rfl | (simp; done) | (simp [*]; done)), H', ⟨Nat.le_refl _⟩, ⟨by (with_reducible repeat (first | refine blk_drewN ?_ _ | refine blk_drew ?_ | refine blk_alloc ?_ _)); exact BK149.out⟩, ⟨by (with_reducible repeat (first | refine blk_drewN ?_ _ | refine blk_drew ?_ | refine blk_alloc ?_ _)); exact BK153.out⟩, ⟨by (with_reducible repeat (first | refine blk_drewN ?_ _ | refine blk_drew ?_ | refine blk_alloc ?_ _)); exact BK154.out⟩, ⟨by (with_reducible repeat (first | refine blk_drewN ?_ _ | refine blk_drew ?_ | refine blk_alloc ?_ _)); exact BK155.out⟩, ⟨by repeat (first | (with_reducible first | exact HB.out | apply below_alloc | apply pw_below_drewN | apply below_drew1 | refine below_set ?_ GE149.out | refine below_set ?_ GE153.out | refine below_set ?_ GE154.out | refine below_set ?_ GE155.out) | exact HB.out)⟩⟩
        case round =>
          clear H'
          try clear c1
          try clear c2
          try clear p2
          try clear c3
          try clear c4
          try clear p6
          try clear c8
          try clear c9
          try clear c10
          try clear c13
          try clear c14
          try clear c18
          try clear c19
          try clear c20
          try clear c23
          try clear c25
          try clear c26
          try clear c27
          try clear c29
          try clear c30
          try clear c34
          try clear c37
          try clear c38
          try clear c39
          try clear c41
          try clear c42
          try clear c45
          try clear hcz11_0
          try clear hcz11_1
          try clear hcz11_2
          try clear hcz15_0
          try clear hcz15_1
          try clear hcz15_2
          try clear hcz16_0
          try clear hcz16_1
          try clear hcz16_2
          try clear hcz21_0
          try clear hcz21_1
          try clear hcz21_2
          try clear hcz28_0
          try clear hcz28_1
          try clear hcz28_2
          try clear hcz31_0
          try clear hcz31_1
          try clear hcz31_2
          try clear hcz33_0
          try clear hcz33_1
          try clear hcz33_2
          try clear hcz35_0
          try clear hcz35_1
          try clear hcz35_2
          try clear hcz40_0
          try clear hcz40_1
          try clear hcz40_2
          try clear hcz43_0
          try clear hcz43_1
          try clear hcz43_2
          try clear hcz7_0
          try clear hcz7_1
          try clear hfz11_0
          try clear hfz11_1
          try clear hfz11_2
          try clear hfz15_0
          try clear hfz15_1
          try clear hfz15_2
          try clear hfz16_0
          try clear hfz16_1
          try clear hfz16_2
          try clear hfz21_0
          try clear hfz21_1
          try clear hfz21_2
          try clear hfz28_0
          try clear hfz28_1
          try clear hfz28_2
          try clear hfz31_0
          try clear hfz31_1
          try clear hfz31_2
          try clear hfz33_0
          try clear hfz33_1
          try clear hfz33_2
          try clear hfz35_0
          try clear hfz35_1
          try clear hfz35_2
          try clear hfz40_0
          try clear hfz40_1
          try clear hfz40_2
          try clear hfz43_0
          try clear hfz43_1
          try clear hfz43_2
          try clear hfz7_0
          try clear hfz7_1
          try clear p2
          try clear p6
          obtain ⟨x11_2, rfl, HA, HK2, BK149, BK153, BK154, BK155, HB⟩ := hrel
          cases gk with
          | zero => exact absurd HA.out (by simp [remontoirlaw08_TurnOvertakes.l0])
          | succ k2 =>
            have H := HA.out
            clear HA
            simp only [remontoirlaw08_TurnOvertakes.l0] at H
            by_cases c46 : x11_2 < t151
            · rw [if_pos c46] at H
              have c46b0 : decide (x11_2 < t151) = true := decide_eq_true c46
              clear c46
              replace H := Option.bind_eq_some_iff.mp H
              obtain ⟨t158, A470, H⟩ := H
              replace H : (if t158 = true then (remontoirlaw08_TurnOvertakes.l0 k2 (wrap64 (1 + (Int.tmod (wrap64 (a0)) 1000))) (wrap64 (x11_2 + 1)) t150 t151 t152) else (none)) = some r := H
              have A47 := Aside0.mk A470
              clear A470
              by_cases c48 : t158 = true
              · subst c48
                have H1 : (remontoirlaw08_TurnOvertakes.l0 k2 (wrap64 (1 + (Int.tmod (wrap64 (a0)) 1000))) (wrap64 (x11_2 + 1)) t150 t151 t152) = some r := by rw [if_pos rfl] at H; exact H
                clear H
                have H := H1
                clear H1
                have H' := Aside0.mk H
                clear H
                have hnb49 := NB153_149.out
                have hnc49 := NB149_153.out
                have hnb50 := NB153_154.out
                have hnc50 := NB154_153.out
                have hnb51 := NB153_155.out
                have hnc51 := NB155_153.out
                have hcz52_0 : wr.cell? ⟨gb153, 0, none⟩ = some (.int .i64 t150) := (blk_cell BK153.out 0).trans rfl
                have hcz52_1 : wr.cell? ⟨gb153, 1, none⟩ = some (.int .i64 t151) := (blk_cell BK153.out 1).trans rfl
                have hcz52_2 : wr.cell? ⟨gb153, 2, none⟩ = some (.int .i64 t152) := (blk_cell BK153.out 2).trans rfl
                have hfz52_0 := blk_frozen BK153.out 0
                have hfz52_1 := blk_frozen BK153.out 1
                have hfz52_2 := blk_frozen BK153.out 2
                go_wp2_with (first | ((with_reducible refine gate_callee (f := 9) rfl ?_); refine goesL_ (some 67) rfl rfl Try.func9 (by kernel_rfl) rfl #[.int .i64 (wrap64 (1 + (Int.tmod (wrap64 (a0)) 1000))), .agg #[.int .i64 2, .int .i64 x11_2, .int .i64 t152], .agg #[.int .i64 t150, .int .i64 t151, .int .i64 t152]] rfl (by (try simp only [List.map_toArray, List.map_cons, List.map_nil]); first | done | rfl | (simp only [List.length_drop, List.length_take]; rfl)) ?_; (with_reducible refine (turn_Less.calls (wrap64 (1 + (Int.tmod (wrap64 (a0)) 1000))) 2 x11_2 t152 t150 t151 t152 true _ A47.out).mono ?_); rintro e w53 ⟨rfl, hb⟩; refine ⟨_, rfl, ?_⟩; have n0_ := Aside0.mk (blk_below (g := gb149) (o := .cells #[.int .u16 a1_0, .int .u16 a1_1] 23 (0, 0)) (by (with_reducible repeat (first | refine blk_drewN ?_ _ | refine blk_drew ?_ | refine blk_alloc ?_ _)); exact BK149.out) hb); have n1_ := Aside0.mk (blk_below (g := gb153) (o := .cells #[.int .i64 t150, .int .i64 t151, .int .i64 t152] 26 (0, 0)) (by (with_reducible repeat (first | refine blk_drewN ?_ _ | refine blk_drew ?_ | refine blk_alloc ?_ _)); exact BK153.out) hb); have n2_ := Aside0.mk (blk_below (g := gb154) (o := .cells #[.int .i64 2, .int .i64 (Int.tmod (wrap64 (a2)) 8), .int .i64 (wrap64 ((wrap64 ((wrap64 (t152 + (wrap64 ((wrap64 (1 + (Int.tmod (wrap64 (a0)) 1000))) * t151)))) + 1)) + (wrap64 (Int.tdiv (wrap64 (a2)) 8))))] 26 (0, 0)) (by (with_reducible repeat (first | refine blk_drewN ?_ _ | refine blk_drew ?_ | refine blk_alloc ?_ _)); exact BK154.out) hb); have n3_ := Aside0.mk (blk_below (g := gb155) (o := .cells #[.int .i64 2, .int .i64 t151, .int .i64 (wrap64 ((wrap64 (t152 + 1)) + (wrap64 (a2))))] 26 (0, 0)) (by (with_reducible repeat (first | refine blk_drewN ?_ _ | refine blk_drew ?_ | refine blk_alloc ?_ _)); exact BK155.out) hb); have n4_ := Aside0.mk (below_step (by repeat (first | (with_reducible first | exact HB.out | apply below_alloc | apply pw_below_drewN | apply below_drew1 | refine below_set ?_ GE149.out | refine below_set ?_ GE153.out | refine below_set ?_ GE154.out | refine below_set ?_ GE155.out) | exact HB.out)) hb); clear BK149; clear BK153; clear BK154; clear BK155; clear HB; have BK149 := n0_; have BK153 := n1_; have BK154 := n2_; have BK155 := n3_; have HB := n4_; clear n0_ n1_ n2_ n3_ n4_; (try clear hb); (try clear hb2); (try clear hk); (try clear hi)))
                go_roundg k2
                case measure => have := HJ4.out; have := HK2.out; omega
                case rel => exact ⟨(wrap64 (x11_2 + 1)), (by first | rfl | (simp; done) | (simp [*]; done)), H', ⟨by have := HJ4.out; have := HK2.out; omega⟩, ⟨by (with_reducible repeat (first | refine blk_drewN ?_ _ | refine blk_drew ?_ | refine blk_alloc ?_ _)); exact BK149.out⟩, ⟨by (with_reducible repeat (first | refine blk_drewN ?_ _ | refine blk_drew ?_ | refine blk_alloc ?_ _)); exact BK153.out⟩, ⟨by (with_reducible repeat (first | refine blk_drewN ?_ _ | refine blk_drew ?_ | refine blk_alloc ?_ _)); exact BK154.out⟩, ⟨by (with_reducible repeat (first | refine blk_drewN ?_ _ | refine blk_drew ?_ | refine blk_alloc ?_ _)); exact BK155.out⟩, ⟨by repeat (first | (with_reducible first | exact HB.out | apply below_alloc | apply pw_below_drewN | apply below_drew1 | refine below_set ?_ GE149.out | refine below_set ?_ GE153.out | refine below_set ?_ GE154.out | refine below_set ?_ GE155.out) | exact HB.out)⟩⟩
              · replace c48 := Bool.eq_false_iff.mpr c48
                subst c48
                have H1 : (none) = some r := by rw [if_neg (show ¬ (false = true) by decide)] at H; exact H
                clear H
                have H := H1
                clear H1
                exact absurd H (by simp)
            · rw [if_neg c46] at H
              have c46b0 : decide (x11_2 < t151) = false := decide_eq_false c46
              clear c46
              replace H := Option.bind_eq_some_iff.mp H
              obtain ⟨t159, A540, H⟩ := H
              replace H : (some t159) = some r := H
              have A54 := Aside0.mk A540
              clear A540
              obtain rfl := Option.some.inj H
              have hnb55 := NB153_149.out
              have hnc55 := NB149_153.out
              have hnb56 := NB153_154.out
              have hnc56 := NB154_153.out
              have hnb57 := NB153_155.out
              have hnc57 := NB155_153.out
              have hcz58_0 : wr.cell? ⟨gb153, 0, none⟩ = some (.int .i64 t150) := (blk_cell BK153.out 0).trans rfl
              have hcz58_1 : wr.cell? ⟨gb153, 1, none⟩ = some (.int .i64 t151) := (blk_cell BK153.out 1).trans rfl
              have hcz58_2 : wr.cell? ⟨gb153, 2, none⟩ = some (.int .i64 t152) := (blk_cell BK153.out 2).trans rfl
              have hfz58_0 := blk_frozen BK153.out 0
              have hfz58_1 := blk_frozen BK153.out 1
              have hfz58_2 := blk_frozen BK153.out 2
              go_wp2_with (first | ((with_reducible refine gate_callee (f := 10) rfl ?_); refine goesL_ (some 69) rfl rfl Try.func10 (by kernel_rfl) rfl #[] rfl (by (try simp only [List.map_toArray, List.map_cons, List.map_nil]); first | done | rfl | (simp only [List.length_drop, List.length_take]; rfl)) ?_; (with_reducible refine (remontoirlaw08_wakes.calls k2  t159 _ A54.out).mono ?_); rintro e w59 ⟨rfl, hb⟩; refine ⟨_, rfl, ?_⟩; have n0_ := Aside0.mk (blk_below (g := gb149) (o := .cells #[.int .u16 a1_0, .int .u16 a1_1] 23 (0, 0)) (by (with_reducible repeat (first | refine blk_drewN ?_ _ | refine blk_drew ?_ | refine blk_alloc ?_ _)); exact BK149.out) hb); have n1_ := Aside0.mk (blk_below (g := gb153) (o := .cells #[.int .i64 t150, .int .i64 t151, .int .i64 t152] 26 (0, 0)) (by (with_reducible repeat (first | refine blk_drewN ?_ _ | refine blk_drew ?_ | refine blk_alloc ?_ _)); exact BK153.out) hb); have n2_ := Aside0.mk (blk_below (g := gb154) (o := .cells #[.int .i64 2, .int .i64 (Int.tmod (wrap64 (a2)) 8), .int .i64 (wrap64 ((wrap64 ((wrap64 (t152 + (wrap64 ((wrap64 (1 + (Int.tmod (wrap64 (a0)) 1000))) * t151)))) + 1)) + (wrap64 (Int.tdiv (wrap64 (a2)) 8))))] 26 (0, 0)) (by (with_reducible repeat (first | refine blk_drewN ?_ _ | refine blk_drew ?_ | refine blk_alloc ?_ _)); exact BK154.out) hb); have n3_ := Aside0.mk (blk_below (g := gb155) (o := .cells #[.int .i64 2, .int .i64 t151, .int .i64 (wrap64 ((wrap64 (t152 + 1)) + (wrap64 (a2))))] 26 (0, 0)) (by (with_reducible repeat (first | refine blk_drewN ?_ _ | refine blk_drew ?_ | refine blk_alloc ?_ _)); exact BK155.out) hb); have n4_ := Aside0.mk (below_step (by repeat (first | (with_reducible first | exact HB.out | apply below_alloc | apply pw_below_drewN | apply below_drew1 | refine below_set ?_ GE149.out | refine below_set ?_ GE153.out | refine below_set ?_ GE154.out | refine below_set ?_ GE155.out) | exact HB.out)) hb); clear BK149; clear BK153; clear BK154; clear BK155; clear HB; have BK149 := n0_; have BK153 := n1_; have BK154 := n2_; have BK155 := n3_; have HB := n4_; clear n0_ n1_ n2_ n3_ n4_; (try clear hb); (try clear hb2); (try clear hk); (try clear hi)))
              go_ret
              exact ⟨by first | rfl | (simp [errW_none, errW_some] <;> rfl) | (simp [*, errW_none, errW_some] <;> rfl), by repeat (first | (with_reducible first | exact HB.out | apply below_alloc | apply pw_below_drewN | apply below_drew1 | refine below_set ?_ GE149.out | refine below_set ?_ GE153.out | refine below_set ?_ GE154.out | refine below_set ?_ GE155.out) | exact HB.out)⟩

end Go.Proofs.Ytdnonlapiheenaa.PAll
