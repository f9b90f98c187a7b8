-- Printed by a program of ours (wip/common/mkprint.py), turned from the kit's print; Lean checks it.
import Derived.Test.YtedolmjealgeoaaDoorPBasex0
import Derived.Test.YtedolmjealgeoaaDoorPBasex5
namespace Go.Proofs.YtedolmjealgeoaaDoor.PBase
open Go.Proofs.YtedolmjealgeoaaDoor.Gv
open Go.RowKit Go.Proofs.YtedolmjealgeoaaDoorW.PrintWords Go.Proofs.YtedolmjealgeoaaDoorW.PrintLast Go.Proofs.YtedolmjealgeoaaDoorW.PrintMore
attribute [local go_sem] max2_int min2_int max_two min_two max_three min_three max_four min_four   -- for this text's walks alone
set_option linter.unusedVariables false
set_option linter.unusedSimpArgs false

/-! ### remontoirref01_Top: function 98 -/
def remontoirref01_Top.l0 : Nat → Int → Int → Int → Int → Int → Int → Int → Int → Int → Int → Int → Int → Int → Int → Int → Int → Int → Int → Int → Int → Int → Int → Int → Option (Int)
  | 0, _, _, _, _, _, _, _, _, _, _, _, _, _, _, _, _, _, _, _, _, _, _, _ => none
  | k + 1, x7, x250000, x250001, x250002, x250003, x250004, x250005, x250006, x250007, x250008, x250009, x250010, x251000, x251001, x251002, x251003, x251004, x251005, x251006, x251007, x251008, x251009, x251010 => if x7 ≥ 0 then (if x7 = 0 then (if x250000 = x251000 then (remontoirref01_Top.l0 k (wrap64 (x7 - 1)) x250000 x250001 x250002 x250003 x250004 x250005 x250006 x250007 x250008 x250009 x250010 x251000 x251001 x251002 x251003 x251004 x251005 x251006 x251007 x251008 x251009 x251010) else (some x7)) else (if x7 = 1 then (if x250001 = x251001 then (remontoirref01_Top.l0 k (wrap64 (x7 - 1)) x250000 x250001 x250002 x250003 x250004 x250005 x250006 x250007 x250008 x250009 x250010 x251000 x251001 x251002 x251003 x251004 x251005 x251006 x251007 x251008 x251009 x251010) else (some x7)) else (if x7 = 2 then (if x250002 = x251002 then (remontoirref01_Top.l0 k (wrap64 (x7 - 1)) x250000 x250001 x250002 x250003 x250004 x250005 x250006 x250007 x250008 x250009 x250010 x251000 x251001 x251002 x251003 x251004 x251005 x251006 x251007 x251008 x251009 x251010) else (some x7)) else (if x7 = 3 then (if x250003 = x251003 then (remontoirref01_Top.l0 k (wrap64 (x7 - 1)) x250000 x250001 x250002 x250003 x250004 x250005 x250006 x250007 x250008 x250009 x250010 x251000 x251001 x251002 x251003 x251004 x251005 x251006 x251007 x251008 x251009 x251010) else (some x7)) else (if x7 = 4 then (if x250004 = x251004 then (remontoirref01_Top.l0 k (wrap64 (x7 - 1)) x250000 x250001 x250002 x250003 x250004 x250005 x250006 x250007 x250008 x250009 x250010 x251000 x251001 x251002 x251003 x251004 x251005 x251006 x251007 x251008 x251009 x251010) else (some x7)) else (if x7 = 5 then (if x250005 = x251005 then (remontoirref01_Top.l0 k (wrap64 (x7 - 1)) x250000 x250001 x250002 x250003 x250004 x250005 x250006 x250007 x250008 x250009 x250010 x251000 x251001 x251002 x251003 x251004 x251005 x251006 x251007 x251008 x251009 x251010) else (some x7)) else (if x7 = 6 then (if x250006 = x251006 then (remontoirref01_Top.l0 k (wrap64 (x7 - 1)) x250000 x250001 x250002 x250003 x250004 x250005 x250006 x250007 x250008 x250009 x250010 x251000 x251001 x251002 x251003 x251004 x251005 x251006 x251007 x251008 x251009 x251010) else (some x7)) else (if x7 = 7 then (if x250007 = x251007 then (remontoirref01_Top.l0 k (wrap64 (x7 - 1)) x250000 x250001 x250002 x250003 x250004 x250005 x250006 x250007 x250008 x250009 x250010 x251000 x251001 x251002 x251003 x251004 x251005 x251006 x251007 x251008 x251009 x251010) else (some x7)) else (if x7 = 8 then (if x250008 = x251008 then (remontoirref01_Top.l0 k (wrap64 (x7 - 1)) x250000 x250001 x250002 x250003 x250004 x250005 x250006 x250007 x250008 x250009 x250010 x251000 x251001 x251002 x251003 x251004 x251005 x251006 x251007 x251008 x251009 x251010) else (some x7)) else (if x7 = 9 then (if x250009 = x251009 then (remontoirref01_Top.l0 k (wrap64 (x7 - 1)) x250000 x250001 x250002 x250003 x250004 x250005 x250006 x250007 x250008 x250009 x250010 x251000 x251001 x251002 x251003 x251004 x251005 x251006 x251007 x251008 x251009 x251010) else (some x7)) else (if x7 = 10 then (if x250010 = x251010 then (remontoirref01_Top.l0 k (wrap64 (x7 - 1)) x250000 x250001 x250002 x250003 x250004 x250005 x250006 x250007 x250008 x250009 x250010 x251000 x251001 x251002 x251003 x251004 x251005 x251006 x251007 x251008 x251009 x251010) else (some x7)) else (none)))))))))))) else (some (-1))
def remontoirref01_Top.f (k : Nat) (a0 : Int) (a1 : Int) : Option (Int) := (remontoirref01_Digits.f k a0).bind fun bt227 => ((remontoirref01_Digits.f k a1).bind fun bt238 => (remontoirref01_Top.l0 k 10 bt227.1 bt227.2.1 bt227.2.2.1 bt227.2.2.2.1 bt227.2.2.2.2.1 bt227.2.2.2.2.2.1 bt227.2.2.2.2.2.2.1 bt227.2.2.2.2.2.2.2.1 bt227.2.2.2.2.2.2.2.2.1 bt227.2.2.2.2.2.2.2.2.2.1 bt227.2.2.2.2.2.2.2.2.2.2 bt238.1 bt238.2.1 bt238.2.2.1 bt238.2.2.2.1 bt238.2.2.2.2.1 bt238.2.2.2.2.2.1 bt238.2.2.2.2.2.2.1 bt238.2.2.2.2.2.2.2.1 bt238.2.2.2.2.2.2.2.2.1 bt238.2.2.2.2.2.2.2.2.2.1 bt238.2.2.2.2.2.2.2.2.2.2))
theorem remontoirref01_Top.mono_l : ∀ k, (∀ y0 y1 y2 y3 y4 y5 y6 y7 y8 y9 y10 y11 y12 y13 y14 y15 y16 y17 y18 y19 y20 y21 y22, LeO (remontoirref01_Top.l0 k y0 y1 y2 y3 y4 y5 y6 y7 y8 y9 y10 y11 y12 y13 y14 y15 y16 y17 y18 y19 y20 y21 y22) (remontoirref01_Top.l0 (k + 1) y0 y1 y2 y3 y4 y5 y6 y7 y8 y9 y10 y11 y12 y13 y14 y15 y16 y17 y18 y19 y20 y21 y22))
  | 0 => fun _ _ _ _ _ _ _ _ _ _ _ _ _ _ _ _ _ _ _ _ _ _ _ r h => by simp [remontoirref01_Top.l0] at h
  | k + 1 => by
    have ih0 := remontoirref01_Top.mono_l k
    · intro y0 y1 y2 y3 y4 y5 y6 y7 y8 y9 y10 y11 y12 y13 y14 y15 y16 y17 y18 y19 y20 y21 y22
      unfold remontoirref01_Top.l0
      repeat' first
      | (with_reducible exact ih0 _ _ _ _ _ _ _ _ _ _ _ _ _ _ _ _ _ _ _ _ _ _ _)
      | (with_reducible exact remontoirref01_Digits.mono _ _)
      | (with_reducible exact LeO.refl _)
      | (with_reducible exact LeO.none _)
      | (with_reducible refine LeO.ite ?_ ?_)
      | (with_reducible refine LeO.bind ?_ (fun _ => ?_))
      | exact ih0 _ _ _ _ _ _ _ _ _ _ _ _ _ _ _ _ _ _ _ _ _ _ _
      | exact remontoirref01_Digits.mono _ _
      | exact LeO.none _
      | refine LeO.ite ?_ ?_
      | refine LeO.bind ?_ (fun _ => ?_)
theorem remontoirref01_Top.mono : ∀ a0 a1 k, LeO (remontoirref01_Top.f k a0 a1) (remontoirref01_Top.f (k + 1) a0 a1) := by
  intro a0 a1 k
  have ih0 := remontoirref01_Top.mono_l k
  unfold remontoirref01_Top.f
  repeat' first
      | (with_reducible exact ih0 _ _ _ _ _ _ _ _ _ _ _ _ _ _ _ _ _ _ _ _ _ _ _)
      | (with_reducible exact remontoirref01_Digits.mono _ _)
      | (with_reducible exact LeO.refl _)
      | (with_reducible exact LeO.none _)
      | (with_reducible refine LeO.ite ?_ ?_)
      | (with_reducible refine LeO.bind ?_ (fun _ => ?_))
      | exact ih0 _ _ _ _ _ _ _ _ _ _ _ _ _ _ _ _ _ _ _ _ _ _ _
      | exact remontoirref01_Digits.mono _ _
      | exact LeO.none _
      | refine LeO.ite ?_ ?_
      | refine LeO.bind ?_ (fun _ => ?_)
set_option maxHeartbeats 8000000 in
set_option maxRecDepth 100000 in
theorem remontoirref01_Top.calls (k : Nat) (a0 : Int) (a1 : Int) (r : Int) (w : World) (h : remontoirref01_Top.f k a0 a1 = some r) :
    Calls Tryd.prog 98 #[.int .u64 a0, .int .u64 a1] w fun e w' => e = .returned (.int .i64 r) ∧ Below w.heap.size w w' := by
  have hu93 := Tryd.underlying93
  have HB := Aside0.mk (Below.refl w.heap.size w)
  have H : ((remontoirref01_Digits.f k a0).bind fun bt227 => ((remontoirref01_Digits.f k a1).bind fun bt238 => (remontoirref01_Top.l0 k 10 bt227.1 bt227.2.1 bt227.2.2.1 bt227.2.2.2.1 bt227.2.2.2.2.1 bt227.2.2.2.2.2.1 bt227.2.2.2.2.2.2.1 bt227.2.2.2.2.2.2.2.1 bt227.2.2.2.2.2.2.2.2.1 bt227.2.2.2.2.2.2.2.2.2.1 bt227.2.2.2.2.2.2.2.2.2.2 bt238.1 bt238.2.1 bt238.2.2.1 bt238.2.2.2.1 bt238.2.2.2.2.1 bt238.2.2.2.2.2.1 bt238.2.2.2.2.2.2.1 bt238.2.2.2.2.2.2.2.1 bt238.2.2.2.2.2.2.2.2.1 bt238.2.2.2.2.2.2.2.2.2.1 bt238.2.2.2.2.2.2.2.2.2.2))) = some r := h
  clear h
  replace H := Option.bind_eq_some_iff.mp H
  obtain ⟨⟨t227, t228, t229, t230, t231, t232, t233, t234, t235, t236, t237⟩, A30, H⟩ := H
  replace H : ((remontoirref01_Digits.f k a1).bind fun bt238 => (remontoirref01_Top.l0 k 10 t227 t228 t229 t230 t231 t232 t233 t234 t235 t236 t237 bt238.1 bt238.2.1 bt238.2.2.1 bt238.2.2.2.1 bt238.2.2.2.2.1 bt238.2.2.2.2.2.1 bt238.2.2.2.2.2.2.1 bt238.2.2.2.2.2.2.2.1 bt238.2.2.2.2.2.2.2.2.1 bt238.2.2.2.2.2.2.2.2.2.1 bt238.2.2.2.2.2.2.2.2.2.2)) = some r := H
  have A3 := Aside0.mk A30
  clear A30
  replace H := Option.bind_eq_some_iff.mp H
  obtain ⟨⟨t238, t239, t240, t241, t242, t243, t244, t245, t246, t247, t248⟩, A40, H⟩ := H
  replace H : (remontoirref01_Top.l0 k 10 t227 t228 t229 t230 t231 t232 t233 t234 t235 t236 t237 t238 t239 t240 t241 t242 t243 t244 t245 t246 t247 t248) = some r := H
  have A4 := Aside0.mk A40
  clear A40
  have H' := Aside0.mk H
  clear H
  go_enter Tryd.func98, Tryd.ntmps98
  go_wp2_with (first | (go_at_call 78; (with_reducible refine (remontoirref01_Digits.calls k a0 t227 t228 t229 t230 t231 t232 t233 t234 t235 t236 t237 _ A3.out).mono ?_); rintro e w5 ⟨rfl, hb⟩; have n0_ := Aside0.mk (below_step (by repeat (first | (with_reducible first | exact HB.out | apply below_alloc | apply pw_below_drewN | apply below_drew1) | exact HB.out)) hb); clear HB; have HB := n0_; clear n0_; (try clear hb); (try clear hb2); (try clear hk); (try clear hi)) | (go_at_call 78; (with_reducible refine (remontoirref01_Digits.calls k a1 t238 t239 t240 t241 t242 t243 t244 t245 t246 t247 t248 _ A4.out).mono ?_); rintro e w6 ⟨rfl, hb⟩; have n0_ := Aside0.mk (below_step (by repeat (first | (with_reducible first | exact HB.out | apply below_alloc | apply pw_below_drewN | apply below_drew1) | exact HB.out)) hb); clear HB; have HB := n0_; clear n0_; (try clear hb); (try clear hb2); (try clear hk); (try clear hi)) | ((with_reducible refine gate_dst (N := 5) rfl ?_); refine box_event ?hg (N := 5) ?hd (cs := #[.int .i64 0, .int .i64 0, .int .i64 0, .int .i64 0, .int .i64 0, .int .i64 0, .int .i64 0, .int .i64 0, .int .i64 0, .int .i64 0, .int .i64 0]) (t := 93) ?hr ?_; (case hd => rfl); (case hg => rfl); (case hr => first | (go_simp; done) | (go_simp; rfl)); intro gb249 hg w7 hbox hb; have n0_ := Aside0.mk (below_step (by repeat (first | (with_reducible first | exact HB.out | apply below_alloc | apply pw_below_drewN | apply below_drew1) | exact HB.out)) hb); have n1_ := Aside0.mk (hbox); have n2_ := Aside0.mk ((by rw [hg]; exact (below_size (by repeat (first | (with_reducible first | exact HB.out | apply below_alloc | apply pw_below_drewN | apply below_drew1) | exact HB.out))) : w.heap.size ≤ gb249)); have n3_ := Aside0.mk ((by rw [hg]; exact (below_size (by repeat (first | (with_reducible first | exact HB.out | apply below_alloc | apply pw_below_drewN | apply below_drew1) | exact HB.out))) : w.heap.size ≤ gb249)); clear HB; have HB := n0_; have BK249 := n1_; have GW249 := n2_; have GE249 := n3_; clear n0_ n1_ n2_ n3_; clear hb hbox hg) | ((with_reducible refine gate_dst (N := 6) rfl ?_); refine box_event ?hg (N := 6) ?hd (cs := #[.int .i64 0, .int .i64 0, .int .i64 0, .int .i64 0, .int .i64 0, .int .i64 0, .int .i64 0, .int .i64 0, .int .i64 0, .int .i64 0, .int .i64 0]) (t := 93) ?hr ?_; (case hd => rfl); (case hg => rfl); (case hr => first | (go_simp; done) | (go_simp; rfl)); intro gb250 hg w8 hbox hb; have n0_ := Aside0.mk (blk_below (g := gb249) (o := .cells #[.int .i64 0, .int .i64 0, .int .i64 0, .int .i64 0, .int .i64 0, .int .i64 0, .int .i64 0, .int .i64 0, .int .i64 0, .int .i64 0, .int .i64 0] 93 (0, 0)) (by (with_reducible repeat (first | refine blk_drewN ?_ _ | refine blk_drew ?_ | refine blk_alloc ?_ _)); exact BK249.out) hb); have n1_ := Aside0.mk (below_step (by repeat (first | (with_reducible first | exact HB.out | apply below_alloc | apply pw_below_drewN | apply below_drew1 | refine below_set ?_ GE249.out) | exact HB.out)) hb); have n2_ := Aside0.mk (hbox); have n3_ := Aside0.mk ((by rw [hg]; exact (below_size (by repeat (first | (with_reducible first | exact HB.out | apply below_alloc | apply pw_below_drewN | apply below_drew1 | refine below_set ?_ GE249.out) | exact HB.out))) : w.heap.size ≤ gb250)); have n4_ := Aside0.mk ((by rw [hg]; exact (below_size (by repeat (first | (with_reducible first | exact HB.out | apply below_alloc | apply pw_below_drewN | apply below_drew1 | refine below_set ?_ GE249.out) | exact HB.out))) : w.heap.size ≤ gb250)); have n5_ := Aside0.mk ((by rw [hg]; exact Nat.ne_of_lt (blk_lt (g := gb249) (o := .cells #[.int .i64 0, .int .i64 0, .int .i64 0, .int .i64 0, .int .i64 0, .int .i64 0, .int .i64 0, .int .i64 0, .int .i64 0, .int .i64 0, .int .i64 0] 93 (0, 0)) (by (with_reducible repeat (first | refine blk_drewN ?_ _ | refine blk_drew ?_ | refine blk_alloc ?_ _)); exact BK249.out)) : gb249 ≠ gb250)); have n6_ := Aside0.mk ((by rw [hg]; exact Nat.ne_of_gt (blk_lt (g := gb249) (o := .cells #[.int .i64 0, .int .i64 0, .int .i64 0, .int .i64 0, .int .i64 0, .int .i64 0, .int .i64 0, .int .i64 0, .int .i64 0, .int .i64 0, .int .i64 0] 93 (0, 0)) (by (with_reducible repeat (first | refine blk_drewN ?_ _ | refine blk_drew ?_ | refine blk_alloc ?_ _)); exact BK249.out)) : gb250 ≠ gb249)); clear BK249; clear HB; have BK249 := n0_; have HB := n1_; have BK250 := n2_; have GW250 := n3_; have GE250 := n4_; have NB249_250 := n5_; have NB250_249 := n6_; clear n0_ n1_ n2_ n3_ n4_ n5_ n6_; clear hb hbox hg; have hnb9 := NB249_250.out; have hnc9 := NB250_249.out; have hcz10_0 : w8.cell? ⟨gb249, 0, none⟩ = some (.int .i64 0) := (blk_cell BK249.out 0).trans rfl; have hcz10_1 : w8.cell? ⟨gb249, 1, none⟩ = some (.int .i64 0) := (blk_cell BK249.out 1).trans rfl; have hcz10_2 : w8.cell? ⟨gb249, 2, none⟩ = some (.int .i64 0) := (blk_cell BK249.out 2).trans rfl; have hcz10_3 : w8.cell? ⟨gb249, 3, none⟩ = some (.int .i64 0) := (blk_cell BK249.out 3).trans rfl; have hcz10_4 : w8.cell? ⟨gb249, 4, none⟩ = some (.int .i64 0) := (blk_cell BK249.out 4).trans rfl; have hcz10_5 : w8.cell? ⟨gb249, 5, none⟩ = some (.int .i64 0) := (blk_cell BK249.out 5).trans rfl; have hcz10_6 : w8.cell? ⟨gb249, 6, none⟩ = some (.int .i64 0) := (blk_cell BK249.out 6).trans rfl; have hcz10_7 : w8.cell? ⟨gb249, 7, none⟩ = some (.int .i64 0) := (blk_cell BK249.out 7).trans rfl; have hcz10_8 : w8.cell? ⟨gb249, 8, none⟩ = some (.int .i64 0) := (blk_cell BK249.out 8).trans rfl; have hcz10_9 : w8.cell? ⟨gb249, 9, none⟩ = some (.int .i64 0) := (blk_cell BK249.out 9).trans rfl; have hcz10_10 : w8.cell? ⟨gb249, 10, none⟩ = some (.int .i64 0) := (blk_cell BK249.out 10).trans rfl; have hfz10_0 := blk_frozen BK249.out 0; have hfz10_1 := blk_frozen BK249.out 1; have hfz10_2 := blk_frozen BK249.out 2; have hfz10_3 := blk_frozen BK249.out 3; have hfz10_4 := blk_frozen BK249.out 4; have hfz10_5 := blk_frozen BK249.out 5; have hfz10_6 := blk_frozen BK249.out 6; have hfz10_7 := blk_frozen BK249.out 7; have hfz10_8 := blk_frozen BK249.out 8; have hfz10_9 := blk_frozen BK249.out 9; have hfz10_10 := blk_frozen BK249.out 10; have hcz11_0 : w8.cell? ⟨gb250, 0, none⟩ = some (.int .i64 0) := (blk_cell BK250.out 0).trans rfl; have hcz11_1 : w8.cell? ⟨gb250, 1, none⟩ = some (.int .i64 0) := (blk_cell BK250.out 1).trans rfl; have hcz11_2 : w8.cell? ⟨gb250, 2, none⟩ = some (.int .i64 0) := (blk_cell BK250.out 2).trans rfl; have hcz11_3 : w8.cell? ⟨gb250, 3, none⟩ = some (.int .i64 0) := (blk_cell BK250.out 3).trans rfl; have hcz11_4 : w8.cell? ⟨gb250, 4, none⟩ = some (.int .i64 0) := (blk_cell BK250.out 4).trans rfl; have hcz11_5 : w8.cell? ⟨gb250, 5, none⟩ = some (.int .i64 0) := (blk_cell BK250.out 5).trans rfl; have hcz11_6 : w8.cell? ⟨gb250, 6, none⟩ = some (.int .i64 0) := (blk_cell BK250.out 6).trans rfl; have hcz11_7 : w8.cell? ⟨gb250, 7, none⟩ = some (.int .i64 0) := (blk_cell BK250.out 7).trans rfl; have hcz11_8 : w8.cell? ⟨gb250, 8, none⟩ = some (.int .i64 0) := (blk_cell BK250.out 8).trans rfl; have hcz11_9 : w8.cell? ⟨gb250, 9, none⟩ = some (.int .i64 0) := (blk_cell BK250.out 9).trans rfl; have hcz11_10 : w8.cell? ⟨gb250, 10, none⟩ = some (.int .i64 0) := (blk_cell BK250.out 10).trans rfl; have hfz11_0 := blk_frozen BK250.out 0; have hfz11_1 := blk_frozen BK250.out 1; have hfz11_2 := blk_frozen BK250.out 2; have hfz11_3 := blk_frozen BK250.out 3; have hfz11_4 := blk_frozen BK250.out 4; have hfz11_5 := blk_frozen BK250.out 5; have hfz11_6 := blk_frozen BK250.out 6; have hfz11_7 := blk_frozen BK250.out 7; have hfz11_8 := blk_frozen BK250.out 8; have hfz11_9 := blk_frozen BK250.out 9; have hfz11_10 := blk_frozen BK250.out 10))
  repeat (go_quiet (first | (go_at_call 78; (with_reducible refine (remontoirref01_Digits.calls k a0 t227 t228 t229 t230 t231 t232 t233 t234 t235 t236 t237 _ A3.out).mono ?_); rintro e w5 ⟨rfl, hb⟩; have n0_ := Aside0.mk (below_step (by repeat (first | (with_reducible first | exact HB.out | apply below_alloc | apply pw_below_drewN | apply below_drew1) | exact HB.out)) hb); clear HB; have HB := n0_; clear n0_; (try clear hb); (try clear hb2); (try clear hk); (try clear hi)) | (go_at_call 78; (with_reducible refine (remontoirref01_Digits.calls k a1 t238 t239 t240 t241 t242 t243 t244 t245 t246 t247 t248 _ A4.out).mono ?_); rintro e w6 ⟨rfl, hb⟩; have n0_ := Aside0.mk (below_step (by repeat (first | (with_reducible first | exact HB.out | apply below_alloc | apply pw_below_drewN | apply below_drew1) | exact HB.out)) hb); clear HB; have HB := n0_; clear n0_; (try clear hb); (try clear hb2); (try clear hk); (try clear hi)) | ((with_reducible refine gate_dst (N := 5) rfl ?_); refine box_event ?hg (N := 5) ?hd (cs := #[.int .i64 0, .int .i64 0, .int .i64 0, .int .i64 0, .int .i64 0, .int .i64 0, .int .i64 0, .int .i64 0, .int .i64 0, .int .i64 0, .int .i64 0]) (t := 93) ?hr ?_; (case hd => rfl); (case hg => rfl); (case hr => first | (go_simp; done) | (go_simp; rfl)); intro gb249 hg w7 hbox hb; have n0_ := Aside0.mk (below_step (by repeat (first | (with_reducible first | exact HB.out | apply below_alloc | apply pw_below_drewN | apply below_drew1) | exact HB.out)) hb); have n1_ := Aside0.mk (hbox); have n2_ := Aside0.mk ((by rw [hg]; exact (below_size (by repeat (first | (with_reducible first | exact HB.out | apply below_alloc | apply pw_below_drewN | apply below_drew1) | exact HB.out))) : w.heap.size ≤ gb249)); have n3_ := Aside0.mk ((by rw [hg]; exact (below_size (by repeat (first | (with_reducible first | exact HB.out | apply below_alloc | apply pw_below_drewN | apply below_drew1) | exact HB.out))) : w.heap.size ≤ gb249)); clear HB; have HB := n0_; have BK249 := n1_; have GW249 := n2_; have GE249 := n3_; clear n0_ n1_ n2_ n3_; clear hb hbox hg) | ((with_reducible refine gate_dst (N := 6) rfl ?_); refine box_event ?hg (N := 6) ?hd (cs := #[.int .i64 0, .int .i64 0, .int .i64 0, .int .i64 0, .int .i64 0, .int .i64 0, .int .i64 0, .int .i64 0, .int .i64 0, .int .i64 0, .int .i64 0]) (t := 93) ?hr ?_; (case hd => rfl); (case hg => rfl); (case hr => first | (go_simp; done) | (go_simp; rfl)); intro gb250 hg w8 hbox hb; have n0_ := Aside0.mk (blk_below (g := gb249) (o := .cells #[.int .i64 0, .int .i64 0, .int .i64 0, .int .i64 0, .int .i64 0, .int .i64 0, .int .i64 0, .int .i64 0, .int .i64 0, .int .i64 0, .int .i64 0] 93 (0, 0)) (by (with_reducible repeat (first | refine blk_drewN ?_ _ | refine blk_drew ?_ | refine blk_alloc ?_ _)); exact BK249.out) hb); have n1_ := Aside0.mk (below_step (by repeat (first | (with_reducible first | exact HB.out | apply below_alloc | apply pw_below_drewN | apply below_drew1 | refine below_set ?_ GE249.out) | exact HB.out)) hb); have n2_ := Aside0.mk (hbox); have n3_ := Aside0.mk ((by rw [hg]; exact (below_size (by repeat (first | (with_reducible first | exact HB.out | apply below_alloc | apply pw_below_drewN | apply below_drew1 | refine below_set ?_ GE249.out) | exact HB.out))) : w.heap.size ≤ gb250)); have n4_ := Aside0.mk ((by rw [hg]; exact (below_size (by repeat (first | (with_reducible first | exact HB.out | apply below_alloc | apply pw_below_drewN | apply below_drew1 | refine below_set ?_ GE249.out) | exact HB.out))) : w.heap.size ≤ gb250)); have n5_ := Aside0.mk ((by rw [hg]; exact Nat.ne_of_lt (blk_lt (g := gb249) (o := .cells #[.int .i64 0, .int .i64 0, .int .i64 0, .int .i64 0, .int .i64 0, .int .i64 0, .int .i64 0, .int .i64 0, .int .i64 0, .int .i64 0, .int .i64 0] 93 (0, 0)) (by (with_reducible repeat (first | refine blk_drewN ?_ _ | refine blk_drew ?_ | refine blk_alloc ?_ _)); exact BK249.out)) : gb249 ≠ gb250)); have n6_ := Aside0.mk ((by rw [hg]; exact Nat.ne_of_gt (blk_lt (g := gb249) (o := .cells #[.int .i64 0, .int .i64 0, .int .i64 0, .int .i64 0, .int .i64 0, .int .i64 0, .int .i64 0, .int .i64 0, .int .i64 0, .int .i64 0, .int .i64 0] 93 (0, 0)) (by (with_reducible repeat (first | refine blk_drewN ?_ _ | refine blk_drew ?_ | refine blk_alloc ?_ _)); exact BK249.out)) : gb250 ≠ gb249)); clear BK249; clear HB; have BK249 := n0_; have HB := n1_; have BK250 := n2_; have GW250 := n3_; have GE250 := n4_; have NB249_250 := n5_; have NB250_249 := n6_; clear n0_ n1_ n2_ n3_ n4_ n5_ n6_; clear hb hbox hg; have hnb9 := NB249_250.out; have hnc9 := NB250_249.out; have hcz10_0 : w8.cell? ⟨gb249, 0, none⟩ = some (.int .i64 0) := (blk_cell BK249.out 0).trans rfl; have hcz10_1 : w8.cell? ⟨gb249, 1, none⟩ = some (.int .i64 0) := (blk_cell BK249.out 1).trans rfl; have hcz10_2 : w8.cell? ⟨gb249, 2, none⟩ = some (.int .i64 0) := (blk_cell BK249.out 2).trans rfl; have hcz10_3 : w8.cell? ⟨gb249, 3, none⟩ = some (.int .i64 0) := (blk_cell BK249.out 3).trans rfl; have hcz10_4 : w8.cell? ⟨gb249, 4, none⟩ = some (.int .i64 0) := (blk_cell BK249.out 4).trans rfl; have hcz10_5 : w8.cell? ⟨gb249, 5, none⟩ = some (.int .i64 0) := (blk_cell BK249.out 5).trans rfl; have hcz10_6 : w8.cell? ⟨gb249, 6, none⟩ = some (.int .i64 0) := (blk_cell BK249.out 6).trans rfl; have hcz10_7 : w8.cell? ⟨gb249, 7, none⟩ = some (.int .i64 0) := (blk_cell BK249.out 7).trans rfl; have hcz10_8 : w8.cell? ⟨gb249, 8, none⟩ = some (.int .i64 0) := (blk_cell BK249.out 8).trans rfl; have hcz10_9 : w8.cell? ⟨gb249, 9, none⟩ = some (.int .i64 0) := (blk_cell BK249.out 9).trans rfl; have hcz10_10 : w8.cell? ⟨gb249, 10, none⟩ = some (.int .i64 0) := (blk_cell BK249.out 10).trans rfl; have hfz10_0 := blk_frozen BK249.out 0; have hfz10_1 := blk_frozen BK249.out 1; have hfz10_2 := blk_frozen BK249.out 2; have hfz10_3 := blk_frozen BK249.out 3; have hfz10_4 := blk_frozen BK249.out 4; have hfz10_5 := blk_frozen BK249.out 5; have hfz10_6 := blk_frozen BK249.out 6; have hfz10_7 := blk_frozen BK249.out 7; have hfz10_8 := blk_frozen BK249.out 8; have hfz10_9 := blk_frozen BK249.out 9; have hfz10_10 := blk_frozen BK249.out 10; have hcz11_0 : w8.cell? ⟨gb250, 0, none⟩ = some (.int .i64 0) := (blk_cell BK250.out 0).trans rfl; have hcz11_1 : w8.cell? ⟨gb250, 1, none⟩ = some (.int .i64 0) := (blk_cell BK250.out 1).trans rfl; have hcz11_2 : w8.cell? ⟨gb250, 2, none⟩ = some (.int .i64 0) := (blk_cell BK250.out 2).trans rfl; have hcz11_3 : w8.cell? ⟨gb250, 3, none⟩ = some (.int .i64 0) := (blk_cell BK250.out 3).trans rfl; have hcz11_4 : w8.cell? ⟨gb250, 4, none⟩ = some (.int .i64 0) := (blk_cell BK250.out 4).trans rfl; have hcz11_5 : w8.cell? ⟨gb250, 5, none⟩ = some (.int .i64 0) := (blk_cell BK250.out 5).trans rfl; have hcz11_6 : w8.cell? ⟨gb250, 6, none⟩ = some (.int .i64 0) := (blk_cell BK250.out 6).trans rfl; have hcz11_7 : w8.cell? ⟨gb250, 7, none⟩ = some (.int .i64 0) := (blk_cell BK250.out 7).trans rfl; have hcz11_8 : w8.cell? ⟨gb250, 8, none⟩ = some (.int .i64 0) := (blk_cell BK250.out 8).trans rfl; have hcz11_9 : w8.cell? ⟨gb250, 9, none⟩ = some (.int .i64 0) := (blk_cell BK250.out 9).trans rfl; have hcz11_10 : w8.cell? ⟨gb250, 10, none⟩ = some (.int .i64 0) := (blk_cell BK250.out 10).trans rfl; have hfz11_0 := blk_frozen BK250.out 0; have hfz11_1 := blk_frozen BK250.out 1; have hfz11_2 := blk_frozen BK250.out 2; have hfz11_3 := blk_frozen BK250.out 3; have hfz11_4 := blk_frozen BK250.out 4; have hfz11_5 := blk_frozen BK250.out 5; have hfz11_6 := blk_frozen BK250.out 6; have hfz11_7 := blk_frozen BK250.out 7; have hfz11_8 := blk_frozen BK250.out 8; have hfz11_9 := blk_frozen BK250.out 9; have hfz11_10 := blk_frozen BK250.out 10)); try go_wp2_with (first | (go_at_call 78; (with_reducible refine (remontoirref01_Digits.calls k a0 t227 t228 t229 t230 t231 t232 t233 t234 t235 t236 t237 _ A3.out).mono ?_); rintro e w5 ⟨rfl, hb⟩; have n0_ := Aside0.mk (below_step (by repeat (first | (with_reducible first | exact HB.out | apply below_alloc | apply pw_below_drewN | apply below_drew1) | exact HB.out)) hb); clear HB; have HB := n0_; clear n0_; (try clear hb); (try clear hb2); (try clear hk); (try clear hi)) | (go_at_call 78; (with_reducible refine (remontoirref01_Digits.calls k a1 t238 t239 t240 t241 t242 t243 t244 t245 t246 t247 t248 _ A4.out).mono ?_); rintro e w6 ⟨rfl, hb⟩; have n0_ := Aside0.mk (below_step (by repeat (first | (with_reducible first | exact HB.out | apply below_alloc | apply pw_below_drewN | apply below_drew1) | exact HB.out)) hb); clear HB; have HB := n0_; clear n0_; (try clear hb); (try clear hb2); (try clear hk); (try clear hi)) | ((with_reducible refine gate_dst (N := 5) rfl ?_); refine box_event ?hg (N := 5) ?hd (cs := #[.int .i64 0, .int .i64 0, .int .i64 0, .int .i64 0, .int .i64 0, .int .i64 0, .int .i64 0, .int .i64 0, .int .i64 0, .int .i64 0, .int .i64 0]) (t := 93) ?hr ?_; (case hd => rfl); (case hg => rfl); (case hr => first | (go_simp; done) | (go_simp; rfl)); intro gb249 hg w7 hbox hb; have n0_ := Aside0.mk (below_step (by repeat (first | (with_reducible first | exact HB.out | apply below_alloc | apply pw_below_drewN | apply below_drew1) | exact HB.out)) hb); have n1_ := Aside0.mk (hbox); have n2_ := Aside0.mk ((by rw [hg]; exact (below_size (by repeat (first | (with_reducible first | exact HB.out | apply below_alloc | apply pw_below_drewN | apply below_drew1) | exact HB.out))) : w.heap.size ≤ gb249)); have n3_ := Aside0.mk ((by rw [hg]; exact (below_size (by repeat (first | (with_reducible first | exact HB.out | apply below_alloc | apply pw_below_drewN | apply below_drew1) | exact HB.out))) : w.heap.size ≤ gb249)); clear HB; have HB := n0_; have BK249 := n1_; have GW249 := n2_; have GE249 := n3_; clear n0_ n1_ n2_ n3_; clear hb hbox hg) | ((with_reducible refine gate_dst (N := 6) rfl ?_); refine box_event ?hg (N := 6) ?hd (cs := #[.int .i64 0, .int .i64 0, .int .i64 0, .int .i64 0, .int .i64 0, .int .i64 0, .int .i64 0, .int .i64 0, .int .i64 0, .int .i64 0, .int .i64 0]) (t := 93) ?hr ?_; (case hd => rfl); (case hg => rfl); (case hr => first | (go_simp; done) | (go_simp; rfl)); intro gb250 hg w8 hbox hb; have n0_ := Aside0.mk (blk_below (g := gb249) (o := .cells #[.int .i64 0, .int .i64 0, .int .i64 0, .int .i64 0, .int .i64 0, .int .i64 0, .int .i64 0, .int .i64 0, .int .i64 0, .int .i64 0, .int .i64 0] 93 (0, 0)) (by (with_reducible repeat (first | refine blk_drewN ?_ _ | refine blk_drew ?_ | refine blk_alloc ?_ _)); exact BK249.out) hb); have n1_ := Aside0.mk (below_step (by repeat (first | (with_reducible first | exact HB.out | apply below_alloc | apply pw_below_drewN | apply below_drew1 | refine below_set ?_ GE249.out) | exact HB.out)) hb); have n2_ := Aside0.mk (hbox); have n3_ := Aside0.mk ((by rw [hg]; exact (below_size (by repeat (first | (with_reducible first | exact HB.out | apply below_alloc | apply pw_below_drewN | apply below_drew1 | refine below_set ?_ GE249.out) | exact HB.out))) : w.heap.size ≤ gb250)); have n4_ := Aside0.mk ((by rw [hg]; exact (below_size (by repeat (first | (with_reducible first | exact HB.out | apply below_alloc | apply pw_below_drewN | apply below_drew1 | refine below_set ?_ GE249.out) | exact HB.out))) : w.heap.size ≤ gb250)); have n5_ := Aside0.mk ((by rw [hg]; exact Nat.ne_of_lt (blk_lt (g := gb249) (o := .cells #[.int .i64 0, .int .i64 0, .int .i64 0, .int .i64 0, .int .i64 0, .int .i64 0, .int .i64 0, .int .i64 0, .int .i64 0, .int .i64 0, .int .i64 0] 93 (0, 0)) (by (with_reducible repeat (first | refine blk_drewN ?_ _ | refine blk_drew ?_ | refine blk_alloc ?_ _)); exact BK249.out)) : gb249 ≠ gb250)); have n6_ := Aside0.mk ((by rw [hg]; exact Nat.ne_of_gt (blk_lt (g := gb249) (o := .cells #[.int .i64 0, .int .i64 0, .int .i64 0, .int .i64 0, .int .i64 0, .int .i64 0, .int .i64 0, .int .i64 0, .int .i64 0, .int .i64 0, .int .i64 0] 93 (0, 0)) (by (with_reducible repeat (first | refine blk_drewN ?_ _ | refine blk_drew ?_ | refine blk_alloc ?_ _)); exact BK249.out)) : gb250 ≠ gb249)); clear BK249; clear HB; have BK249 := n0_; have HB := n1_; have BK250 := n2_; have GW250 := n3_; have GE250 := n4_; have NB249_250 := n5_; have NB250_249 := n6_; clear n0_ n1_ n2_ n3_ n4_ n5_ n6_; clear hb hbox hg; have hnb9 := NB249_250.out; have hnc9 := NB250_249.out; have hcz10_0 : w8.cell? ⟨gb249, 0, none⟩ = some (.int .i64 0) := (blk_cell BK249.out 0).trans rfl; have hcz10_1 : w8.cell? ⟨gb249, 1, none⟩ = some (.int .i64 0) := (blk_cell BK249.out 1).trans rfl; have hcz10_2 : w8.cell? ⟨gb249, 2, none⟩ = some (.int .i64 0) := (blk_cell BK249.out 2).trans rfl; have hcz10_3 : w8.cell? ⟨gb249, 3, none⟩ = some (.int .i64 0) := (blk_cell BK249.out 3).trans rfl; have hcz10_4 : w8.cell? ⟨gb249, 4, none⟩ = some (.int .i64 0) := (blk_cell BK249.out 4).trans rfl; have hcz10_5 : w8.cell? ⟨gb249, 5, none⟩ = some (.int .i64 0) := (blk_cell BK249.out 5).trans rfl; have hcz10_6 : w8.cell? ⟨gb249, 6, none⟩ = some (.int .i64 0) := (blk_cell BK249.out 6).trans rfl; have hcz10_7 : w8.cell? ⟨gb249, 7, none⟩ = some (.int .i64 0) := (blk_cell BK249.out 7).trans rfl; have hcz10_8 : w8.cell? ⟨gb249, 8, none⟩ = some (.int .i64 0) := (blk_cell BK249.out 8).trans rfl; have hcz10_9 : w8.cell? ⟨gb249, 9, none⟩ = some (.int .i64 0) := (blk_cell BK249.out 9).trans rfl; have hcz10_10 : w8.cell? ⟨gb249, 10, none⟩ = some (.int .i64 0) := (blk_cell BK249.out 10).trans rfl; have hfz10_0 := blk_frozen BK249.out 0; have hfz10_1 := blk_frozen BK249.out 1; have hfz10_2 := blk_frozen BK249.out 2; have hfz10_3 := blk_frozen BK249.out 3; have hfz10_4 := blk_frozen BK249.out 4; have hfz10_5 := blk_frozen BK249.out 5; have hfz10_6 := blk_frozen BK249.out 6; have hfz10_7 := blk_frozen BK249.out 7; have hfz10_8 := blk_frozen BK249.out 8; have hfz10_9 := blk_frozen BK249.out 9; have hfz10_10 := blk_frozen BK249.out 10; have hcz11_0 : w8.cell? ⟨gb250, 0, none⟩ = some (.int .i64 0) := (blk_cell BK250.out 0).trans rfl; have hcz11_1 : w8.cell? ⟨gb250, 1, none⟩ = some (.int .i64 0) := (blk_cell BK250.out 1).trans rfl; have hcz11_2 : w8.cell? ⟨gb250, 2, none⟩ = some (.int .i64 0) := (blk_cell BK250.out 2).trans rfl; have hcz11_3 : w8.cell? ⟨gb250, 3, none⟩ = some (.int .i64 0) := (blk_cell BK250.out 3).trans rfl; have hcz11_4 : w8.cell? ⟨gb250, 4, none⟩ = some (.int .i64 0) := (blk_cell BK250.out 4).trans rfl; have hcz11_5 : w8.cell? ⟨gb250, 5, none⟩ = some (.int .i64 0) := (blk_cell BK250.out 5).trans rfl; have hcz11_6 : w8.cell? ⟨gb250, 6, none⟩ = some (.int .i64 0) := (blk_cell BK250.out 6).trans rfl; have hcz11_7 : w8.cell? ⟨gb250, 7, none⟩ = some (.int .i64 0) := (blk_cell BK250.out 7).trans rfl; have hcz11_8 : w8.cell? ⟨gb250, 8, none⟩ = some (.int .i64 0) := (blk_cell BK250.out 8).trans rfl; have hcz11_9 : w8.cell? ⟨gb250, 9, none⟩ = some (.int .i64 0) := (blk_cell BK250.out 9).trans rfl; have hcz11_10 : w8.cell? ⟨gb250, 10, none⟩ = some (.int .i64 0) := (blk_cell BK250.out 10).trans rfl; have hfz11_0 := blk_frozen BK250.out 0; have hfz11_1 := blk_frozen BK250.out 1; have hfz11_2 := blk_frozen BK250.out 2; have hfz11_3 := blk_frozen BK250.out 3; have hfz11_4 := blk_frozen BK250.out 4; have hfz11_5 := blk_frozen BK250.out 5; have hfz11_6 := blk_frozen BK250.out 6; have hfz11_7 := blk_frozen BK250.out 7; have hfz11_8 := blk_frozen BK250.out 8; have hfz11_9 := blk_frozen BK250.out 9; have hfz11_10 := blk_frozen BK250.out 10)))
  go_loopg [7] k (fun kq v7 w' => ∃ (x7_1 : Int), v7 = .int .i64 x7_1 ∧ Aside0 (remontoirref01_Top.l0 kq x7_1 t227 t228 t229 t230 t231 t232 t233 t234 t235 t236 t237 t238 t239 t240 t241 t242 t243 t244 t245 t246 t247 t248 = some r) ∧ Aside0 (kq ≤ k) ∧ Aside0 (w'.heap[gb249]? = some (.cells #[.int .i64 t227, .int .i64 t228, .int .i64 t229, .int .i64 t230, .int .i64 t231, .int .i64 t232, .int .i64 t233, .int .i64 t234, .int .i64 t235, .int .i64 t236, .int .i64 t237] 93 (0, 0))) ∧ Aside0 (w'.heap[gb250]? = some (.cells #[.int .i64 t238, .int .i64 t239, .int .i64 t240, .int .i64 t241, .int .i64 t242, .int .i64 t243, .int .i64 t244, .int .i64 t245, .int .i64 t246, .int .i64 t247, .int .i64 t248] 93 (0, 0))) ∧ Aside0 (Below w.heap.size w w'))
  case atStart => exact ⟨(10), (by first | rfl | (simp; done) | (simp [*]; done) | (simp; decide +kernel)), H', ⟨Nat.le_refl _⟩, ⟨by (with_reducible repeat (first | refine blk_drewN ?_ _ | refine blk_drew ?_ | refine blk_alloc ?_ _)); refine blk_far ?_ NB249_250.out _; (with_reducible repeat (first | refine blk_drewN ?_ _ | refine blk_drew ?_ | refine blk_alloc ?_ _)); refine blk_far ?_ NB249_250.out _; (with_reducible repeat (first | refine blk_drewN ?_ _ | refine blk_drew ?_ | refine blk_alloc ?_ _)); refine blk_far ?_ NB249_250.out _; (with_reducible repeat (first | refine blk_drewN ?_ _ | refine blk_drew ?_ | refine blk_alloc ?_ _)); refine blk_far ?_ NB249_250.out _; (with_reducible repeat (first | refine blk_drewN ?_ _ | refine blk_drew ?_ | refine blk_alloc ?_ _)); refine blk_far ?_ NB249_250.out _; (with_reducible repeat (first | refine blk_drewN ?_ _ | refine blk_drew ?_ | refine blk_alloc ?_ _)); refine blk_far ?_ NB249_250.out _; (with_reducible repeat (first | refine blk_drewN ?_ _ | refine blk_drew ?_ | refine blk_alloc ?_ _)); refine blk_far ?_ NB249_250.out _; (with_reducible repeat (first | refine blk_drewN ?_ _ | refine blk_drew ?_ | refine blk_alloc ?_ _)); refine blk_far ?_ NB249_250.out _; (with_reducible repeat (first | refine blk_drewN ?_ _ | refine blk_drew ?_ | refine blk_alloc ?_ _)); refine blk_far ?_ NB249_250.out _; (with_reducible repeat (first | refine blk_drewN ?_ _ | refine blk_drew ?_ | refine blk_alloc ?_ _)); refine blk_far ?_ NB249_250.out _; (with_reducible repeat (first | refine blk_drewN ?_ _ | refine blk_drew ?_ | refine blk_alloc ?_ _)); refine blk_far ?_ NB249_250.out _; (with_reducible repeat (first | refine blk_drewN ?_ _ | refine blk_drew ?_ | refine blk_alloc ?_ _)); refine blk_put (cs := #[.int .i64 t227, .int .i64 t228, .int .i64 t229, .int .i64 t230, .int .i64 t231, .int .i64 t232, .int .i64 t233, .int .i64 t234, .int .i64 t235, .int .i64 t236, .int .i64 0]) ?_ 10 _ rfl; (with_reducible repeat (first | refine blk_drewN ?_ _ | refine blk_drew ?_ | refine blk_alloc ?_ _)); refine blk_put (cs := #[.int .i64 t227, .int .i64 t228, .int .i64 t229, .int .i64 t230, .int .i64 t231, .int .i64 t232, .int .i64 t233, .int .i64 t234, .int .i64 t235, .int .i64 0, .int .i64 0]) ?_ 9 _ rfl; (with_reducible repeat (first | refine blk_drewN ?_ _ | refine blk_drew ?_ | refine blk_alloc ?_ _)); refine blk_put (cs := #[.int .i64 t227, .int .i64 t228, .int .i64 t229, .int .i64 t230, .int .i64 t231, .int .i64 t232, .int .i64 t233, .int .i64 t234, .int .i64 0, .int .i64 0, .int .i64 0]) ?_ 8 _ rfl; (with_reducible repeat (first | refine blk_drewN ?_ _ | refine blk_drew ?_ | refine blk_alloc ?_ _)); refine blk_put (cs := #[.int .i64 t227, .int .i64 t228, .int .i64 t229, .int .i64 t230, .int .i64 t231, .int .i64 t232, .int .i64 t233, .int .i64 0, .int .i64 0, .int .i64 0, .int .i64 0]) ?_ 7 _ rfl; (with_reducible repeat (first | refine blk_drewN ?_ _ | refine blk_drew ?_ | refine blk_alloc ?_ _)); refine blk_put (cs := #[.int .i64 t227, .int .i64 t228, .int .i64 t229, .int .i64 t230, .int .i64 t231, .int .i64 t232, .int .i64 0, .int .i64 0, .int .i64 0, .int .i64 0, .int .i64 0]) ?_ 6 _ rfl; (with_reducible repeat (first | refine blk_drewN ?_ _ | refine blk_drew ?_ | refine blk_alloc ?_ _)); refine blk_put (cs := #[.int .i64 t227, .int .i64 t228, .int .i64 t229, .int .i64 t230, .int .i64 t231, .int .i64 0, .int .i64 0, .int .i64 0, .int .i64 0, .int .i64 0, .int .i64 0]) ?_ 5 _ rfl; (with_reducible repeat (first | refine blk_drewN ?_ _ | refine blk_drew ?_ | refine blk_alloc ?_ _)); refine blk_put (cs := #[.int .i64 t227, .int .i64 t228, .int .i64 t229, .int .i64 t230, .int .i64 0, .int .i64 0, .int .i64 0, .int .i64 0, .int .i64 0, .int .i64 0, .int .i64 0]) ?_ 4 _ rfl; (with_reducible repeat (first | refine blk_drewN ?_ _ | refine blk_drew ?_ | refine blk_alloc ?_ _)); refine blk_put (cs := #[.int .i64 t227, .int .i64 t228, .int .i64 t229, .int .i64 0, .int .i64 0, .int .i64 0, .int .i64 0, .int .i64 0, .int .i64 0, .int .i64 0, .int .i64 0]) ?_ 3 _ rfl; (with_reducible repeat (first | refine blk_drewN ?_ _ | refine blk_drew ?_ | refine blk_alloc ?_ _)); refine blk_put (cs := #[.int .i64 t227, .int .i64 t228, .int .i64 0, .int .i64 0, .int .i64 0, .int .i64 0, .int .i64 0, .int .i64 0, .int .i64 0, .int .i64 0, .int .i64 0]) ?_ 2 _ rfl; (with_reducible repeat (first | refine blk_drewN ?_ _ | refine blk_drew ?_ | refine blk_alloc ?_ _)); refine blk_put (cs := #[.int .i64 t227, .int .i64 0, .int .i64 0, .int .i64 0, .int .i64 0, .int .i64 0, .int .i64 0, .int .i64 0, .int .i64 0, .int .i64 0, .int .i64 0]) ?_ 1 _ rfl; (with_reducible repeat (first | refine blk_drewN ?_ _ | refine blk_drew ?_ | refine blk_alloc ?_ _)); refine blk_put (cs := #[.int .i64 0, .int .i64 0, .int .i64 0, .int .i64 0, .int .i64 0, .int .i64 0, .int .i64 0, .int .i64 0, .int .i64 0, .int .i64 0, .int .i64 0]) ?_ 0 _ rfl; (with_reducible repeat (first | refine blk_drewN ?_ _ | refine blk_drew ?_ | refine blk_alloc ?_ _)); exact BK249.out⟩, ⟨by (with_reducible repeat (first | refine blk_drewN ?_ _ | refine blk_drew ?_ | refine blk_alloc ?_ _)); refine blk_put (cs := #[.int .i64 t238, .int .i64 t239, .int .i64 t240, .int .i64 t241, .int .i64 t242, .int .i64 t243, .int .i64 t244, .int .i64 t245, .int .i64 t246, .int .i64 t247, .int .i64 0]) ?_ 10 _ rfl; (with_reducible repeat (first | refine blk_drewN ?_ _ | refine blk_drew ?_ | refine blk_alloc ?_ _)); refine blk_put (cs := #[.int .i64 t238, .int .i64 t239, .int .i64 t240, .int .i64 t241, .int .i64 t242, .int .i64 t243, .int .i64 t244, .int .i64 t245, .int .i64 t246, .int .i64 0, .int .i64 0]) ?_ 9 _ rfl; (with_reducible repeat (first | refine blk_drewN ?_ _ | refine blk_drew ?_ | refine blk_alloc ?_ _)); refine blk_put (cs := #[.int .i64 t238, .int .i64 t239, .int .i64 t240, .int .i64 t241, .int .i64 t242, .int .i64 t243, .int .i64 t244, .int .i64 t245, .int .i64 0, .int .i64 0, .int .i64 0]) ?_ 8 _ rfl; (with_reducible repeat (first | refine blk_drewN ?_ _ | refine blk_drew ?_ | refine blk_alloc ?_ _)); refine blk_put (cs := #[.int .i64 t238, .int .i64 t239, .int .i64 t240, .int .i64 t241, .int .i64 t242, .int .i64 t243, .int .i64 t244, .int .i64 0, .int .i64 0, .int .i64 0, .int .i64 0]) ?_ 7 _ rfl; (with_reducible repeat (first | refine blk_drewN ?_ _ | refine blk_drew ?_ | refine blk_alloc ?_ _)); refine blk_put (cs := #[.int .i64 t238, .int .i64 t239, .int .i64 t240, .int .i64 t241, .int .i64 t242, .int .i64 t243, .int .i64 0, .int .i64 0, .int .i64 0, .int .i64 0, .int .i64 0]) ?_ 6 _ rfl; (with_reducible repeat (first | refine blk_drewN ?_ _ | refine blk_drew ?_ | refine blk_alloc ?_ _)); refine blk_put (cs := #[.int .i64 t238, .int .i64 t239, .int .i64 t240, .int .i64 t241, .int .i64 t242, .int .i64 0, .int .i64 0, .int .i64 0, .int .i64 0, .int .i64 0, .int .i64 0]) ?_ 5 _ rfl; (with_reducible repeat (first | refine blk_drewN ?_ _ | refine blk_drew ?_ | refine blk_alloc ?_ _)); refine blk_put (cs := #[.int .i64 t238, .int .i64 t239, .int .i64 t240, .int .i64 t241, .int .i64 0, .int .i64 0, .int .i64 0, .int .i64 0, .int .i64 0, .int .i64 0, .int .i64 0]) ?_ 4 _ rfl; (with_reducible repeat (first | refine blk_drewN ?_ _ | refine blk_drew ?_ | refine blk_alloc ?_ _)); refine blk_put (cs := #[.int .i64 t238, .int .i64 t239, .int .i64 t240, .int .i64 0, .int .i64 0, .int .i64 0, .int .i64 0, .int .i64 0, .int .i64 0, .int .i64 0, .int .i64 0]) ?_ 3 _ rfl; (with_reducible repeat (first | refine blk_drewN ?_ _ | refine blk_drew ?_ | refine blk_alloc ?_ _)); refine blk_put (cs := #[.int .i64 t238, .int .i64 t239, .int .i64 0, .int .i64 0, .int .i64 0, .int .i64 0, .int .i64 0, .int .i64 0, .int .i64 0, .int .i64 0, .int .i64 0]) ?_ 2 _ rfl; (with_reducible repeat (first | refine blk_drewN ?_ _ | refine blk_drew ?_ | refine blk_alloc ?_ _)); refine blk_put (cs := #[.int .i64 t238, .int .i64 0, .int .i64 0, .int .i64 0, .int .i64 0, .int .i64 0, .int .i64 0, .int .i64 0, .int .i64 0, .int .i64 0, .int .i64 0]) ?_ 1 _ rfl; (with_reducible repeat (first | refine blk_drewN ?_ _ | refine blk_drew ?_ | refine blk_alloc ?_ _)); refine blk_put (cs := #[.int .i64 0, .int .i64 0, .int .i64 0, .int .i64 0, .int .i64 0, .int .i64 0, .int .i64 0, .int .i64 0, .int .i64 0, .int .i64 0, .int .i64 0]) ?_ 0 _ rfl; (with_reducible repeat (first | refine blk_drewN ?_ _ | refine blk_drew ?_ | refine blk_alloc ?_ _)); refine blk_far ?_ NB250_249.out _; (with_reducible repeat (first | refine blk_drewN ?_ _ | refine blk_drew ?_ | refine blk_alloc ?_ _)); refine blk_far ?_ NB250_249.out _; (with_reducible repeat (first | refine blk_drewN ?_ _ | refine blk_drew ?_ | refine blk_alloc ?_ _)); refine blk_far ?_ NB250_249.out _; (with_reducible repeat (first | refine blk_drewN ?_ _ | refine blk_drew ?_ | refine blk_alloc ?_ _)); refine blk_far ?_ NB250_249.out _; (with_reducible repeat (first | refine blk_drewN ?_ _ | refine blk_drew ?_ | refine blk_alloc ?_ _)); refine blk_far ?_ NB250_249.out _; (with_reducible repeat (first | refine blk_drewN ?_ _ | refine blk_drew ?_ | refine blk_alloc ?_ _)); refine blk_far ?_ NB250_249.out _; (with_reducible repeat (first | refine blk_drewN ?_ _ | refine blk_drew ?_ | refine blk_alloc ?_ _)); refine blk_far ?_ NB250_249.out _; (with_reducible repeat (first | refine blk_drewN ?_ _ | refine blk_drew ?_ | refine blk_alloc ?_ _)); refine blk_far ?_ NB250_249.out _; (with_reducible repeat (first | refine blk_drewN ?_ _ | refine blk_drew ?_ | refine blk_alloc ?_ _)); refine blk_far ?_ NB250_249.out _; (with_reducible repeat (first | refine blk_drewN ?_ _ | refine blk_drew ?_ | refine blk_alloc ?_ _)); refine blk_far ?_ NB250_249.out _; (with_reducible repeat (first | refine blk_drewN ?_ _ | refine blk_drew ?_ | refine blk_alloc ?_ _)); refine blk_far ?_ NB250_249.out _; (with_reducible repeat (first | refine blk_drewN ?_ _ | refine blk_drew ?_ | refine blk_alloc ?_ _)); exact BK250.out⟩, ⟨by repeat (first | (with_reducible first | exact HB.out | apply below_alloc | apply pw_below_drewN | apply below_drew1 | refine below_set ?_ GE249.out | refine below_set ?_ GE250.out) | exact HB.out)⟩⟩
  case round =>
    clear H'
    try clear p2
    try clear c9
    try clear hcz10_0
    try clear hcz10_1
    try clear hcz10_10
    try clear hcz10_2
    try clear hcz10_3
    try clear hcz10_4
    try clear hcz10_5
    try clear hcz10_6
    try clear hcz10_7
    try clear hcz10_8
    try clear hcz10_9
    try clear hcz11_0
    try clear hcz11_1
    try clear hcz11_10
    try clear hcz11_2
    try clear hcz11_3
    try clear hcz11_4
    try clear hcz11_5
    try clear hcz11_6
    try clear hcz11_7
    try clear hcz11_8
    try clear hcz11_9
    try clear hfz10_0
    try clear hfz10_1
    try clear hfz10_10
    try clear hfz10_2
    try clear hfz10_3
    try clear hfz10_4
    try clear hfz10_5
    try clear hfz10_6
    try clear hfz10_7
    try clear hfz10_8
    try clear hfz10_9
    try clear hfz11_0
    try clear hfz11_1
    try clear hfz11_10
    try clear hfz11_2
    try clear hfz11_3
    try clear hfz11_4
    try clear hfz11_5
    try clear hfz11_6
    try clear hfz11_7
    try clear hfz11_8
    try clear hfz11_9
    obtain ⟨x7_1, rfl, HA, HK1, BK249, BK250, HB⟩ := hrel
    cases gk with
    | zero => exact absurd HA.out (by simp [remontoirref01_Top.l0])
    | succ k1 =>
      have H := HA.out
      clear HA
      simp only [remontoirref01_Top.l0] at H
      by_cases c12 : x7_1 ≥ 0
      · rw [if_pos c12] at H
        have c12b0 : decide (0 ≤ x7_1) = true := decide_eq_true c12
        clear c12
        by_cases c13 : x7_1 = 0
        · subst c13
          rw [if_pos rfl] at H
          by_cases c14 : t227 = t238
          · rw [if_pos c14] at H
            have c14b0 : (t227 == t238) = true := beq_iff_eq.mpr c14
            have c14b1 : (t227 != t238) = false := bne_eq_false_iff_eq.mpr c14
            clear c14
            have H' := Aside0.mk H
            clear H
            have hnb15 := NB249_250.out
            have hnc15 := NB250_249.out
            have hcz16_0 : wr.cell? ⟨gb249, 0, none⟩ = some (.int .i64 t227) := (blk_cell BK249.out 0).trans rfl
            have hcz16_1 : wr.cell? ⟨gb249, 1, none⟩ = some (.int .i64 t228) := (blk_cell BK249.out 1).trans rfl
            have hcz16_2 : wr.cell? ⟨gb249, 2, none⟩ = some (.int .i64 t229) := (blk_cell BK249.out 2).trans rfl
            have hcz16_3 : wr.cell? ⟨gb249, 3, none⟩ = some (.int .i64 t230) := (blk_cell BK249.out 3).trans rfl
            have hcz16_4 : wr.cell? ⟨gb249, 4, none⟩ = some (.int .i64 t231) := (blk_cell BK249.out 4).trans rfl
            have hcz16_5 : wr.cell? ⟨gb249, 5, none⟩ = some (.int .i64 t232) := (blk_cell BK249.out 5).trans rfl
            have hcz16_6 : wr.cell? ⟨gb249, 6, none⟩ = some (.int .i64 t233) := (blk_cell BK249.out 6).trans rfl
            have hcz16_7 : wr.cell? ⟨gb249, 7, none⟩ = some (.int .i64 t234) := (blk_cell BK249.out 7).trans rfl
            have hcz16_8 : wr.cell? ⟨gb249, 8, none⟩ = some (.int .i64 t235) := (blk_cell BK249.out 8).trans rfl
            have hcz16_9 : wr.cell? ⟨gb249, 9, none⟩ = some (.int .i64 t236) := (blk_cell BK249.out 9).trans rfl
            have hcz16_10 : wr.cell? ⟨gb249, 10, none⟩ = some (.int .i64 t237) := (blk_cell BK249.out 10).trans rfl
            have hfz16_0 := blk_frozen BK249.out 0
            have hfz16_1 := blk_frozen BK249.out 1
            have hfz16_2 := blk_frozen BK249.out 2
            have hfz16_3 := blk_frozen BK249.out 3
            have hfz16_4 := blk_frozen BK249.out 4
            have hfz16_5 := blk_frozen BK249.out 5
            have hfz16_6 := blk_frozen BK249.out 6
            have hfz16_7 := blk_frozen BK249.out 7
            have hfz16_8 := blk_frozen BK249.out 8
            have hfz16_9 := blk_frozen BK249.out 9
            have hfz16_10 := blk_frozen BK249.out 10
            have hcz17_0 : wr.cell? ⟨gb250, 0, none⟩ = some (.int .i64 t238) := (blk_cell BK250.out 0).trans rfl
            have hcz17_1 : wr.cell? ⟨gb250, 1, none⟩ = some (.int .i64 t239) := (blk_cell BK250.out 1).trans rfl
            have hcz17_2 : wr.cell? ⟨gb250, 2, none⟩ = some (.int .i64 t240) := (blk_cell BK250.out 2).trans rfl
            have hcz17_3 : wr.cell? ⟨gb250, 3, none⟩ = some (.int .i64 t241) := (blk_cell BK250.out 3).trans rfl
            have hcz17_4 : wr.cell? ⟨gb250, 4, none⟩ = some (.int .i64 t242) := (blk_cell BK250.out 4).trans rfl
            have hcz17_5 : wr.cell? ⟨gb250, 5, none⟩ = some (.int .i64 t243) := (blk_cell BK250.out 5).trans rfl
            have hcz17_6 : wr.cell? ⟨gb250, 6, none⟩ = some (.int .i64 t244) := (blk_cell BK250.out 6).trans rfl
            have hcz17_7 : wr.cell? ⟨gb250, 7, none⟩ = some (.int .i64 t245) := (blk_cell BK250.out 7).trans rfl
            have hcz17_8 : wr.cell? ⟨gb250, 8, none⟩ = some (.int .i64 t246) := (blk_cell BK250.out 8).trans rfl
            have hcz17_9 : wr.cell? ⟨gb250, 9, none⟩ = some (.int .i64 t247) := (blk_cell BK250.out 9).trans rfl
            have hcz17_10 : wr.cell? ⟨gb250, 10, none⟩ = some (.int .i64 t248) := (blk_cell BK250.out 10).trans rfl
            have hfz17_0 := blk_frozen BK250.out 0
            have hfz17_1 := blk_frozen BK250.out 1
            have hfz17_2 := blk_frozen BK250.out 2
            have hfz17_3 := blk_frozen BK250.out 3
            have hfz17_4 := blk_frozen BK250.out 4
            have hfz17_5 := blk_frozen BK250.out 5
            have hfz17_6 := blk_frozen BK250.out 6
            have hfz17_7 := blk_frozen BK250.out 7
            have hfz17_8 := blk_frozen BK250.out 8
            have hfz17_9 := blk_frozen BK250.out 9
            have hfz17_10 := blk_frozen BK250.out 10
            go_wp2
            repeat (go_quiet (fail); try go_wp2)
            go_roundg k1
            case measure => have := HK1.out; omega
            case rel => exact ⟨(wrap64 ((0 : Int) - 1)), (by first | rfl | (simp; done) | (simp [*]; done) | (simp; decide +kernel)), H', ⟨by have := HK1.out; omega⟩, ⟨by (with_reducible repeat (first | refine blk_drewN ?_ _ | refine blk_drew ?_ | refine blk_alloc ?_ _)); exact BK249.out⟩, ⟨by (with_reducible repeat (first | refine blk_drewN ?_ _ | refine blk_drew ?_ | refine blk_alloc ?_ _)); exact BK250.out⟩, ⟨by repeat (first | (with_reducible first | exact HB.out | apply below_alloc | apply pw_below_drewN | apply below_drew1 | refine below_set ?_ GE249.out | refine below_set ?_ GE250.out) | exact HB.out)⟩⟩
          · rw [if_neg c14] at H
            have c14b0 : (t227 == t238) = false := beq_eq_false_iff_ne.mpr c14
            have c14b1 : (t227 != t238) = true := bne_iff_ne.mpr c14
            obtain rfl := Option.some.inj H
            have hnb18 := NB249_250.out
            have hnc18 := NB250_249.out
            have hcz19_0 : wr.cell? ⟨gb249, 0, none⟩ = some (.int .i64 t227) := (blk_cell BK249.out 0).trans rfl
            have hcz19_1 : wr.cell? ⟨gb249, 1, none⟩ = some (.int .i64 t228) := (blk_cell BK249.out 1).trans rfl
            have hcz19_2 : wr.cell? ⟨gb249, 2, none⟩ = some (.int .i64 t229) := (blk_cell BK249.out 2).trans rfl
            have hcz19_3 : wr.cell? ⟨gb249, 3, none⟩ = some (.int .i64 t230) := (blk_cell BK249.out 3).trans rfl
            have hcz19_4 : wr.cell? ⟨gb249, 4, none⟩ = some (.int .i64 t231) := (blk_cell BK249.out 4).trans rfl
            have hcz19_5 : wr.cell? ⟨gb249, 5, none⟩ = some (.int .i64 t232) := (blk_cell BK249.out 5).trans rfl
            have hcz19_6 : wr.cell? ⟨gb249, 6, none⟩ = some (.int .i64 t233) := (blk_cell BK249.out 6).trans rfl
            have hcz19_7 : wr.cell? ⟨gb249, 7, none⟩ = some (.int .i64 t234) := (blk_cell BK249.out 7).trans rfl
            have hcz19_8 : wr.cell? ⟨gb249, 8, none⟩ = some (.int .i64 t235) := (blk_cell BK249.out 8).trans rfl
            have hcz19_9 : wr.cell? ⟨gb249, 9, none⟩ = some (.int .i64 t236) := (blk_cell BK249.out 9).trans rfl
            have hcz19_10 : wr.cell? ⟨gb249, 10, none⟩ = some (.int .i64 t237) := (blk_cell BK249.out 10).trans rfl
            have hfz19_0 := blk_frozen BK249.out 0
            have hfz19_1 := blk_frozen BK249.out 1
            have hfz19_2 := blk_frozen BK249.out 2
            have hfz19_3 := blk_frozen BK249.out 3
            have hfz19_4 := blk_frozen BK249.out 4
            have hfz19_5 := blk_frozen BK249.out 5
            have hfz19_6 := blk_frozen BK249.out 6
            have hfz19_7 := blk_frozen BK249.out 7
            have hfz19_8 := blk_frozen BK249.out 8
            have hfz19_9 := blk_frozen BK249.out 9
            have hfz19_10 := blk_frozen BK249.out 10
            have hcz20_0 : wr.cell? ⟨gb250, 0, none⟩ = some (.int .i64 t238) := (blk_cell BK250.out 0).trans rfl
            have hcz20_1 : wr.cell? ⟨gb250, 1, none⟩ = some (.int .i64 t239) := (blk_cell BK250.out 1).trans rfl
            have hcz20_2 : wr.cell? ⟨gb250, 2, none⟩ = some (.int .i64 t240) := (blk_cell BK250.out 2).trans rfl
            have hcz20_3 : wr.cell? ⟨gb250, 3, none⟩ = some (.int .i64 t241) := (blk_cell BK250.out 3).trans rfl
            have hcz20_4 : wr.cell? ⟨gb250, 4, none⟩ = some (.int .i64 t242) := (blk_cell BK250.out 4).trans rfl
            have hcz20_5 : wr.cell? ⟨gb250, 5, none⟩ = some (.int .i64 t243) := (blk_cell BK250.out 5).trans rfl
            have hcz20_6 : wr.cell? ⟨gb250, 6, none⟩ = some (.int .i64 t244) := (blk_cell BK250.out 6).trans rfl
            have hcz20_7 : wr.cell? ⟨gb250, 7, none⟩ = some (.int .i64 t245) := (blk_cell BK250.out 7).trans rfl
            have hcz20_8 : wr.cell? ⟨gb250, 8, none⟩ = some (.int .i64 t246) := (blk_cell BK250.out 8).trans rfl
            have hcz20_9 : wr.cell? ⟨gb250, 9, none⟩ = some (.int .i64 t247) := (blk_cell BK250.out 9).trans rfl
            have hcz20_10 : wr.cell? ⟨gb250, 10, none⟩ = some (.int .i64 t248) := (blk_cell BK250.out 10).trans rfl
            have hfz20_0 := blk_frozen BK250.out 0
            have hfz20_1 := blk_frozen BK250.out 1
            have hfz20_2 := blk_frozen BK250.out 2
            have hfz20_3 := blk_frozen BK250.out 3
            have hfz20_4 := blk_frozen BK250.out 4
            have hfz20_5 := blk_frozen BK250.out 5
            have hfz20_6 := blk_frozen BK250.out 6
            have hfz20_7 := blk_frozen BK250.out 7
            have hfz20_8 := blk_frozen BK250.out 8
            have hfz20_9 := blk_frozen BK250.out 9
            have hfz20_10 := blk_frozen BK250.out 10
            go_wp2
            repeat (go_quiet (fail); try go_wp2)
            go_ret
            exact ⟨by first | rfl | (simp [errW_none, errW_some] <;> rfl) | (simp [*, errW_none, errW_some] <;> rfl), by repeat (first | (with_reducible first | exact HB.out | apply below_alloc | apply pw_below_drewN | apply below_drew1 | refine below_set ?_ GE249.out | refine below_set ?_ GE250.out) | exact HB.out)⟩
        · rw [if_neg c13] at H
          clear c13
          by_cases c21 : x7_1 = 1
          · subst c21
            rw [if_pos rfl] at H
            by_cases c22 : t228 = t239
            · rw [if_pos c22] at H
              have c22b0 : (t228 == t239) = true := beq_iff_eq.mpr c22
              have c22b1 : (t228 != t239) = false := bne_eq_false_iff_eq.mpr c22
              clear c22
              have H' := Aside0.mk H
              clear H
              have hnb23 := NB249_250.out
              have hnc23 := NB250_249.out
              have hcz24_0 : wr.cell? ⟨gb249, 0, none⟩ = some (.int .i64 t227) := (blk_cell BK249.out 0).trans rfl
              have hcz24_1 : wr.cell? ⟨gb249, 1, none⟩ = some (.int .i64 t228) := (blk_cell BK249.out 1).trans rfl
              have hcz24_2 : wr.cell? ⟨gb249, 2, none⟩ = some (.int .i64 t229) := (blk_cell BK249.out 2).trans rfl
              have hcz24_3 : wr.cell? ⟨gb249, 3, none⟩ = some (.int .i64 t230) := (blk_cell BK249.out 3).trans rfl
              have hcz24_4 : wr.cell? ⟨gb249, 4, none⟩ = some (.int .i64 t231) := (blk_cell BK249.out 4).trans rfl
              have hcz24_5 : wr.cell? ⟨gb249, 5, none⟩ = some (.int .i64 t232) := (blk_cell BK249.out 5).trans rfl
              have hcz24_6 : wr.cell? ⟨gb249, 6, none⟩ = some (.int .i64 t233) := (blk_cell BK249.out 6).trans rfl
              have hcz24_7 : wr.cell? ⟨gb249, 7, none⟩ = some (.int .i64 t234) := (blk_cell BK249.out 7).trans rfl
              have hcz24_8 : wr.cell? ⟨gb249, 8, none⟩ = some (.int .i64 t235) := (blk_cell BK249.out 8).trans rfl
              have hcz24_9 : wr.cell? ⟨gb249, 9, none⟩ = some (.int .i64 t236) := (blk_cell BK249.out 9).trans rfl
              have hcz24_10 : wr.cell? ⟨gb249, 10, none⟩ = some (.int .i64 t237) := (blk_cell BK249.out 10).trans rfl
              have hfz24_0 := blk_frozen BK249.out 0
              have hfz24_1 := blk_frozen BK249.out 1
              have hfz24_2 := blk_frozen BK249.out 2
              have hfz24_3 := blk_frozen BK249.out 3
              have hfz24_4 := blk_frozen BK249.out 4
              have hfz24_5 := blk_frozen BK249.out 5
              have hfz24_6 := blk_frozen BK249.out 6
              have hfz24_7 := blk_frozen BK249.out 7
              have hfz24_8 := blk_frozen BK249.out 8
              have hfz24_9 := blk_frozen BK249.out 9
              have hfz24_10 := blk_frozen BK249.out 10
              have hcz25_0 : wr.cell? ⟨gb250, 0, none⟩ = some (.int .i64 t238) := (blk_cell BK250.out 0).trans rfl
              have hcz25_1 : wr.cell? ⟨gb250, 1, none⟩ = some (.int .i64 t239) := (blk_cell BK250.out 1).trans rfl
              have hcz25_2 : wr.cell? ⟨gb250, 2, none⟩ = some (.int .i64 t240) := (blk_cell BK250.out 2).trans rfl
              have hcz25_3 : wr.cell? ⟨gb250, 3, none⟩ = some (.int .i64 t241) := (blk_cell BK250.out 3).trans rfl
              have hcz25_4 : wr.cell? ⟨gb250, 4, none⟩ = some (.int .i64 t242) := (blk_cell BK250.out 4).trans rfl
              have hcz25_5 : wr.cell? ⟨gb250, 5, none⟩ = some (.int .i64 t243) := (blk_cell BK250.out 5).trans rfl
              have hcz25_6 : wr.cell? ⟨gb250, 6, none⟩ = some (.int .i64 t244) := (blk_cell BK250.out 6).trans rfl
              have hcz25_7 : wr.cell? ⟨gb250, 7, none⟩ = some (.int .i64 t245) := (blk_cell BK250.out 7).trans rfl
              have hcz25_8 : wr.cell? ⟨gb250, 8, none⟩ = some (.int .i64 t246) := (blk_cell BK250.out 8).trans rfl
              have hcz25_9 : wr.cell? ⟨gb250, 9, none⟩ = some (.int .i64 t247) := (blk_cell BK250.out 9).trans rfl
              have hcz25_10 : wr.cell? ⟨gb250, 10, none⟩ = some (.int .i64 t248) := (blk_cell BK250.out 10).trans rfl
              have hfz25_0 := blk_frozen BK250.out 0
              have hfz25_1 := blk_frozen BK250.out 1
              have hfz25_2 := blk_frozen BK250.out 2
              have hfz25_3 := blk_frozen BK250.out 3
              have hfz25_4 := blk_frozen BK250.out 4
              have hfz25_5 := blk_frozen BK250.out 5
              have hfz25_6 := blk_frozen BK250.out 6
              have hfz25_7 := blk_frozen BK250.out 7
              have hfz25_8 := blk_frozen BK250.out 8
              have hfz25_9 := blk_frozen BK250.out 9
              have hfz25_10 := blk_frozen BK250.out 10
              go_wp2
              repeat (go_quiet (fail); try go_wp2)
              go_roundg k1
              case measure => have := HK1.out; omega
              case rel => exact ⟨(wrap64 ((1 : Int) - 1)), (by first | rfl | (simp; done) | (simp [*]; done) | (simp; decide +kernel)), H', ⟨by have := HK1.out; omega⟩, ⟨by (with_reducible repeat (first | refine blk_drewN ?_ _ | refine blk_drew ?_ | refine blk_alloc ?_ _)); exact BK249.out⟩, ⟨by (with_reducible repeat (first | refine blk_drewN ?_ _ | refine blk_drew ?_ | refine blk_alloc ?_ _)); exact BK250.out⟩, ⟨by repeat (first | (with_reducible first | exact HB.out | apply below_alloc | apply pw_below_drewN | apply below_drew1 | refine below_set ?_ GE249.out | refine below_set ?_ GE250.out) | exact HB.out)⟩⟩
            · rw [if_neg c22] at H
              have c22b0 : (t228 == t239) = false := beq_eq_false_iff_ne.mpr c22
              have c22b1 : (t228 != t239) = true := bne_iff_ne.mpr c22
              obtain rfl := Option.some.inj H
              have hnb26 := NB249_250.out
              have hnc26 := NB250_249.out
              have hcz27_0 : wr.cell? ⟨gb249, 0, none⟩ = some (.int .i64 t227) := (blk_cell BK249.out 0).trans rfl
              have hcz27_1 : wr.cell? ⟨gb249, 1, none⟩ = some (.int .i64 t228) := (blk_cell BK249.out 1).trans rfl
              have hcz27_2 : wr.cell? ⟨gb249, 2, none⟩ = some (.int .i64 t229) := (blk_cell BK249.out 2).trans rfl
              have hcz27_3 : wr.cell? ⟨gb249, 3, none⟩ = some (.int .i64 t230) := (blk_cell BK249.out 3).trans rfl
              have hcz27_4 : wr.cell? ⟨gb249, 4, none⟩ = some (.int .i64 t231) := (blk_cell BK249.out 4).trans rfl
              have hcz27_5 : wr.cell? ⟨gb249, 5, none⟩ = some (.int .i64 t232) := (blk_cell BK249.out 5).trans rfl
              have hcz27_6 : wr.cell? ⟨gb249, 6, none⟩ = some (.int .i64 t233) := (blk_cell BK249.out 6).trans rfl
              have hcz27_7 : wr.cell? ⟨gb249, 7, none⟩ = some (.int .i64 t234) := (blk_cell BK249.out 7).trans rfl
              have hcz27_8 : wr.cell? ⟨gb249, 8, none⟩ = some (.int .i64 t235) := (blk_cell BK249.out 8).trans rfl
              have hcz27_9 : wr.cell? ⟨gb249, 9, none⟩ = some (.int .i64 t236) := (blk_cell BK249.out 9).trans rfl
              have hcz27_10 : wr.cell? ⟨gb249, 10, none⟩ = some (.int .i64 t237) := (blk_cell BK249.out 10).trans rfl
              have hfz27_0 := blk_frozen BK249.out 0
              have hfz27_1 := blk_frozen BK249.out 1
              have hfz27_2 := blk_frozen BK249.out 2
              have hfz27_3 := blk_frozen BK249.out 3
              have hfz27_4 := blk_frozen BK249.out 4
              have hfz27_5 := blk_frozen BK249.out 5
              have hfz27_6 := blk_frozen BK249.out 6
              have hfz27_7 := blk_frozen BK249.out 7
              have hfz27_8 := blk_frozen BK249.out 8
              have hfz27_9 := blk_frozen BK249.out 9
              have hfz27_10 := blk_frozen BK249.out 10
              have hcz28_0 : wr.cell? ⟨gb250, 0, none⟩ = some (.int .i64 t238) := (blk_cell BK250.out 0).trans rfl
              have hcz28_1 : wr.cell? ⟨gb250, 1, none⟩ = some (.int .i64 t239) := (blk_cell BK250.out 1).trans rfl
              have hcz28_2 : wr.cell? ⟨gb250, 2, none⟩ = some (.int .i64 t240) := (blk_cell BK250.out 2).trans rfl
              have hcz28_3 : wr.cell? ⟨gb250, 3, none⟩ = some (.int .i64 t241) := (blk_cell BK250.out 3).trans rfl
              have hcz28_4 : wr.cell? ⟨gb250, 4, none⟩ = some (.int .i64 t242) := (blk_cell BK250.out 4).trans rfl
              have hcz28_5 : wr.cell? ⟨gb250, 5, none⟩ = some (.int .i64 t243) := (blk_cell BK250.out 5).trans rfl
              have hcz28_6 : wr.cell? ⟨gb250, 6, none⟩ = some (.int .i64 t244) := (blk_cell BK250.out 6).trans rfl
              have hcz28_7 : wr.cell? ⟨gb250, 7, none⟩ = some (.int .i64 t245) := (blk_cell BK250.out 7).trans rfl
              have hcz28_8 : wr.cell? ⟨gb250, 8, none⟩ = some (.int .i64 t246) := (blk_cell BK250.out 8).trans rfl
              have hcz28_9 : wr.cell? ⟨gb250, 9, none⟩ = some (.int .i64 t247) := (blk_cell BK250.out 9).trans rfl
              have hcz28_10 : wr.cell? ⟨gb250, 10, none⟩ = some (.int .i64 t248) := (blk_cell BK250.out 10).trans rfl
              have hfz28_0 := blk_frozen BK250.out 0
              have hfz28_1 := blk_frozen BK250.out 1
              have hfz28_2 := blk_frozen BK250.out 2
              have hfz28_3 := blk_frozen BK250.out 3
              have hfz28_4 := blk_frozen BK250.out 4
              have hfz28_5 := blk_frozen BK250.out 5
              have hfz28_6 := blk_frozen BK250.out 6
              have hfz28_7 := blk_frozen BK250.out 7
              have hfz28_8 := blk_frozen BK250.out 8
              have hfz28_9 := blk_frozen BK250.out 9
              have hfz28_10 := blk_frozen BK250.out 10
              go_wp2
              repeat (go_quiet (fail); try go_wp2)
              go_ret
              exact ⟨by first | rfl | (simp [errW_none, errW_some] <;> rfl) | (simp [*, errW_none, errW_some] <;> rfl), by repeat (first | (with_reducible first | exact HB.out | apply below_alloc | apply pw_below_drewN | apply below_drew1 | refine below_set ?_ GE249.out | refine below_set ?_ GE250.out) | exact HB.out)⟩
          · rw [if_neg c21] at H
            clear c21
            by_cases c29 : x7_1 = 2
            · subst c29
              rw [if_pos rfl] at H
              by_cases c30 : t229 = t240
              · rw [if_pos c30] at H
                have c30b0 : (t229 == t240) = true := beq_iff_eq.mpr c30
                have c30b1 : (t229 != t240) = false := bne_eq_false_iff_eq.mpr c30
                clear c30
                have H' := Aside0.mk H
                clear H
                have hnb31 := NB249_250.out
                have hnc31 := NB250_249.out
                have hcz32_0 : wr.cell? ⟨gb249, 0, none⟩ = some (.int .i64 t227) := (blk_cell BK249.out 0).trans rfl
                have hcz32_1 : wr.cell? ⟨gb249, 1, none⟩ = some (.int .i64 t228) := (blk_cell BK249.out 1).trans rfl
                have hcz32_2 : wr.cell? ⟨gb249, 2, none⟩ = some (.int .i64 t229) := (blk_cell BK249.out 2).trans rfl
                have hcz32_3 : wr.cell? ⟨gb249, 3, none⟩ = some (.int .i64 t230) := (blk_cell BK249.out 3).trans rfl
                have hcz32_4 : wr.cell? ⟨gb249, 4, none⟩ = some (.int .i64 t231) := (blk_cell BK249.out 4).trans rfl
                have hcz32_5 : wr.cell? ⟨gb249, 5, none⟩ = some (.int .i64 t232) := (blk_cell BK249.out 5).trans rfl
                have hcz32_6 : wr.cell? ⟨gb249, 6, none⟩ = some (.int .i64 t233) := (blk_cell BK249.out 6).trans rfl
                have hcz32_7 : wr.cell? ⟨gb249, 7, none⟩ = some (.int .i64 t234) := (blk_cell BK249.out 7).trans rfl
                have hcz32_8 : wr.cell? ⟨gb249, 8, none⟩ = some (.int .i64 t235) := (blk_cell BK249.out 8).trans rfl
                have hcz32_9 : wr.cell? ⟨gb249, 9, none⟩ = some (.int .i64 t236) := (blk_cell BK249.out 9).trans rfl
                have hcz32_10 : wr.cell? ⟨gb249, 10, none⟩ = some (.int .i64 t237) := (blk_cell BK249.out 10).trans rfl
                have hfz32_0 := blk_frozen BK249.out 0
                have hfz32_1 := blk_frozen BK249.out 1
                have hfz32_2 := blk_frozen BK249.out 2
                have hfz32_3 := blk_frozen BK249.out 3
                have hfz32_4 := blk_frozen BK249.out 4
                have hfz32_5 := blk_frozen BK249.out 5
                have hfz32_6 := blk_frozen BK249.out 6
                have hfz32_7 := blk_frozen BK249.out 7
                have hfz32_8 := blk_frozen BK249.out 8
                have hfz32_9 := blk_frozen BK249.out 9
                have hfz32_10 := blk_frozen BK249.out 10
                have hcz33_0 : wr.cell? ⟨gb250, 0, none⟩ = some (.int .i64 t238) := (blk_cell BK250.out 0).trans rfl
                have hcz33_1 : wr.cell? ⟨gb250, 1, none⟩ = some (.int .i64 t239) := (blk_cell BK250.out 1).trans rfl
                have hcz33_2 : wr.cell? ⟨gb250, 2, none⟩ = some (.int .i64 t240) := (blk_cell BK250.out 2).trans rfl
                have hcz33_3 : wr.cell? ⟨gb250, 3, none⟩ = some (.int .i64 t241) := (blk_cell BK250.out 3).trans rfl
                have hcz33_4 : wr.cell? ⟨gb250, 4, none⟩ = some (.int .i64 t242) := (blk_cell BK250.out 4).trans rfl
                have hcz33_5 : wr.cell? ⟨gb250, 5, none⟩ = some (.int .i64 t243) := (blk_cell BK250.out 5).trans rfl
                have hcz33_6 : wr.cell? ⟨gb250, 6, none⟩ = some (.int .i64 t244) := (blk_cell BK250.out 6).trans rfl
                have hcz33_7 : wr.cell? ⟨gb250, 7, none⟩ = some (.int .i64 t245) := (blk_cell BK250.out 7).trans rfl
                have hcz33_8 : wr.cell? ⟨gb250, 8, none⟩ = some (.int .i64 t246) := (blk_cell BK250.out 8).trans rfl
                have hcz33_9 : wr.cell? ⟨gb250, 9, none⟩ = some (.int .i64 t247) := (blk_cell BK250.out 9).trans rfl
                have hcz33_10 : wr.cell? ⟨gb250, 10, none⟩ = some (.int .i64 t248) := (blk_cell BK250.out 10).trans rfl
                have hfz33_0 := blk_frozen BK250.out 0
                have hfz33_1 := blk_frozen BK250.out 1
                have hfz33_2 := blk_frozen BK250.out 2
                have hfz33_3 := blk_frozen BK250.out 3
                have hfz33_4 := blk_frozen BK250.out 4
                have hfz33_5 := blk_frozen BK250.out 5
                have hfz33_6 := blk_frozen BK250.out 6
                have hfz33_7 := blk_frozen BK250.out 7
                have hfz33_8 := blk_frozen BK250.out 8
                have hfz33_9 := blk_frozen BK250.out 9
                have hfz33_10 := blk_frozen BK250.out 10
                go_wp2
                repeat (go_quiet (fail); try go_wp2)
                go_roundg k1
                case measure => have := HK1.out; omega
                case rel => exact ⟨(wrap64 ((2 : Int) - 1)), (by first | rfl | (simp; done) | (simp [*]; done) | (simp; decide +kernel)), H', ⟨by have := HK1.out; omega⟩, ⟨by (with_reducible repeat (first | refine blk_drewN ?_ _ | refine blk_drew ?_ | refine blk_alloc ?_ _)); exact BK249.out⟩, ⟨by (with_reducible repeat (first | refine blk_drewN ?_ _ | refine blk_drew ?_ | refine blk_alloc ?_ _)); exact BK250.out⟩, ⟨by repeat (first | (with_reducible first | exact HB.out | apply below_alloc | apply pw_below_drewN | apply below_drew1 | refine below_set ?_ GE249.out | refine below_set ?_ GE250.out) | exact HB.out)⟩⟩
              · rw [if_neg c30] at H
                have c30b0 : (t229 == t240) = false := beq_eq_false_iff_ne.mpr c30
                have c30b1 : (t229 != t240) = true := bne_iff_ne.mpr c30
                obtain rfl := Option.some.inj H
                have hnb34 := NB249_250.out
                have hnc34 := NB250_249.out
                have hcz35_0 : wr.cell? ⟨gb249, 0, none⟩ = some (.int .i64 t227) := (blk_cell BK249.out 0).trans rfl
                have hcz35_1 : wr.cell? ⟨gb249, 1, none⟩ = some (.int .i64 t228) := (blk_cell BK249.out 1).trans rfl
                have hcz35_2 : wr.cell? ⟨gb249, 2, none⟩ = some (.int .i64 t229) := (blk_cell BK249.out 2).trans rfl
                have hcz35_3 : wr.cell? ⟨gb249, 3, none⟩ = some (.int .i64 t230) := (blk_cell BK249.out 3).trans rfl
                have hcz35_4 : wr.cell? ⟨gb249, 4, none⟩ = some (.int .i64 t231) := (blk_cell BK249.out 4).trans rfl
                have hcz35_5 : wr.cell? ⟨gb249, 5, none⟩ = some (.int .i64 t232) := (blk_cell BK249.out 5).trans rfl
                have hcz35_6 : wr.cell? ⟨gb249, 6, none⟩ = some (.int .i64 t233) := (blk_cell BK249.out 6).trans rfl
                have hcz35_7 : wr.cell? ⟨gb249, 7, none⟩ = some (.int .i64 t234) := (blk_cell BK249.out 7).trans rfl
                have hcz35_8 : wr.cell? ⟨gb249, 8, none⟩ = some (.int .i64 t235) := (blk_cell BK249.out 8).trans rfl
                have hcz35_9 : wr.cell? ⟨gb249, 9, none⟩ = some (.int .i64 t236) := (blk_cell BK249.out 9).trans rfl
                have hcz35_10 : wr.cell? ⟨gb249, 10, none⟩ = some (.int .i64 t237) := (blk_cell BK249.out 10).trans rfl
                have hfz35_0 := blk_frozen BK249.out 0
                have hfz35_1 := blk_frozen BK249.out 1
                have hfz35_2 := blk_frozen BK249.out 2
                have hfz35_3 := blk_frozen BK249.out 3
                have hfz35_4 := blk_frozen BK249.out 4
                have hfz35_5 := blk_frozen BK249.out 5
                have hfz35_6 := blk_frozen BK249.out 6
                have hfz35_7 := blk_frozen BK249.out 7
                have hfz35_8 := blk_frozen BK249.out 8
                have hfz35_9 := blk_frozen BK249.out 9
                have hfz35_10 := blk_frozen BK249.out 10
                have hcz36_0 : wr.cell? ⟨gb250, 0, none⟩ = some (.int .i64 t238) := (blk_cell BK250.out 0).trans rfl
                have hcz36_1 : wr.cell? ⟨gb250, 1, none⟩ = some (.int .i64 t239) := (blk_cell BK250.out 1).trans rfl
                have hcz36_2 : wr.cell? ⟨gb250, 2, none⟩ = some (.int .i64 t240) := (blk_cell BK250.out 2).trans rfl
                have hcz36_3 : wr.cell? ⟨gb250, 3, none⟩ = some (.int .i64 t241) := (blk_cell BK250.out 3).trans rfl
                have hcz36_4 : wr.cell? ⟨gb250, 4, none⟩ = some (.int .i64 t242) := (blk_cell BK250.out 4).trans rfl
                have hcz36_5 : wr.cell? ⟨gb250, 5, none⟩ = some (.int .i64 t243) := (blk_cell BK250.out 5).trans rfl
                have hcz36_6 : wr.cell? ⟨gb250, 6, none⟩ = some (.int .i64 t244) := (blk_cell BK250.out 6).trans rfl
                have hcz36_7 : wr.cell? ⟨gb250, 7, none⟩ = some (.int .i64 t245) := (blk_cell BK250.out 7).trans rfl
                have hcz36_8 : wr.cell? ⟨gb250, 8, none⟩ = some (.int .i64 t246) := (blk_cell BK250.out 8).trans rfl
                have hcz36_9 : wr.cell? ⟨gb250, 9, none⟩ = some (.int .i64 t247) := (blk_cell BK250.out 9).trans rfl
                have hcz36_10 : wr.cell? ⟨gb250, 10, none⟩ = some (.int .i64 t248) := (blk_cell BK250.out 10).trans rfl
                have hfz36_0 := blk_frozen BK250.out 0
                have hfz36_1 := blk_frozen BK250.out 1
                have hfz36_2 := blk_frozen BK250.out 2
                have hfz36_3 := blk_frozen BK250.out 3
                have hfz36_4 := blk_frozen BK250.out 4
                have hfz36_5 := blk_frozen BK250.out 5
                have hfz36_6 := blk_frozen BK250.out 6
                have hfz36_7 := blk_frozen BK250.out 7
                have hfz36_8 := blk_frozen BK250.out 8
                have hfz36_9 := blk_frozen BK250.out 9
                have hfz36_10 := blk_frozen BK250.out 10
                go_wp2
                repeat (go_quiet (fail); try go_wp2)
                go_ret
                exact ⟨by first | rfl | (simp [errW_none, errW_some] <;> rfl) | (simp [*, errW_none, errW_some] <;> rfl), by repeat (first | (with_reducible first | exact HB.out | apply below_alloc | apply pw_below_drewN | apply below_drew1 | refine below_set ?_ GE249.out | refine below_set ?_ GE250.out) | exact HB.out)⟩
            · rw [if_neg c29] at H
              clear c29
              by_cases c37 : x7_1 = 3
              · subst c37
                rw [if_pos rfl] at H
                by_cases c38 : t230 = t241
                · rw [if_pos c38] at H
                  have c38b0 : (t230 == t241) = true := beq_iff_eq.mpr c38
                  have c38b1 : (t230 != t241) = false := bne_eq_false_iff_eq.mpr c38
                  clear c38
                  have H' := Aside0.mk H
                  clear H
                  have hnb39 := NB249_250.out
                  have hnc39 := NB250_249.out
                  have hcz40_0 : wr.cell? ⟨gb249, 0, none⟩ = some (.int .i64 t227) := (blk_cell BK249.out 0).trans rfl
                  have hcz40_1 : wr.cell? ⟨gb249, 1, none⟩ = some (.int .i64 t228) := (blk_cell BK249.out 1).trans rfl
                  have hcz40_2 : wr.cell? ⟨gb249, 2, none⟩ = some (.int .i64 t229) := (blk_cell BK249.out 2).trans rfl
                  have hcz40_3 : wr.cell? ⟨gb249, 3, none⟩ = some (.int .i64 t230) := (blk_cell BK249.out 3).trans rfl
                  have hcz40_4 : wr.cell? ⟨gb249, 4, none⟩ = some (.int .i64 t231) := (blk_cell BK249.out 4).trans rfl
                  have hcz40_5 : wr.cell? ⟨gb249, 5, none⟩ = some (.int .i64 t232) := (blk_cell BK249.out 5).trans rfl
                  have hcz40_6 : wr.cell? ⟨gb249, 6, none⟩ = some (.int .i64 t233) := (blk_cell BK249.out 6).trans rfl
                  have hcz40_7 : wr.cell? ⟨gb249, 7, none⟩ = some (.int .i64 t234) := (blk_cell BK249.out 7).trans rfl
                  have hcz40_8 : wr.cell? ⟨gb249, 8, none⟩ = some (.int .i64 t235) := (blk_cell BK249.out 8).trans rfl
                  have hcz40_9 : wr.cell? ⟨gb249, 9, none⟩ = some (.int .i64 t236) := (blk_cell BK249.out 9).trans rfl
                  have hcz40_10 : wr.cell? ⟨gb249, 10, none⟩ = some (.int .i64 t237) := (blk_cell BK249.out 10).trans rfl
                  have hfz40_0 := blk_frozen BK249.out 0
                  have hfz40_1 := blk_frozen BK249.out 1
                  have hfz40_2 := blk_frozen BK249.out 2
                  have hfz40_3 := blk_frozen BK249.out 3
                  have hfz40_4 := blk_frozen BK249.out 4
                  have hfz40_5 := blk_frozen BK249.out 5
                  have hfz40_6 := blk_frozen BK249.out 6
                  have hfz40_7 := blk_frozen BK249.out 7
                  have hfz40_8 := blk_frozen BK249.out 8
                  have hfz40_9 := blk_frozen BK249.out 9
                  have hfz40_10 := blk_frozen BK249.out 10
                  have hcz41_0 : wr.cell? ⟨gb250, 0, none⟩ = some (.int .i64 t238) := (blk_cell BK250.out 0).trans rfl
                  have hcz41_1 : wr.cell? ⟨gb250, 1, none⟩ = some (.int .i64 t239) := (blk_cell BK250.out 1).trans rfl
                  have hcz41_2 : wr.cell? ⟨gb250, 2, none⟩ = some (.int .i64 t240) := (blk_cell BK250.out 2).trans rfl
                  have hcz41_3 : wr.cell? ⟨gb250, 3, none⟩ = some (.int .i64 t241) := (blk_cell BK250.out 3).trans rfl
                  have hcz41_4 : wr.cell? ⟨gb250, 4, none⟩ = some (.int .i64 t242) := (blk_cell BK250.out 4).trans rfl
                  have hcz41_5 : wr.cell? ⟨gb250, 5, none⟩ = some (.int .i64 t243) := (blk_cell BK250.out 5).trans rfl
                  have hcz41_6 : wr.cell? ⟨gb250, 6, none⟩ = some (.int .i64 t244) := (blk_cell BK250.out 6).trans rfl
                  have hcz41_7 : wr.cell? ⟨gb250, 7, none⟩ = some (.int .i64 t245) := (blk_cell BK250.out 7).trans rfl
                  have hcz41_8 : wr.cell? ⟨gb250, 8, none⟩ = some (.int .i64 t246) := (blk_cell BK250.out 8).trans rfl
                  have hcz41_9 : wr.cell? ⟨gb250, 9, none⟩ = some (.int .i64 t247) := (blk_cell BK250.out 9).trans rfl
                  have hcz41_10 : wr.cell? ⟨gb250, 10, none⟩ = some (.int .i64 t248) := (blk_cell BK250.out 10).trans rfl
                  have hfz41_0 := blk_frozen BK250.out 0
                  have hfz41_1 := blk_frozen BK250.out 1
                  have hfz41_2 := blk_frozen BK250.out 2
                  have hfz41_3 := blk_frozen BK250.out 3
                  have hfz41_4 := blk_frozen BK250.out 4
                  have hfz41_5 := blk_frozen BK250.out 5
                  have hfz41_6 := blk_frozen BK250.out 6
                  have hfz41_7 := blk_frozen BK250.out 7
                  have hfz41_8 := blk_frozen BK250.out 8
                  have hfz41_9 := blk_frozen BK250.out 9
                  have hfz41_10 := blk_frozen BK250.out 10
                  go_wp2
                  repeat (go_quiet (fail); try go_wp2)
                  go_roundg k1
                  case measure => have := HK1.out; omega
                  case rel => exact ⟨(wrap64 ((3 : Int) - 1)), (by first | rfl | (simp; done) | (simp [*]; done) | (simp; decide +kernel)), H', ⟨by have := HK1.out; omega⟩, ⟨by (with_reducible repeat (first | refine blk_drewN ?_ _ | refine blk_drew ?_ | refine blk_alloc ?_ _)); exact BK249.out⟩, ⟨by (with_reducible repeat (first | refine blk_drewN ?_ _ | refine blk_drew ?_ | refine blk_alloc ?_ _)); exact BK250.out⟩, ⟨by repeat (first | (with_reducible first | exact HB.out | apply below_alloc | apply pw_below_drewN | apply below_drew1 | refine below_set ?_ GE249.out | refine below_set ?_ GE250.out) | exact HB.out)⟩⟩
                · rw [if_neg c38] at H
                  have c38b0 : (t230 == t241) = false := beq_eq_false_iff_ne.mpr c38
                  have c38b1 : (t230 != t241) = true := bne_iff_ne.mpr c38
                  obtain rfl := Option.some.inj H
                  have hnb42 := NB249_250.out
                  have hnc42 := NB250_249.out
                  have hcz43_0 : wr.cell? ⟨gb249, 0, none⟩ = some (.int .i64 t227) := (blk_cell BK249.out 0).trans rfl
                  have hcz43_1 : wr.cell? ⟨gb249, 1, none⟩ = some (.int .i64 t228) := (blk_cell BK249.out 1).trans rfl
                  have hcz43_2 : wr.cell? ⟨gb249, 2, none⟩ = some (.int .i64 t229) := (blk_cell BK249.out 2).trans rfl
                  have hcz43_3 : wr.cell? ⟨gb249, 3, none⟩ = some (.int .i64 t230) := (blk_cell BK249.out 3).trans rfl
                  have hcz43_4 : wr.cell? ⟨gb249, 4, none⟩ = some (.int .i64 t231) := (blk_cell BK249.out 4).trans rfl
                  have hcz43_5 : wr.cell? ⟨gb249, 5, none⟩ = some (.int .i64 t232) := (blk_cell BK249.out 5).trans rfl
                  have hcz43_6 : wr.cell? ⟨gb249, 6, none⟩ = some (.int .i64 t233) := (blk_cell BK249.out 6).trans rfl
                  have hcz43_7 : wr.cell? ⟨gb249, 7, none⟩ = some (.int .i64 t234) := (blk_cell BK249.out 7).trans rfl
                  have hcz43_8 : wr.cell? ⟨gb249, 8, none⟩ = some (.int .i64 t235) := (blk_cell BK249.out 8).trans rfl
                  have hcz43_9 : wr.cell? ⟨gb249, 9, none⟩ = some (.int .i64 t236) := (blk_cell BK249.out 9).trans rfl
                  have hcz43_10 : wr.cell? ⟨gb249, 10, none⟩ = some (.int .i64 t237) := (blk_cell BK249.out 10).trans rfl
                  have hfz43_0 := blk_frozen BK249.out 0
                  have hfz43_1 := blk_frozen BK249.out 1
                  have hfz43_2 := blk_frozen BK249.out 2
                  have hfz43_3 := blk_frozen BK249.out 3
                  have hfz43_4 := blk_frozen BK249.out 4
                  have hfz43_5 := blk_frozen BK249.out 5
                  have hfz43_6 := blk_frozen BK249.out 6
                  have hfz43_7 := blk_frozen BK249.out 7
                  have hfz43_8 := blk_frozen BK249.out 8
                  have hfz43_9 := blk_frozen BK249.out 9
                  have hfz43_10 := blk_frozen BK249.out 10
                  have hcz44_0 : wr.cell? ⟨gb250, 0, none⟩ = some (.int .i64 t238) := (blk_cell BK250.out 0).trans rfl
                  have hcz44_1 : wr.cell? ⟨gb250, 1, none⟩ = some (.int .i64 t239) := (blk_cell BK250.out 1).trans rfl
                  have hcz44_2 : wr.cell? ⟨gb250, 2, none⟩ = some (.int .i64 t240) := (blk_cell BK250.out 2).trans rfl
                  have hcz44_3 : wr.cell? ⟨gb250, 3, none⟩ = some (.int .i64 t241) := (blk_cell BK250.out 3).trans rfl
                  have hcz44_4 : wr.cell? ⟨gb250, 4, none⟩ = some (.int .i64 t242) := (blk_cell BK250.out 4).trans rfl
                  have hcz44_5 : wr.cell? ⟨gb250, 5, none⟩ = some (.int .i64 t243) := (blk_cell BK250.out 5).trans rfl
                  have hcz44_6 : wr.cell? ⟨gb250, 6, none⟩ = some (.int .i64 t244) := (blk_cell BK250.out 6).trans rfl
                  have hcz44_7 : wr.cell? ⟨gb250, 7, none⟩ = some (.int .i64 t245) := (blk_cell BK250.out 7).trans rfl
                  have hcz44_8 : wr.cell? ⟨gb250, 8, none⟩ = some (.int .i64 t246) := (blk_cell BK250.out 8).trans rfl
                  have hcz44_9 : wr.cell? ⟨gb250, 9, none⟩ = some (.int .i64 t247) := (blk_cell BK250.out 9).trans rfl
                  have hcz44_10 : wr.cell? ⟨gb250, 10, none⟩ = some (.int .i64 t248) := (blk_cell BK250.out 10).trans rfl
                  have hfz44_0 := blk_frozen BK250.out 0
                  have hfz44_1 := blk_frozen BK250.out 1
                  have hfz44_2 := blk_frozen BK250.out 2
                  have hfz44_3 := blk_frozen BK250.out 3
                  have hfz44_4 := blk_frozen BK250.out 4
                  have hfz44_5 := blk_frozen BK250.out 5
                  have hfz44_6 := blk_frozen BK250.out 6
                  have hfz44_7 := blk_frozen BK250.out 7
                  have hfz44_8 := blk_frozen BK250.out 8
                  have hfz44_9 := blk_frozen BK250.out 9
                  have hfz44_10 := blk_frozen BK250.out 10
                  go_wp2
                  repeat (go_quiet (fail); try go_wp2)
                  go_ret
                  exact ⟨by first | rfl | (simp [errW_none, errW_some] <;> rfl) | (simp [*, errW_none, errW_some] <;> rfl), by repeat (first | (with_reducible first | exact HB.out | apply below_alloc | apply pw_below_drewN | apply below_drew1 | refine below_set ?_ GE249.out | refine below_set ?_ GE250.out) | exact HB.out)⟩
              · rw [if_neg c37] at H
                clear c37
                by_cases c45 : x7_1 = 4
                · subst c45
                  rw [if_pos rfl] at H
                  by_cases c46 : t231 = t242
                  · rw [if_pos c46] at H
                    have c46b0 : (t231 == t242) = true := beq_iff_eq.mpr c46
                    have c46b1 : (t231 != t242) = false := bne_eq_false_iff_eq.mpr c46
                    clear c46
                    have H' := Aside0.mk H
                    clear H
                    have hnb47 := NB249_250.out
                    have hnc47 := NB250_249.out
                    have hcz48_0 : wr.cell? ⟨gb249, 0, none⟩ = some (.int .i64 t227) := (blk_cell BK249.out 0).trans rfl
                    have hcz48_1 : wr.cell? ⟨gb249, 1, none⟩ = some (.int .i64 t228) := (blk_cell BK249.out 1).trans rfl
                    have hcz48_2 : wr.cell? ⟨gb249, 2, none⟩ = some (.int .i64 t229) := (blk_cell BK249.out 2).trans rfl
                    have hcz48_3 : wr.cell? ⟨gb249, 3, none⟩ = some (.int .i64 t230) := (blk_cell BK249.out 3).trans rfl
                    have hcz48_4 : wr.cell? ⟨gb249, 4, none⟩ = some (.int .i64 t231) := (blk_cell BK249.out 4).trans rfl
                    have hcz48_5 : wr.cell? ⟨gb249, 5, none⟩ = some (.int .i64 t232) := (blk_cell BK249.out 5).trans rfl
                    have hcz48_6 : wr.cell? ⟨gb249, 6, none⟩ = some (.int .i64 t233) := (blk_cell BK249.out 6).trans rfl
                    have hcz48_7 : wr.cell? ⟨gb249, 7, none⟩ = some (.int .i64 t234) := (blk_cell BK249.out 7).trans rfl
                    have hcz48_8 : wr.cell? ⟨gb249, 8, none⟩ = some (.int .i64 t235) := (blk_cell BK249.out 8).trans rfl
                    have hcz48_9 : wr.cell? ⟨gb249, 9, none⟩ = some (.int .i64 t236) := (blk_cell BK249.out 9).trans rfl
                    have hcz48_10 : wr.cell? ⟨gb249, 10, none⟩ = some (.int .i64 t237) := (blk_cell BK249.out 10).trans rfl
                    have hfz48_0 := blk_frozen BK249.out 0
                    have hfz48_1 := blk_frozen BK249.out 1
                    have hfz48_2 := blk_frozen BK249.out 2
                    have hfz48_3 := blk_frozen BK249.out 3
                    have hfz48_4 := blk_frozen BK249.out 4
                    have hfz48_5 := blk_frozen BK249.out 5
                    have hfz48_6 := blk_frozen BK249.out 6
                    have hfz48_7 := blk_frozen BK249.out 7
                    have hfz48_8 := blk_frozen BK249.out 8
                    have hfz48_9 := blk_frozen BK249.out 9
                    have hfz48_10 := blk_frozen BK249.out 10
                    have hcz49_0 : wr.cell? ⟨gb250, 0, none⟩ = some (.int .i64 t238) := (blk_cell BK250.out 0).trans rfl
                    have hcz49_1 : wr.cell? ⟨gb250, 1, none⟩ = some (.int .i64 t239) := (blk_cell BK250.out 1).trans rfl
                    have hcz49_2 : wr.cell? ⟨gb250, 2, none⟩ = some (.int .i64 t240) := (blk_cell BK250.out 2).trans rfl
                    have hcz49_3 : wr.cell? ⟨gb250, 3, none⟩ = some (.int .i64 t241) := (blk_cell BK250.out 3).trans rfl
                    have hcz49_4 : wr.cell? ⟨gb250, 4, none⟩ = some (.int .i64 t242) := (blk_cell BK250.out 4).trans rfl
                    have hcz49_5 : wr.cell? ⟨gb250, 5, none⟩ = some (.int .i64 t243) := (blk_cell BK250.out 5).trans rfl
                    have hcz49_6 : wr.cell? ⟨gb250, 6, none⟩ = some (.int .i64 t244) := (blk_cell BK250.out 6).trans rfl
                    have hcz49_7 : wr.cell? ⟨gb250, 7, none⟩ = some (.int .i64 t245) := (blk_cell BK250.out 7).trans rfl
                    have hcz49_8 : wr.cell? ⟨gb250, 8, none⟩ = some (.int .i64 t246) := (blk_cell BK250.out 8).trans rfl
                    have hcz49_9 : wr.cell? ⟨gb250, 9, none⟩ = some (.int .i64 t247) := (blk_cell BK250.out 9).trans rfl
                    have hcz49_10 : wr.cell? ⟨gb250, 10, none⟩ = some (.int .i64 t248) := (blk_cell BK250.out 10).trans rfl
                    have hfz49_0 := blk_frozen BK250.out 0
                    have hfz49_1 := blk_frozen BK250.out 1
                    have hfz49_2 := blk_frozen BK250.out 2
                    have hfz49_3 := blk_frozen BK250.out 3
                    have hfz49_4 := blk_frozen BK250.out 4
                    have hfz49_5 := blk_frozen BK250.out 5
                    have hfz49_6 := blk_frozen BK250.out 6
                    have hfz49_7 := blk_frozen BK250.out 7
                    have hfz49_8 := blk_frozen BK250.out 8
                    have hfz49_9 := blk_frozen BK250.out 9
                    have hfz49_10 := blk_frozen BK250.out 10
                    go_wp2
                    repeat (go_quiet (fail); try go_wp2)
                    go_roundg k1
                    case measure => have := HK1.out; omega
                    case rel => exact ⟨(wrap64 ((4 : Int) - 1)), (by first | rfl | (simp; done) | (simp [*]; done) | (simp; decide +kernel)), H', ⟨by have := HK1.out; omega⟩, ⟨by (with_reducible repeat (first | refine blk_drewN ?_ _ | refine blk_drew ?_ | refine blk_alloc ?_ _)); exact BK249.out⟩, ⟨by (with_reducible repeat (first | refine blk_drewN ?_ _ | refine blk_drew ?_ | refine blk_alloc ?_ _)); exact BK250.out⟩, ⟨by repeat (first | (with_reducible first | exact HB.out | apply below_alloc | apply pw_below_drewN | apply below_drew1 | refine below_set ?_ GE249.out | refine below_set ?_ GE250.out) | exact HB.out)⟩⟩
                  · rw [if_neg c46] at H
                    have c46b0 : (t231 == t242) = false := beq_eq_false_iff_ne.mpr c46
                    have c46b1 : (t231 != t242) = true := bne_iff_ne.mpr c46
                    obtain rfl := Option.some.inj H
                    have hnb50 := NB249_250.out
                    have hnc50 := NB250_249.out
                    have hcz51_0 : wr.cell? ⟨gb249, 0, none⟩ = some (.int .i64 t227) := (blk_cell BK249.out 0).trans rfl
                    have hcz51_1 : wr.cell? ⟨gb249, 1, none⟩ = some (.int .i64 t228) := (blk_cell BK249.out 1).trans rfl
                    have hcz51_2 : wr.cell? ⟨gb249, 2, none⟩ = some (.int .i64 t229) := (blk_cell BK249.out 2).trans rfl
                    have hcz51_3 : wr.cell? ⟨gb249, 3, none⟩ = some (.int .i64 t230) := (blk_cell BK249.out 3).trans rfl
                    have hcz51_4 : wr.cell? ⟨gb249, 4, none⟩ = some (.int .i64 t231) := (blk_cell BK249.out 4).trans rfl
                    have hcz51_5 : wr.cell? ⟨gb249, 5, none⟩ = some (.int .i64 t232) := (blk_cell BK249.out 5).trans rfl
                    have hcz51_6 : wr.cell? ⟨gb249, 6, none⟩ = some (.int .i64 t233) := (blk_cell BK249.out 6).trans rfl
                    have hcz51_7 : wr.cell? ⟨gb249, 7, none⟩ = some (.int .i64 t234) := (blk_cell BK249.out 7).trans rfl
                    have hcz51_8 : wr.cell? ⟨gb249, 8, none⟩ = some (.int .i64 t235) := (blk_cell BK249.out 8).trans rfl
                    have hcz51_9 : wr.cell? ⟨gb249, 9, none⟩ = some (.int .i64 t236) := (blk_cell BK249.out 9).trans rfl
                    have hcz51_10 : wr.cell? ⟨gb249, 10, none⟩ = some (.int .i64 t237) := (blk_cell BK249.out 10).trans rfl
                    have hfz51_0 := blk_frozen BK249.out 0
                    have hfz51_1 := blk_frozen BK249.out 1
                    have hfz51_2 := blk_frozen BK249.out 2
                    have hfz51_3 := blk_frozen BK249.out 3
                    have hfz51_4 := blk_frozen BK249.out 4
                    have hfz51_5 := blk_frozen BK249.out 5
                    have hfz51_6 := blk_frozen BK249.out 6
                    have hfz51_7 := blk_frozen BK249.out 7
                    have hfz51_8 := blk_frozen BK249.out 8
                    have hfz51_9 := blk_frozen BK249.out 9
                    have hfz51_10 := blk_frozen BK249.out 10
                    have hcz52_0 : wr.cell? ⟨gb250, 0, none⟩ = some (.int .i64 t238) := (blk_cell BK250.out 0).trans rfl
                    have hcz52_1 : wr.cell? ⟨gb250, 1, none⟩ = some (.int .i64 t239) := (blk_cell BK250.out 1).trans rfl
                    have hcz52_2 : wr.cell? ⟨gb250, 2, none⟩ = some (.int .i64 t240) := (blk_cell BK250.out 2).trans rfl
                    have hcz52_3 : wr.cell? ⟨gb250, 3, none⟩ = some (.int .i64 t241) := (blk_cell BK250.out 3).trans rfl
                    have hcz52_4 : wr.cell? ⟨gb250, 4, none⟩ = some (.int .i64 t242) := (blk_cell BK250.out 4).trans rfl
                    have hcz52_5 : wr.cell? ⟨gb250, 5, none⟩ = some (.int .i64 t243) := (blk_cell BK250.out 5).trans rfl
                    have hcz52_6 : wr.cell? ⟨gb250, 6, none⟩ = some (.int .i64 t244) := (blk_cell BK250.out 6).trans rfl
                    have hcz52_7 : wr.cell? ⟨gb250, 7, none⟩ = some (.int .i64 t245) := (blk_cell BK250.out 7).trans rfl
                    have hcz52_8 : wr.cell? ⟨gb250, 8, none⟩ = some (.int .i64 t246) := (blk_cell BK250.out 8).trans rfl
                    have hcz52_9 : wr.cell? ⟨gb250, 9, none⟩ = some (.int .i64 t247) := (blk_cell BK250.out 9).trans rfl
                    have hcz52_10 : wr.cell? ⟨gb250, 10, none⟩ = some (.int .i64 t248) := (blk_cell BK250.out 10).trans rfl
                    have hfz52_0 := blk_frozen BK250.out 0
                    have hfz52_1 := blk_frozen BK250.out 1
                    have hfz52_2 := blk_frozen BK250.out 2
                    have hfz52_3 := blk_frozen BK250.out 3
                    have hfz52_4 := blk_frozen BK250.out 4
                    have hfz52_5 := blk_frozen BK250.out 5
                    have hfz52_6 := blk_frozen BK250.out 6
                    have hfz52_7 := blk_frozen BK250.out 7
                    have hfz52_8 := blk_frozen BK250.out 8
                    have hfz52_9 := blk_frozen BK250.out 9
                    have hfz52_10 := blk_frozen BK250.out 10
                    go_wp2
                    repeat (go_quiet (fail); try go_wp2)
                    go_ret
                    exact ⟨by first | rfl | (simp [errW_none, errW_some] <;> rfl) | (simp [*, errW_none, errW_some] <;> rfl), by repeat (first | (with_reducible first | exact HB.out | apply below_alloc | apply pw_below_drewN | apply below_drew1 | refine below_set ?_ GE249.out | refine below_set ?_ GE250.out) | exact HB.out)⟩
                · rw [if_neg c45] at H
                  clear c45
                  by_cases c53 : x7_1 = 5
                  · subst c53
                    rw [if_pos rfl] at H
                    by_cases c54 : t232 = t243
                    · rw [if_pos c54] at H
                      have c54b0 : (t232 == t243) = true := beq_iff_eq.mpr c54
                      have c54b1 : (t232 != t243) = false := bne_eq_false_iff_eq.mpr c54
                      clear c54
                      have H' := Aside0.mk H
                      clear H
                      have hnb55 := NB249_250.out
                      have hnc55 := NB250_249.out
                      have hcz56_0 : wr.cell? ⟨gb249, 0, none⟩ = some (.int .i64 t227) := (blk_cell BK249.out 0).trans rfl
                      have hcz56_1 : wr.cell? ⟨gb249, 1, none⟩ = some (.int .i64 t228) := (blk_cell BK249.out 1).trans rfl
                      have hcz56_2 : wr.cell? ⟨gb249, 2, none⟩ = some (.int .i64 t229) := (blk_cell BK249.out 2).trans rfl
                      have hcz56_3 : wr.cell? ⟨gb249, 3, none⟩ = some (.int .i64 t230) := (blk_cell BK249.out 3).trans rfl
                      have hcz56_4 : wr.cell? ⟨gb249, 4, none⟩ = some (.int .i64 t231) := (blk_cell BK249.out 4).trans rfl
                      have hcz56_5 : wr.cell? ⟨gb249, 5, none⟩ = some (.int .i64 t232) := (blk_cell BK249.out 5).trans rfl
                      have hcz56_6 : wr.cell? ⟨gb249, 6, none⟩ = some (.int .i64 t233) := (blk_cell BK249.out 6).trans rfl
                      have hcz56_7 : wr.cell? ⟨gb249, 7, none⟩ = some (.int .i64 t234) := (blk_cell BK249.out 7).trans rfl
                      have hcz56_8 : wr.cell? ⟨gb249, 8, none⟩ = some (.int .i64 t235) := (blk_cell BK249.out 8).trans rfl
                      have hcz56_9 : wr.cell? ⟨gb249, 9, none⟩ = some (.int .i64 t236) := (blk_cell BK249.out 9).trans rfl
                      have hcz56_10 : wr.cell? ⟨gb249, 10, none⟩ = some (.int .i64 t237) := (blk_cell BK249.out 10).trans rfl
                      have hfz56_0 := blk_frozen BK249.out 0
                      have hfz56_1 := blk_frozen BK249.out 1
                      have hfz56_2 := blk_frozen BK249.out 2
                      have hfz56_3 := blk_frozen BK249.out 3
                      have hfz56_4 := blk_frozen BK249.out 4
                      have hfz56_5 := blk_frozen BK249.out 5
                      have hfz56_6 := blk_frozen BK249.out 6
                      have hfz56_7 := blk_frozen BK249.out 7
                      have hfz56_8 := blk_frozen BK249.out 8
                      have hfz56_9 := blk_frozen BK249.out 9
                      have hfz56_10 := blk_frozen BK249.out 10
                      have hcz57_0 : wr.cell? ⟨gb250, 0, none⟩ = some (.int .i64 t238) := (blk_cell BK250.out 0).trans rfl
                      have hcz57_1 : wr.cell? ⟨gb250, 1, none⟩ = some (.int .i64 t239) := (blk_cell BK250.out 1).trans rfl
                      have hcz57_2 : wr.cell? ⟨gb250, 2, none⟩ = some (.int .i64 t240) := (blk_cell BK250.out 2).trans rfl
                      have hcz57_3 : wr.cell? ⟨gb250, 3, none⟩ = some (.int .i64 t241) := (blk_cell BK250.out 3).trans rfl
                      have hcz57_4 : wr.cell? ⟨gb250, 4, none⟩ = some (.int .i64 t242) := (blk_cell BK250.out 4).trans rfl
                      have hcz57_5 : wr.cell? ⟨gb250, 5, none⟩ = some (.int .i64 t243) := (blk_cell BK250.out 5).trans rfl
                      have hcz57_6 : wr.cell? ⟨gb250, 6, none⟩ = some (.int .i64 t244) := (blk_cell BK250.out 6).trans rfl
                      have hcz57_7 : wr.cell? ⟨gb250, 7, none⟩ = some (.int .i64 t245) := (blk_cell BK250.out 7).trans rfl
                      have hcz57_8 : wr.cell? ⟨gb250, 8, none⟩ = some (.int .i64 t246) := (blk_cell BK250.out 8).trans rfl
                      have hcz57_9 : wr.cell? ⟨gb250, 9, none⟩ = some (.int .i64 t247) := (blk_cell BK250.out 9).trans rfl
                      have hcz57_10 : wr.cell? ⟨gb250, 10, none⟩ = some (.int .i64 t248) := (blk_cell BK250.out 10).trans rfl
                      have hfz57_0 := blk_frozen BK250.out 0
                      have hfz57_1 := blk_frozen BK250.out 1
                      have hfz57_2 := blk_frozen BK250.out 2
                      have hfz57_3 := blk_frozen BK250.out 3
                      have hfz57_4 := blk_frozen BK250.out 4
                      have hfz57_5 := blk_frozen BK250.out 5
                      have hfz57_6 := blk_frozen BK250.out 6
                      have hfz57_7 := blk_frozen BK250.out 7
                      have hfz57_8 := blk_frozen BK250.out 8
                      have hfz57_9 := blk_frozen BK250.out 9
                      have hfz57_10 := blk_frozen BK250.out 10
                      go_wp2
                      repeat (go_quiet (fail); try go_wp2)
                      go_roundg k1
                      case measure => have := HK1.out; omega
                      case rel => exact ⟨(wrap64 ((5 : Int) - 1)), (by first | rfl | (simp; done) | (simp [*]; done) | (simp; decide +kernel)), H', ⟨by have := HK1.out; omega⟩, ⟨by (with_reducible repeat (first | refine blk_drewN ?_ _ | refine blk_drew ?_ | refine blk_alloc ?_ _)); exact BK249.out⟩, ⟨by (with_reducible repeat (first | refine blk_drewN ?_ _ | refine blk_drew ?_ | refine blk_alloc ?_ _)); exact BK250.out⟩, ⟨by repeat (first | (with_reducible first | exact HB.out | apply below_alloc | apply pw_below_drewN | apply below_drew1 | refine below_set ?_ GE249.out | refine below_set ?_ GE250.out) | exact HB.out)⟩⟩
                    · rw [if_neg c54] at H
                      have c54b0 : (t232 == t243) = false := beq_eq_false_iff_ne.mpr c54
                      have c54b1 : (t232 != t243) = true := bne_iff_ne.mpr c54
                      obtain rfl := Option.some.inj H
                      have hnb58 := NB249_250.out
                      have hnc58 := NB250_249.out
                      have hcz59_0 : wr.cell? ⟨gb249, 0, none⟩ = some (.int .i64 t227) := (blk_cell BK249.out 0).trans rfl
                      have hcz59_1 : wr.cell? ⟨gb249, 1, none⟩ = some (.int .i64 t228) := (blk_cell BK249.out 1).trans rfl
                      have hcz59_2 : wr.cell? ⟨gb249, 2, none⟩ = some (.int .i64 t229) := (blk_cell BK249.out 2).trans rfl
                      have hcz59_3 : wr.cell? ⟨gb249, 3, none⟩ = some (.int .i64 t230) := (blk_cell BK249.out 3).trans rfl
                      have hcz59_4 : wr.cell? ⟨gb249, 4, none⟩ = some (.int .i64 t231) := (blk_cell BK249.out 4).trans rfl
                      have hcz59_5 : wr.cell? ⟨gb249, 5, none⟩ = some (.int .i64 t232) := (blk_cell BK249.out 5).trans rfl
                      have hcz59_6 : wr.cell? ⟨gb249, 6, none⟩ = some (.int .i64 t233) := (blk_cell BK249.out 6).trans rfl
                      have hcz59_7 : wr.cell? ⟨gb249, 7, none⟩ = some (.int .i64 t234) := (blk_cell BK249.out 7).trans rfl
                      have hcz59_8 : wr.cell? ⟨gb249, 8, none⟩ = some (.int .i64 t235) := (blk_cell BK249.out 8).trans rfl
                      have hcz59_9 : wr.cell? ⟨gb249, 9, none⟩ = some (.int .i64 t236) := (blk_cell BK249.out 9).trans rfl
                      have hcz59_10 : wr.cell? ⟨gb249, 10, none⟩ = some (.int .i64 t237) := (blk_cell BK249.out 10).trans rfl
                      have hfz59_0 := blk_frozen BK249.out 0
                      have hfz59_1 := blk_frozen BK249.out 1
                      have hfz59_2 := blk_frozen BK249.out 2
                      have hfz59_3 := blk_frozen BK249.out 3
                      have hfz59_4 := blk_frozen BK249.out 4
                      have hfz59_5 := blk_frozen BK249.out 5
                      have hfz59_6 := blk_frozen BK249.out 6
                      have hfz59_7 := blk_frozen BK249.out 7
                      have hfz59_8 := blk_frozen BK249.out 8
                      have hfz59_9 := blk_frozen BK249.out 9
                      have hfz59_10 := blk_frozen BK249.out 10
                      have hcz60_0 : wr.cell? ⟨gb250, 0, none⟩ = some (.int .i64 t238) := (blk_cell BK250.out 0).trans rfl
                      have hcz60_1 : wr.cell? ⟨gb250, 1, none⟩ = some (.int .i64 t239) := (blk_cell BK250.out 1).trans rfl
                      have hcz60_2 : wr.cell? ⟨gb250, 2, none⟩ = some (.int .i64 t240) := (blk_cell BK250.out 2).trans rfl
                      have hcz60_3 : wr.cell? ⟨gb250, 3, none⟩ = some (.int .i64 t241) := (blk_cell BK250.out 3).trans rfl
                      have hcz60_4 : wr.cell? ⟨gb250, 4, none⟩ = some (.int .i64 t242) := (blk_cell BK250.out 4).trans rfl
                      have hcz60_5 : wr.cell? ⟨gb250, 5, none⟩ = some (.int .i64 t243) := (blk_cell BK250.out 5).trans rfl
                      have hcz60_6 : wr.cell? ⟨gb250, 6, none⟩ = some (.int .i64 t244) := (blk_cell BK250.out 6).trans rfl
                      have hcz60_7 : wr.cell? ⟨gb250, 7, none⟩ = some (.int .i64 t245) := (blk_cell BK250.out 7).trans rfl
                      have hcz60_8 : wr.cell? ⟨gb250, 8, none⟩ = some (.int .i64 t246) := (blk_cell BK250.out 8).trans rfl
                      have hcz60_9 : wr.cell? ⟨gb250, 9, none⟩ = some (.int .i64 t247) := (blk_cell BK250.out 9).trans rfl
                      have hcz60_10 : wr.cell? ⟨gb250, 10, none⟩ = some (.int .i64 t248) := (blk_cell BK250.out 10).trans rfl
                      have hfz60_0 := blk_frozen BK250.out 0
                      have hfz60_1 := blk_frozen BK250.out 1
                      have hfz60_2 := blk_frozen BK250.out 2
                      have hfz60_3 := blk_frozen BK250.out 3
                      have hfz60_4 := blk_frozen BK250.out 4
                      have hfz60_5 := blk_frozen BK250.out 5
                      have hfz60_6 := blk_frozen BK250.out 6
                      have hfz60_7 := blk_frozen BK250.out 7
                      have hfz60_8 := blk_frozen BK250.out 8
                      have hfz60_9 := blk_frozen BK250.out 9
                      have hfz60_10 := blk_frozen BK250.out 10
                      go_wp2
                      repeat (go_quiet (fail); try go_wp2)
                      go_ret
                      exact ⟨by first | rfl | (simp [errW_none, errW_some] <;> rfl) | (simp [*, errW_none, errW_some] <;> rfl), by repeat (first | (with_reducible first | exact HB.out | apply below_alloc | apply pw_below_drewN | apply below_drew1 | refine below_set ?_ GE249.out | refine below_set ?_ GE250.out) | exact HB.out)⟩
                  · rw [if_neg c53] at H
                    clear c53
                    by_cases c61 : x7_1 = 6
                    · subst c61
                      rw [if_pos rfl] at H
                      by_cases c62 : t233 = t244
                      · rw [if_pos c62] at H
                        have c62b0 : (t233 == t244) = true := beq_iff_eq.mpr c62
                        have c62b1 : (t233 != t244) = false := bne_eq_false_iff_eq.mpr c62
                        clear c62
                        have H' := Aside0.mk H
                        clear H
                        have hnb63 := NB249_250.out
                        have hnc63 := NB250_249.out
                        have hcz64_0 : wr.cell? ⟨gb249, 0, none⟩ = some (.int .i64 t227) := (blk_cell BK249.out 0).trans rfl
                        have hcz64_1 : wr.cell? ⟨gb249, 1, none⟩ = some (.int .i64 t228) := (blk_cell BK249.out 1).trans rfl
                        have hcz64_2 : wr.cell? ⟨gb249, 2, none⟩ = some (.int .i64 t229) := (blk_cell BK249.out 2).trans rfl
                        have hcz64_3 : wr.cell? ⟨gb249, 3, none⟩ = some (.int .i64 t230) := (blk_cell BK249.out 3).trans rfl
                        have hcz64_4 : wr.cell? ⟨gb249, 4, none⟩ = some (.int .i64 t231) := (blk_cell BK249.out 4).trans rfl
                        have hcz64_5 : wr.cell? ⟨gb249, 5, none⟩ = some (.int .i64 t232) := (blk_cell BK249.out 5).trans rfl
                        have hcz64_6 : wr.cell? ⟨gb249, 6, none⟩ = some (.int .i64 t233) := (blk_cell BK249.out 6).trans rfl
                        have hcz64_7 : wr.cell? ⟨gb249, 7, none⟩ = some (.int .i64 t234) := (blk_cell BK249.out 7).trans rfl
                        have hcz64_8 : wr.cell? ⟨gb249, 8, none⟩ = some (.int .i64 t235) := (blk_cell BK249.out 8).trans rfl
                        have hcz64_9 : wr.cell? ⟨gb249, 9, none⟩ = some (.int .i64 t236) := (blk_cell BK249.out 9).trans rfl
                        have hcz64_10 : wr.cell? ⟨gb249, 10, none⟩ = some (.int .i64 t237) := (blk_cell BK249.out 10).trans rfl
                        have hfz64_0 := blk_frozen BK249.out 0
                        have hfz64_1 := blk_frozen BK249.out 1
                        have hfz64_2 := blk_frozen BK249.out 2
                        have hfz64_3 := blk_frozen BK249.out 3
                        have hfz64_4 := blk_frozen BK249.out 4
                        have hfz64_5 := blk_frozen BK249.out 5
                        have hfz64_6 := blk_frozen BK249.out 6
                        have hfz64_7 := blk_frozen BK249.out 7
                        have hfz64_8 := blk_frozen BK249.out 8
                        have hfz64_9 := blk_frozen BK249.out 9
                        have hfz64_10 := blk_frozen BK249.out 10
                        have hcz65_0 : wr.cell? ⟨gb250, 0, none⟩ = some (.int .i64 t238) := (blk_cell BK250.out 0).trans rfl
                        have hcz65_1 : wr.cell? ⟨gb250, 1, none⟩ = some (.int .i64 t239) := (blk_cell BK250.out 1).trans rfl
                        have hcz65_2 : wr.cell? ⟨gb250, 2, none⟩ = some (.int .i64 t240) := (blk_cell BK250.out 2).trans rfl
                        have hcz65_3 : wr.cell? ⟨gb250, 3, none⟩ = some (.int .i64 t241) := (blk_cell BK250.out 3).trans rfl
                        have hcz65_4 : wr.cell? ⟨gb250, 4, none⟩ = some (.int .i64 t242) := (blk_cell BK250.out 4).trans rfl
                        have hcz65_5 : wr.cell? ⟨gb250, 5, none⟩ = some (.int .i64 t243) := (blk_cell BK250.out 5).trans rfl
                        have hcz65_6 : wr.cell? ⟨gb250, 6, none⟩ = some (.int .i64 t244) := (blk_cell BK250.out 6).trans rfl
                        have hcz65_7 : wr.cell? ⟨gb250, 7, none⟩ = some (.int .i64 t245) := (blk_cell BK250.out 7).trans rfl
                        have hcz65_8 : wr.cell? ⟨gb250, 8, none⟩ = some (.int .i64 t246) := (blk_cell BK250.out 8).trans rfl
                        have hcz65_9 : wr.cell? ⟨gb250, 9, none⟩ = some (.int .i64 t247) := (blk_cell BK250.out 9).trans rfl
                        have hcz65_10 : wr.cell? ⟨gb250, 10, none⟩ = some (.int .i64 t248) := (blk_cell BK250.out 10).trans rfl
                        have hfz65_0 := blk_frozen BK250.out 0
                        have hfz65_1 := blk_frozen BK250.out 1
                        have hfz65_2 := blk_frozen BK250.out 2
                        have hfz65_3 := blk_frozen BK250.out 3
                        have hfz65_4 := blk_frozen BK250.out 4
                        have hfz65_5 := blk_frozen BK250.out 5
                        have hfz65_6 := blk_frozen BK250.out 6
                        have hfz65_7 := blk_frozen BK250.out 7
                        have hfz65_8 := blk_frozen BK250.out 8
                        have hfz65_9 := blk_frozen BK250.out 9
                        have hfz65_10 := blk_frozen BK250.out 10
                        go_wp2
                        repeat (go_quiet (fail); try go_wp2)
                        go_roundg k1
                        case measure => have := HK1.out; omega
                        case rel => exact ⟨(wrap64 ((6 : Int) - 1)), (by first | rfl | (simp; done) | (simp [*]; done) | (simp; decide +kernel)), H', ⟨by have := HK1.out; omega⟩, ⟨by (with_reducible repeat (first | refine blk_drewN ?_ _ | refine blk_drew ?_ | refine blk_alloc ?_ _)); exact BK249.out⟩, ⟨by (with_reducible repeat (first | refine blk_drewN ?_ _ | refine blk_drew ?_ | refine blk_alloc ?_ _)); exact BK250.out⟩, ⟨by repeat (first | (with_reducible first | exact HB.out | apply below_alloc | apply pw_below_drewN | apply below_drew1 | refine below_set ?_ GE249.out | refine below_set ?_ GE250.out) | exact HB.out)⟩⟩
                      · rw [if_neg c62] at H
                        have c62b0 : (t233 == t244) = false := beq_eq_false_iff_ne.mpr c62
                        have c62b1 : (t233 != t244) = true := bne_iff_ne.mpr c62
                        obtain rfl := Option.some.inj H
                        have hnb66 := NB249_250.out
                        have hnc66 := NB250_249.out
                        have hcz67_0 : wr.cell? ⟨gb249, 0, none⟩ = some (.int .i64 t227) := (blk_cell BK249.out 0).trans rfl
                        have hcz67_1 : wr.cell? ⟨gb249, 1, none⟩ = some (.int .i64 t228) := (blk_cell BK249.out 1).trans rfl
                        have hcz67_2 : wr.cell? ⟨gb249, 2, none⟩ = some (.int .i64 t229) := (blk_cell BK249.out 2).trans rfl
                        have hcz67_3 : wr.cell? ⟨gb249, 3, none⟩ = some (.int .i64 t230) := (blk_cell BK249.out 3).trans rfl
                        have hcz67_4 : wr.cell? ⟨gb249, 4, none⟩ = some (.int .i64 t231) := (blk_cell BK249.out 4).trans rfl
                        have hcz67_5 : wr.cell? ⟨gb249, 5, none⟩ = some (.int .i64 t232) := (blk_cell BK249.out 5).trans rfl
                        have hcz67_6 : wr.cell? ⟨gb249, 6, none⟩ = some (.int .i64 t233) := (blk_cell BK249.out 6).trans rfl
                        have hcz67_7 : wr.cell? ⟨gb249, 7, none⟩ = some (.int .i64 t234) := (blk_cell BK249.out 7).trans rfl
                        have hcz67_8 : wr.cell? ⟨gb249, 8, none⟩ = some (.int .i64 t235) := (blk_cell BK249.out 8).trans rfl
                        have hcz67_9 : wr.cell? ⟨gb249, 9, none⟩ = some (.int .i64 t236) := (blk_cell BK249.out 9).trans rfl
                        have hcz67_10 : wr.cell? ⟨gb249, 10, none⟩ = some (.int .i64 t237) := (blk_cell BK249.out 10).trans rfl
                        have hfz67_0 := blk_frozen BK249.out 0
                        have hfz67_1 := blk_frozen BK249.out 1
                        have hfz67_2 := blk_frozen BK249.out 2
                        have hfz67_3 := blk_frozen BK249.out 3
                        have hfz67_4 := blk_frozen BK249.out 4
                        have hfz67_5 := blk_frozen BK249.out 5
                        have hfz67_6 := blk_frozen BK249.out 6
                        have hfz67_7 := blk_frozen BK249.out 7
                        have hfz67_8 := blk_frozen BK249.out 8
                        have hfz67_9 := blk_frozen BK249.out 9
                        have hfz67_10 := blk_frozen BK249.out 10
                        have hcz68_0 : wr.cell? ⟨gb250, 0, none⟩ = some (.int .i64 t238) := (blk_cell BK250.out 0).trans rfl
                        have hcz68_1 : wr.cell? ⟨gb250, 1, none⟩ = some (.int .i64 t239) := (blk_cell BK250.out 1).trans rfl
                        have hcz68_2 : wr.cell? ⟨gb250, 2, none⟩ = some (.int .i64 t240) := (blk_cell BK250.out 2).trans rfl
                        have hcz68_3 : wr.cell? ⟨gb250, 3, none⟩ = some (.int .i64 t241) := (blk_cell BK250.out 3).trans rfl
                        have hcz68_4 : wr.cell? ⟨gb250, 4, none⟩ = some (.int .i64 t242) := (blk_cell BK250.out 4).trans rfl
                        have hcz68_5 : wr.cell? ⟨gb250, 5, none⟩ = some (.int .i64 t243) := (blk_cell BK250.out 5).trans rfl
                        have hcz68_6 : wr.cell? ⟨gb250, 6, none⟩ = some (.int .i64 t244) := (blk_cell BK250.out 6).trans rfl
                        have hcz68_7 : wr.cell? ⟨gb250, 7, none⟩ = some (.int .i64 t245) := (blk_cell BK250.out 7).trans rfl
                        have hcz68_8 : wr.cell? ⟨gb250, 8, none⟩ = some (.int .i64 t246) := (blk_cell BK250.out 8).trans rfl
                        have hcz68_9 : wr.cell? ⟨gb250, 9, none⟩ = some (.int .i64 t247) := (blk_cell BK250.out 9).trans rfl
                        have hcz68_10 : wr.cell? ⟨gb250, 10, none⟩ = some (.int .i64 t248) := (blk_cell BK250.out 10).trans rfl
                        have hfz68_0 := blk_frozen BK250.out 0
                        have hfz68_1 := blk_frozen BK250.out 1
                        have hfz68_2 := blk_frozen BK250.out 2
                        have hfz68_3 := blk_frozen BK250.out 3
                        have hfz68_4 := blk_frozen BK250.out 4
                        have hfz68_5 := blk_frozen BK250.out 5
                        have hfz68_6 := blk_frozen BK250.out 6
                        have hfz68_7 := blk_frozen BK250.out 7
                        have hfz68_8 := blk_frozen BK250.out 8
                        have hfz68_9 := blk_frozen BK250.out 9
                        have hfz68_10 := blk_frozen BK250.out 10
                        go_wp2
                        repeat (go_quiet (fail); try go_wp2)
                        go_ret
                        exact ⟨by first | rfl | (simp [errW_none, errW_some] <;> rfl) | (simp [*, errW_none, errW_some] <;> rfl), by repeat (first | (with_reducible first | exact HB.out | apply below_alloc | apply pw_below_drewN | apply below_drew1 | refine below_set ?_ GE249.out | refine below_set ?_ GE250.out) | exact HB.out)⟩
                    · rw [if_neg c61] at H
                      clear c61
                      by_cases c69 : x7_1 = 7
                      · subst c69
                        rw [if_pos rfl] at H
                        by_cases c70 : t234 = t245
                        · rw [if_pos c70] at H
                          have c70b0 : (t234 == t245) = true := beq_iff_eq.mpr c70
                          have c70b1 : (t234 != t245) = false := bne_eq_false_iff_eq.mpr c70
                          clear c70
                          have H' := Aside0.mk H
                          clear H
                          have hnb71 := NB249_250.out
                          have hnc71 := NB250_249.out
                          have hcz72_0 : wr.cell? ⟨gb249, 0, none⟩ = some (.int .i64 t227) := (blk_cell BK249.out 0).trans rfl
                          have hcz72_1 : wr.cell? ⟨gb249, 1, none⟩ = some (.int .i64 t228) := (blk_cell BK249.out 1).trans rfl
                          have hcz72_2 : wr.cell? ⟨gb249, 2, none⟩ = some (.int .i64 t229) := (blk_cell BK249.out 2).trans rfl
                          have hcz72_3 : wr.cell? ⟨gb249, 3, none⟩ = some (.int .i64 t230) := (blk_cell BK249.out 3).trans rfl
                          have hcz72_4 : wr.cell? ⟨gb249, 4, none⟩ = some (.int .i64 t231) := (blk_cell BK249.out 4).trans rfl
                          have hcz72_5 : wr.cell? ⟨gb249, 5, none⟩ = some (.int .i64 t232) := (blk_cell BK249.out 5).trans rfl
                          have hcz72_6 : wr.cell? ⟨gb249, 6, none⟩ = some (.int .i64 t233) := (blk_cell BK249.out 6).trans rfl
                          have hcz72_7 : wr.cell? ⟨gb249, 7, none⟩ = some (.int .i64 t234) := (blk_cell BK249.out 7).trans rfl
                          have hcz72_8 : wr.cell? ⟨gb249, 8, none⟩ = some (.int .i64 t235) := (blk_cell BK249.out 8).trans rfl
                          have hcz72_9 : wr.cell? ⟨gb249, 9, none⟩ = some (.int .i64 t236) := (blk_cell BK249.out 9).trans rfl
                          have hcz72_10 : wr.cell? ⟨gb249, 10, none⟩ = some (.int .i64 t237) := (blk_cell BK249.out 10).trans rfl
                          have hfz72_0 := blk_frozen BK249.out 0
                          have hfz72_1 := blk_frozen BK249.out 1
                          have hfz72_2 := blk_frozen BK249.out 2
                          have hfz72_3 := blk_frozen BK249.out 3
                          have hfz72_4 := blk_frozen BK249.out 4
                          have hfz72_5 := blk_frozen BK249.out 5
                          have hfz72_6 := blk_frozen BK249.out 6
                          have hfz72_7 := blk_frozen BK249.out 7
                          have hfz72_8 := blk_frozen BK249.out 8
                          have hfz72_9 := blk_frozen BK249.out 9
                          have hfz72_10 := blk_frozen BK249.out 10
                          have hcz73_0 : wr.cell? ⟨gb250, 0, none⟩ = some (.int .i64 t238) := (blk_cell BK250.out 0).trans rfl
                          have hcz73_1 : wr.cell? ⟨gb250, 1, none⟩ = some (.int .i64 t239) := (blk_cell BK250.out 1).trans rfl
                          have hcz73_2 : wr.cell? ⟨gb250, 2, none⟩ = some (.int .i64 t240) := (blk_cell BK250.out 2).trans rfl
                          have hcz73_3 : wr.cell? ⟨gb250, 3, none⟩ = some (.int .i64 t241) := (blk_cell BK250.out 3).trans rfl
                          have hcz73_4 : wr.cell? ⟨gb250, 4, none⟩ = some (.int .i64 t242) := (blk_cell BK250.out 4).trans rfl
                          have hcz73_5 : wr.cell? ⟨gb250, 5, none⟩ = some (.int .i64 t243) := (blk_cell BK250.out 5).trans rfl
                          have hcz73_6 : wr.cell? ⟨gb250, 6, none⟩ = some (.int .i64 t244) := (blk_cell BK250.out 6).trans rfl
                          have hcz73_7 : wr.cell? ⟨gb250, 7, none⟩ = some (.int .i64 t245) := (blk_cell BK250.out 7).trans rfl
                          have hcz73_8 : wr.cell? ⟨gb250, 8, none⟩ = some (.int .i64 t246) := (blk_cell BK250.out 8).trans rfl
                          have hcz73_9 : wr.cell? ⟨gb250, 9, none⟩ = some (.int .i64 t247) := (blk_cell BK250.out 9).trans rfl
                          have hcz73_10 : wr.cell? ⟨gb250, 10, none⟩ = some (.int .i64 t248) := (blk_cell BK250.out 10).trans rfl
                          have hfz73_0 := blk_frozen BK250.out 0
                          have hfz73_1 := blk_frozen BK250.out 1
                          have hfz73_2 := blk_frozen BK250.out 2
                          have hfz73_3 := blk_frozen BK250.out 3
                          have hfz73_4 := blk_frozen BK250.out 4
                          have hfz73_5 := blk_frozen BK250.out 5
                          have hfz73_6 := blk_frozen BK250.out 6
                          have hfz73_7 := blk_frozen BK250.out 7
                          have hfz73_8 := blk_frozen BK250.out 8
                          have hfz73_9 := blk_frozen BK250.out 9
                          have hfz73_10 := blk_frozen BK250.out 10
                          go_wp2
                          repeat (go_quiet (fail); try go_wp2)
                          go_roundg k1
                          case measure => have := HK1.out; omega
                          case rel => exact ⟨(wrap64 ((7 : Int) - 1)), (by first | rfl | (simp; done) | (simp [*]; done) | (simp; decide +kernel)), H', ⟨by have := HK1.out; omega⟩, ⟨by (with_reducible repeat (first | refine blk_drewN ?_ _ | refine blk_drew ?_ | refine blk_alloc ?_ _)); exact BK249.out⟩, ⟨by (with_reducible repeat (first | refine blk_drewN ?_ _ | refine blk_drew ?_ | refine blk_alloc ?_ _)); exact BK250.out⟩, ⟨by repeat (first | (with_reducible first | exact HB.out | apply below_alloc | apply pw_below_drewN | apply below_drew1 | refine below_set ?_ GE249.out | refine below_set ?_ GE250.out) | exact HB.out)⟩⟩
                        · rw [if_neg c70] at H
                          have c70b0 : (t234 == t245) = false := beq_eq_false_iff_ne.mpr c70
                          have c70b1 : (t234 != t245) = true := bne_iff_ne.mpr c70
                          obtain rfl := Option.some.inj H
                          have hnb74 := NB249_250.out
                          have hnc74 := NB250_249.out
                          have hcz75_0 : wr.cell? ⟨gb249, 0, none⟩ = some (.int .i64 t227) := (blk_cell BK249.out 0).trans rfl
                          have hcz75_1 : wr.cell? ⟨gb249, 1, none⟩ = some (.int .i64 t228) := (blk_cell BK249.out 1).trans rfl
                          have hcz75_2 : wr.cell? ⟨gb249, 2, none⟩ = some (.int .i64 t229) := (blk_cell BK249.out 2).trans rfl
                          have hcz75_3 : wr.cell? ⟨gb249, 3, none⟩ = some (.int .i64 t230) := (blk_cell BK249.out 3).trans rfl
                          have hcz75_4 : wr.cell? ⟨gb249, 4, none⟩ = some (.int .i64 t231) := (blk_cell BK249.out 4).trans rfl
                          have hcz75_5 : wr.cell? ⟨gb249, 5, none⟩ = some (.int .i64 t232) := (blk_cell BK249.out 5).trans rfl
                          have hcz75_6 : wr.cell? ⟨gb249, 6, none⟩ = some (.int .i64 t233) := (blk_cell BK249.out 6).trans rfl
                          have hcz75_7 : wr.cell? ⟨gb249, 7, none⟩ = some (.int .i64 t234) := (blk_cell BK249.out 7).trans rfl
                          have hcz75_8 : wr.cell? ⟨gb249, 8, none⟩ = some (.int .i64 t235) := (blk_cell BK249.out 8).trans rfl
                          have hcz75_9 : wr.cell? ⟨gb249, 9, none⟩ = some (.int .i64 t236) := (blk_cell BK249.out 9).trans rfl
                          have hcz75_10 : wr.cell? ⟨gb249, 10, none⟩ = some (.int .i64 t237) := (blk_cell BK249.out 10).trans rfl
                          have hfz75_0 := blk_frozen BK249.out 0
                          have hfz75_1 := blk_frozen BK249.out 1
                          have hfz75_2 := blk_frozen BK249.out 2
                          have hfz75_3 := blk_frozen BK249.out 3
                          have hfz75_4 := blk_frozen BK249.out 4
                          have hfz75_5 := blk_frozen BK249.out 5
                          have hfz75_6 := blk_frozen BK249.out 6
                          have hfz75_7 := blk_frozen BK249.out 7
                          have hfz75_8 := blk_frozen BK249.out 8
                          have hfz75_9 := blk_frozen BK249.out 9
                          have hfz75_10 := blk_frozen BK249.out 10
                          have hcz76_0 : wr.cell? ⟨gb250, 0, none⟩ = some (.int .i64 t238) := (blk_cell BK250.out 0).trans rfl
                          have hcz76_1 : wr.cell? ⟨gb250, 1, none⟩ = some (.int .i64 t239) := (blk_cell BK250.out 1).trans rfl
                          have hcz76_2 : wr.cell? ⟨gb250, 2, none⟩ = some (.int .i64 t240) := (blk_cell BK250.out 2).trans rfl
                          have hcz76_3 : wr.cell? ⟨gb250, 3, none⟩ = some (.int .i64 t241) := (blk_cell BK250.out 3).trans rfl
                          have hcz76_4 : wr.cell? ⟨gb250, 4, none⟩ = some (.int .i64 t242) := (blk_cell BK250.out 4).trans rfl
                          have hcz76_5 : wr.cell? ⟨gb250, 5, none⟩ = some (.int .i64 t243) := (blk_cell BK250.out 5).trans rfl
                          have hcz76_6 : wr.cell? ⟨gb250, 6, none⟩ = some (.int .i64 t244) := (blk_cell BK250.out 6).trans rfl
                          have hcz76_7 : wr.cell? ⟨gb250, 7, none⟩ = some (.int .i64 t245) := (blk_cell BK250.out 7).trans rfl
                          have hcz76_8 : wr.cell? ⟨gb250, 8, none⟩ = some (.int .i64 t246) := (blk_cell BK250.out 8).trans rfl
                          have hcz76_9 : wr.cell? ⟨gb250, 9, none⟩ = some (.int .i64 t247) := (blk_cell BK250.out 9).trans rfl
                          have hcz76_10 : wr.cell? ⟨gb250, 10, none⟩ = some (.int .i64 t248) := (blk_cell BK250.out 10).trans rfl
                          have hfz76_0 := blk_frozen BK250.out 0
                          have hfz76_1 := blk_frozen BK250.out 1
                          have hfz76_2 := blk_frozen BK250.out 2
                          have hfz76_3 := blk_frozen BK250.out 3
                          have hfz76_4 := blk_frozen BK250.out 4
                          have hfz76_5 := blk_frozen BK250.out 5
                          have hfz76_6 := blk_frozen BK250.out 6
                          have hfz76_7 := blk_frozen BK250.out 7
                          have hfz76_8 := blk_frozen BK250.out 8
                          have hfz76_9 := blk_frozen BK250.out 9
                          have hfz76_10 := blk_frozen BK250.out 10
                          go_wp2
                          repeat (go_quiet (fail); try go_wp2)
                          go_ret
                          exact ⟨by first | rfl | (simp [errW_none, errW_some] <;> rfl) | (simp [*, errW_none, errW_some] <;> rfl), by repeat (first | (with_reducible first | exact HB.out | apply below_alloc | apply pw_below_drewN | apply below_drew1 | refine below_set ?_ GE249.out | refine below_set ?_ GE250.out) | exact HB.out)⟩
                      · rw [if_neg c69] at H
                        clear c69
                        by_cases c77 : x7_1 = 8
                        · subst c77
                          rw [if_pos rfl] at H
                          by_cases c78 : t235 = t246
                          · rw [if_pos c78] at H
                            have c78b0 : (t235 == t246) = true := beq_iff_eq.mpr c78
                            have c78b1 : (t235 != t246) = false := bne_eq_false_iff_eq.mpr c78
                            clear c78
                            have H' := Aside0.mk H
                            clear H
                            have hnb79 := NB249_250.out
                            have hnc79 := NB250_249.out
                            have hcz80_0 : wr.cell? ⟨gb249, 0, none⟩ = some (.int .i64 t227) := (blk_cell BK249.out 0).trans rfl
                            have hcz80_1 : wr.cell? ⟨gb249, 1, none⟩ = some (.int .i64 t228) := (blk_cell BK249.out 1).trans rfl
                            have hcz80_2 : wr.cell? ⟨gb249, 2, none⟩ = some (.int .i64 t229) := (blk_cell BK249.out 2).trans rfl
                            have hcz80_3 : wr.cell? ⟨gb249, 3, none⟩ = some (.int .i64 t230) := (blk_cell BK249.out 3).trans rfl
                            have hcz80_4 : wr.cell? ⟨gb249, 4, none⟩ = some (.int .i64 t231) := (blk_cell BK249.out 4).trans rfl
                            have hcz80_5 : wr.cell? ⟨gb249, 5, none⟩ = some (.int .i64 t232) := (blk_cell BK249.out 5).trans rfl
                            have hcz80_6 : wr.cell? ⟨gb249, 6, none⟩ = some (.int .i64 t233) := (blk_cell BK249.out 6).trans rfl
                            have hcz80_7 : wr.cell? ⟨gb249, 7, none⟩ = some (.int .i64 t234) := (blk_cell BK249.out 7).trans rfl
                            have hcz80_8 : wr.cell? ⟨gb249, 8, none⟩ = some (.int .i64 t235) := (blk_cell BK249.out 8).trans rfl
                            have hcz80_9 : wr.cell? ⟨gb249, 9, none⟩ = some (.int .i64 t236) := (blk_cell BK249.out 9).trans rfl
                            have hcz80_10 : wr.cell? ⟨gb249, 10, none⟩ = some (.int .i64 t237) := (blk_cell BK249.out 10).trans rfl
                            have hfz80_0 := blk_frozen BK249.out 0
                            have hfz80_1 := blk_frozen BK249.out 1
                            have hfz80_2 := blk_frozen BK249.out 2
                            have hfz80_3 := blk_frozen BK249.out 3
                            have hfz80_4 := blk_frozen BK249.out 4
                            have hfz80_5 := blk_frozen BK249.out 5
                            have hfz80_6 := blk_frozen BK249.out 6
                            have hfz80_7 := blk_frozen BK249.out 7
                            have hfz80_8 := blk_frozen BK249.out 8
                            have hfz80_9 := blk_frozen BK249.out 9
                            have hfz80_10 := blk_frozen BK249.out 10
                            have hcz81_0 : wr.cell? ⟨gb250, 0, none⟩ = some (.int .i64 t238) := (blk_cell BK250.out 0).trans rfl
                            have hcz81_1 : wr.cell? ⟨gb250, 1, none⟩ = some (.int .i64 t239) := (blk_cell BK250.out 1).trans rfl
                            have hcz81_2 : wr.cell? ⟨gb250, 2, none⟩ = some (.int .i64 t240) := (blk_cell BK250.out 2).trans rfl
                            have hcz81_3 : wr.cell? ⟨gb250, 3, none⟩ = some (.int .i64 t241) := (blk_cell BK250.out 3).trans rfl
                            have hcz81_4 : wr.cell? ⟨gb250, 4, none⟩ = some (.int .i64 t242) := (blk_cell BK250.out 4).trans rfl
                            have hcz81_5 : wr.cell? ⟨gb250, 5, none⟩ = some (.int .i64 t243) := (blk_cell BK250.out 5).trans rfl
                            have hcz81_6 : wr.cell? ⟨gb250, 6, none⟩ = some (.int .i64 t244) := (blk_cell BK250.out 6).trans rfl
                            have hcz81_7 : wr.cell? ⟨gb250, 7, none⟩ = some (.int .i64 t245) := (blk_cell BK250.out 7).trans rfl
                            have hcz81_8 : wr.cell? ⟨gb250, 8, none⟩ = some (.int .i64 t246) := (blk_cell BK250.out 8).trans rfl
                            have hcz81_9 : wr.cell? ⟨gb250, 9, none⟩ = some (.int .i64 t247) := (blk_cell BK250.out 9).trans rfl
                            have hcz81_10 : wr.cell? ⟨gb250, 10, none⟩ = some (.int .i64 t248) := (blk_cell BK250.out 10).trans rfl
                            have hfz81_0 := blk_frozen BK250.out 0
                            have hfz81_1 := blk_frozen BK250.out 1
                            have hfz81_2 := blk_frozen BK250.out 2
                            have hfz81_3 := blk_frozen BK250.out 3
                            have hfz81_4 := blk_frozen BK250.out 4
                            have hfz81_5 := blk_frozen BK250.out 5
                            have hfz81_6 := blk_frozen BK250.out 6
                            have hfz81_7 := blk_frozen BK250.out 7
                            have hfz81_8 := blk_frozen BK250.out 8
                            have hfz81_9 := blk_frozen BK250.out 9
                            have hfz81_10 := blk_frozen BK250.out 10
                            go_wp2
                            repeat (go_quiet (fail); try go_wp2)
                            go_roundg k1
                            case measure => have := HK1.out; omega
                            case rel => exact ⟨(wrap64 ((8 : Int) - 1)), (by first | rfl | (simp; done) | (simp [*]; done) | (simp; decide +kernel)), H', ⟨by have := HK1.out; omega⟩, ⟨by (with_reducible repeat (first | refine blk_drewN ?_ _ | refine blk_drew ?_ | refine blk_alloc ?_ _)); exact BK249.out⟩, ⟨by (with_reducible repeat (first | refine blk_drewN ?_ _ | refine blk_drew ?_ | refine blk_alloc ?_ _)); exact BK250.out⟩, ⟨by repeat (first | (with_reducible first | exact HB.out | apply below_alloc | apply pw_below_drewN | apply below_drew1 | refine below_set ?_ GE249.out | refine below_set ?_ GE250.out) | exact HB.out)⟩⟩
                          · rw [if_neg c78] at H
                            have c78b0 : (t235 == t246) = false := beq_eq_false_iff_ne.mpr c78
                            have c78b1 : (t235 != t246) = true := bne_iff_ne.mpr c78
                            obtain rfl := Option.some.inj H
                            have hnb82 := NB249_250.out
                            have hnc82 := NB250_249.out
                            have hcz83_0 : wr.cell? ⟨gb249, 0, none⟩ = some (.int .i64 t227) := (blk_cell BK249.out 0).trans rfl
                            have hcz83_1 : wr.cell? ⟨gb249, 1, none⟩ = some (.int .i64 t228) := (blk_cell BK249.out 1).trans rfl
                            have hcz83_2 : wr.cell? ⟨gb249, 2, none⟩ = some (.int .i64 t229) := (blk_cell BK249.out 2).trans rfl
                            have hcz83_3 : wr.cell? ⟨gb249, 3, none⟩ = some (.int .i64 t230) := (blk_cell BK249.out 3).trans rfl
                            have hcz83_4 : wr.cell? ⟨gb249, 4, none⟩ = some (.int .i64 t231) := (blk_cell BK249.out 4).trans rfl
                            have hcz83_5 : wr.cell? ⟨gb249, 5, none⟩ = some (.int .i64 t232) := (blk_cell BK249.out 5).trans rfl
                            have hcz83_6 : wr.cell? ⟨gb249, 6, none⟩ = some (.int .i64 t233) := (blk_cell BK249.out 6).trans rfl
                            have hcz83_7 : wr.cell? ⟨gb249, 7, none⟩ = some (.int .i64 t234) := (blk_cell BK249.out 7).trans rfl
                            have hcz83_8 : wr.cell? ⟨gb249, 8, none⟩ = some (.int .i64 t235) := (blk_cell BK249.out 8).trans rfl
                            have hcz83_9 : wr.cell? ⟨gb249, 9, none⟩ = some (.int .i64 t236) := (blk_cell BK249.out 9).trans rfl
                            have hcz83_10 : wr.cell? ⟨gb249, 10, none⟩ = some (.int .i64 t237) := (blk_cell BK249.out 10).trans rfl
                            have hfz83_0 := blk_frozen BK249.out 0
                            have hfz83_1 := blk_frozen BK249.out 1
                            have hfz83_2 := blk_frozen BK249.out 2
                            have hfz83_3 := blk_frozen BK249.out 3
                            have hfz83_4 := blk_frozen BK249.out 4
                            have hfz83_5 := blk_frozen BK249.out 5
                            have hfz83_6 := blk_frozen BK249.out 6
                            have hfz83_7 := blk_frozen BK249.out 7
                            have hfz83_8 := blk_frozen BK249.out 8
                            have hfz83_9 := blk_frozen BK249.out 9
                            have hfz83_10 := blk_frozen BK249.out 10
                            have hcz84_0 : wr.cell? ⟨gb250, 0, none⟩ = some (.int .i64 t238) := (blk_cell BK250.out 0).trans rfl
                            have hcz84_1 : wr.cell? ⟨gb250, 1, none⟩ = some (.int .i64 t239) := (blk_cell BK250.out 1).trans rfl
                            have hcz84_2 : wr.cell? ⟨gb250, 2, none⟩ = some (.int .i64 t240) := (blk_cell BK250.out 2).trans rfl
                            have hcz84_3 : wr.cell? ⟨gb250, 3, none⟩ = some (.int .i64 t241) := (blk_cell BK250.out 3).trans rfl
                            have hcz84_4 : wr.cell? ⟨gb250, 4, none⟩ = some (.int .i64 t242) := (blk_cell BK250.out 4).trans rfl
                            have hcz84_5 : wr.cell? ⟨gb250, 5, none⟩ = some (.int .i64 t243) := (blk_cell BK250.out 5).trans rfl
                            have hcz84_6 : wr.cell? ⟨gb250, 6, none⟩ = some (.int .i64 t244) := (blk_cell BK250.out 6).trans rfl
                            have hcz84_7 : wr.cell? ⟨gb250, 7, none⟩ = some (.int .i64 t245) := (blk_cell BK250.out 7).trans rfl
                            have hcz84_8 : wr.cell? ⟨gb250, 8, none⟩ = some (.int .i64 t246) := (blk_cell BK250.out 8).trans rfl
                            have hcz84_9 : wr.cell? ⟨gb250, 9, none⟩ = some (.int .i64 t247) := (blk_cell BK250.out 9).trans rfl
                            have hcz84_10 : wr.cell? ⟨gb250, 10, none⟩ = some (.int .i64 t248) := (blk_cell BK250.out 10).trans rfl
                            have hfz84_0 := blk_frozen BK250.out 0
                            have hfz84_1 := blk_frozen BK250.out 1
                            have hfz84_2 := blk_frozen BK250.out 2
                            have hfz84_3 := blk_frozen BK250.out 3
                            have hfz84_4 := blk_frozen BK250.out 4
                            have hfz84_5 := blk_frozen BK250.out 5
                            have hfz84_6 := blk_frozen BK250.out 6
                            have hfz84_7 := blk_frozen BK250.out 7
                            have hfz84_8 := blk_frozen BK250.out 8
                            have hfz84_9 := blk_frozen BK250.out 9
                            have hfz84_10 := blk_frozen BK250.out 10
                            go_wp2
                            repeat (go_quiet (fail); try go_wp2)
                            go_ret
                            exact ⟨by first | rfl | (simp [errW_none, errW_some] <;> rfl) | (simp [*, errW_none, errW_some] <;> rfl), by repeat (first | (with_reducible first | exact HB.out | apply below_alloc | apply pw_below_drewN | apply below_drew1 | refine below_set ?_ GE249.out | refine below_set ?_ GE250.out) | exact HB.out)⟩
                        · rw [if_neg c77] at H
                          clear c77
                          by_cases c85 : x7_1 = 9
                          · subst c85
                            rw [if_pos rfl] at H
                            by_cases c86 : t236 = t247
                            · rw [if_pos c86] at H
                              have c86b0 : (t236 == t247) = true := beq_iff_eq.mpr c86
                              have c86b1 : (t236 != t247) = false := bne_eq_false_iff_eq.mpr c86
                              clear c86
                              have H' := Aside0.mk H
                              clear H
                              have hnb87 := NB249_250.out
                              have hnc87 := NB250_249.out
                              have hcz88_0 : wr.cell? ⟨gb249, 0, none⟩ = some (.int .i64 t227) := (blk_cell BK249.out 0).trans rfl
                              have hcz88_1 : wr.cell? ⟨gb249, 1, none⟩ = some (.int .i64 t228) := (blk_cell BK249.out 1).trans rfl
                              have hcz88_2 : wr.cell? ⟨gb249, 2, none⟩ = some (.int .i64 t229) := (blk_cell BK249.out 2).trans rfl
                              have hcz88_3 : wr.cell? ⟨gb249, 3, none⟩ = some (.int .i64 t230) := (blk_cell BK249.out 3).trans rfl
                              have hcz88_4 : wr.cell? ⟨gb249, 4, none⟩ = some (.int .i64 t231) := (blk_cell BK249.out 4).trans rfl
                              have hcz88_5 : wr.cell? ⟨gb249, 5, none⟩ = some (.int .i64 t232) := (blk_cell BK249.out 5).trans rfl
                              have hcz88_6 : wr.cell? ⟨gb249, 6, none⟩ = some (.int .i64 t233) := (blk_cell BK249.out 6).trans rfl
                              have hcz88_7 : wr.cell? ⟨gb249, 7, none⟩ = some (.int .i64 t234) := (blk_cell BK249.out 7).trans rfl
                              have hcz88_8 : wr.cell? ⟨gb249, 8, none⟩ = some (.int .i64 t235) := (blk_cell BK249.out 8).trans rfl
                              have hcz88_9 : wr.cell? ⟨gb249, 9, none⟩ = some (.int .i64 t236) := (blk_cell BK249.out 9).trans rfl
                              have hcz88_10 : wr.cell? ⟨gb249, 10, none⟩ = some (.int .i64 t237) := (blk_cell BK249.out 10).trans rfl
                              have hfz88_0 := blk_frozen BK249.out 0
                              have hfz88_1 := blk_frozen BK249.out 1
                              have hfz88_2 := blk_frozen BK249.out 2
                              have hfz88_3 := blk_frozen BK249.out 3
                              have hfz88_4 := blk_frozen BK249.out 4
                              have hfz88_5 := blk_frozen BK249.out 5
                              have hfz88_6 := blk_frozen BK249.out 6
                              have hfz88_7 := blk_frozen BK249.out 7
                              have hfz88_8 := blk_frozen BK249.out 8
                              have hfz88_9 := blk_frozen BK249.out 9
                              have hfz88_10 := blk_frozen BK249.out 10
                              have hcz89_0 : wr.cell? ⟨gb250, 0, none⟩ = some (.int .i64 t238) := (blk_cell BK250.out 0).trans rfl
                              have hcz89_1 : wr.cell? ⟨gb250, 1, none⟩ = some (.int .i64 t239) := (blk_cell BK250.out 1).trans rfl
                              have hcz89_2 : wr.cell? ⟨gb250, 2, none⟩ = some (.int .i64 t240) := (blk_cell BK250.out 2).trans rfl
                              have hcz89_3 : wr.cell? ⟨gb250, 3, none⟩ = some (.int .i64 t241) := (blk_cell BK250.out 3).trans rfl
                              have hcz89_4 : wr.cell? ⟨gb250, 4, none⟩ = some (.int .i64 t242) := (blk_cell BK250.out 4).trans rfl
                              have hcz89_5 : wr.cell? ⟨gb250, 5, none⟩ = some (.int .i64 t243) := (blk_cell BK250.out 5).trans rfl
                              have hcz89_6 : wr.cell? ⟨gb250, 6, none⟩ = some (.int .i64 t244) := (blk_cell BK250.out 6).trans rfl
                              have hcz89_7 : wr.cell? ⟨gb250, 7, none⟩ = some (.int .i64 t245) := (blk_cell BK250.out 7).trans rfl
                              have hcz89_8 : wr.cell? ⟨gb250, 8, none⟩ = some (.int .i64 t246) := (blk_cell BK250.out 8).trans rfl
                              have hcz89_9 : wr.cell? ⟨gb250, 9, none⟩ = some (.int .i64 t247) := (blk_cell BK250.out 9).trans rfl
                              have hcz89_10 : wr.cell? ⟨gb250, 10, none⟩ = some (.int .i64 t248) := (blk_cell BK250.out 10).trans rfl
                              have hfz89_0 := blk_frozen BK250.out 0
                              have hfz89_1 := blk_frozen BK250.out 1
                              have hfz89_2 := blk_frozen BK250.out 2
                              have hfz89_3 := blk_frozen BK250.out 3
                              have hfz89_4 := blk_frozen BK250.out 4
                              have hfz89_5 := blk_frozen BK250.out 5
                              have hfz89_6 := blk_frozen BK250.out 6
                              have hfz89_7 := blk_frozen BK250.out 7
                              have hfz89_8 := blk_frozen BK250.out 8
                              have hfz89_9 := blk_frozen BK250.out 9
                              have hfz89_10 := blk_frozen BK250.out 10
                              go_wp2
                              repeat (go_quiet (fail); try go_wp2)
                              go_roundg k1
                              case measure => have := HK1.out; omega
                              case rel => exact ⟨(wrap64 ((9 : Int) - 1)), (by first | rfl | (simp; done) | (simp [*]; done) | (simp; decide +kernel)), H', ⟨by have := HK1.out; omega⟩, ⟨by (with_reducible repeat (first | refine blk_drewN ?_ _ | refine blk_drew ?_ | refine blk_alloc ?_ _)); exact BK249.out⟩, ⟨by (with_reducible repeat (first | refine blk_drewN ?_ _ | refine blk_drew ?_ | refine blk_alloc ?_ _)); exact BK250.out⟩, ⟨by repeat (first | (with_reducible first | exact HB.out | apply below_alloc | apply pw_below_drewN | apply below_drew1 | refine below_set ?_ GE249.out | refine below_set ?_ GE250.out) | exact HB.out)⟩⟩
                            · rw [if_neg c86] at H
                              have c86b0 : (t236 == t247) = false := beq_eq_false_iff_ne.mpr c86
                              have c86b1 : (t236 != t247) = true := bne_iff_ne.mpr c86
                              obtain rfl := Option.some.inj H
                              have hnb90 := NB249_250.out
                              have hnc90 := NB250_249.out
                              have hcz91_0 : wr.cell? ⟨gb249, 0, none⟩ = some (.int .i64 t227) := (blk_cell BK249.out 0).trans rfl
                              have hcz91_1 : wr.cell? ⟨gb249, 1, none⟩ = some (.int .i64 t228) := (blk_cell BK249.out 1).trans rfl
                              have hcz91_2 : wr.cell? ⟨gb249, 2, none⟩ = some (.int .i64 t229) := (blk_cell BK249.out 2).trans rfl
                              have hcz91_3 : wr.cell? ⟨gb249, 3, none⟩ = some (.int .i64 t230) := (blk_cell BK249.out 3).trans rfl
                              have hcz91_4 : wr.cell? ⟨gb249, 4, none⟩ = some (.int .i64 t231) := (blk_cell BK249.out 4).trans rfl
                              have hcz91_5 : wr.cell? ⟨gb249, 5, none⟩ = some (.int .i64 t232) := (blk_cell BK249.out 5).trans rfl
                              have hcz91_6 : wr.cell? ⟨gb249, 6, none⟩ = some (.int .i64 t233) := (blk_cell BK249.out 6).trans rfl
                              have hcz91_7 : wr.cell? ⟨gb249, 7, none⟩ = some (.int .i64 t234) := (blk_cell BK249.out 7).trans rfl
                              have hcz91_8 : wr.cell? ⟨gb249, 8, none⟩ = some (.int .i64 t235) := (blk_cell BK249.out 8).trans rfl
                              have hcz91_9 : wr.cell? ⟨gb249, 9, none⟩ = some (.int .i64 t236) := (blk_cell BK249.out 9).trans rfl
                              have hcz91_10 : wr.cell? ⟨gb249, 10, none⟩ = some (.int .i64 t237) := (blk_cell BK249.out 10).trans rfl
                              have hfz91_0 := blk_frozen BK249.out 0
                              have hfz91_1 := blk_frozen BK249.out 1
                              have hfz91_2 := blk_frozen BK249.out 2
                              have hfz91_3 := blk_frozen BK249.out 3
                              have hfz91_4 := blk_frozen BK249.out 4
                              have hfz91_5 := blk_frozen BK249.out 5
                              have hfz91_6 := blk_frozen BK249.out 6
                              have hfz91_7 := blk_frozen BK249.out 7
                              have hfz91_8 := blk_frozen BK249.out 8
                              have hfz91_9 := blk_frozen BK249.out 9
                              have hfz91_10 := blk_frozen BK249.out 10
                              have hcz92_0 : wr.cell? ⟨gb250, 0, none⟩ = some (.int .i64 t238) := (blk_cell BK250.out 0).trans rfl
                              have hcz92_1 : wr.cell? ⟨gb250, 1, none⟩ = some (.int .i64 t239) := (blk_cell BK250.out 1).trans rfl
                              have hcz92_2 : wr.cell? ⟨gb250, 2, none⟩ = some (.int .i64 t240) := (blk_cell BK250.out 2).trans rfl
                              have hcz92_3 : wr.cell? ⟨gb250, 3, none⟩ = some (.int .i64 t241) := (blk_cell BK250.out 3).trans rfl
                              have hcz92_4 : wr.cell? ⟨gb250, 4, none⟩ = some (.int .i64 t242) := (blk_cell BK250.out 4).trans rfl
                              have hcz92_5 : wr.cell? ⟨gb250, 5, none⟩ = some (.int .i64 t243) := (blk_cell BK250.out 5).trans rfl
                              have hcz92_6 : wr.cell? ⟨gb250, 6, none⟩ = some (.int .i64 t244) := (blk_cell BK250.out 6).trans rfl
                              have hcz92_7 : wr.cell? ⟨gb250, 7, none⟩ = some (.int .i64 t245) := (blk_cell BK250.out 7).trans rfl
                              have hcz92_8 : wr.cell? ⟨gb250, 8, none⟩ = some (.int .i64 t246) := (blk_cell BK250.out 8).trans rfl
                              have hcz92_9 : wr.cell? ⟨gb250, 9, none⟩ = some (.int .i64 t247) := (blk_cell BK250.out 9).trans rfl
                              have hcz92_10 : wr.cell? ⟨gb250, 10, none⟩ = some (.int .i64 t248) := (blk_cell BK250.out 10).trans rfl
                              have hfz92_0 := blk_frozen BK250.out 0
                              have hfz92_1 := blk_frozen BK250.out 1
                              have hfz92_2 := blk_frozen BK250.out 2
                              have hfz92_3 := blk_frozen BK250.out 3
                              have hfz92_4 := blk_frozen BK250.out 4
                              have hfz92_5 := blk_frozen BK250.out 5
                              have hfz92_6 := blk_frozen BK250.out 6
                              have hfz92_7 := blk_frozen BK250.out 7
                              have hfz92_8 := blk_frozen BK250.out 8
                              have hfz92_9 := blk_frozen BK250.out 9
                              have hfz92_10 := blk_frozen BK250.out 10
                              go_wp2
                              repeat (go_quiet (fail); try go_wp2)
                              go_ret
                              exact ⟨by first | rfl | (simp [errW_none, errW_some] <;> rfl) | (simp [*, errW_none, errW_some] <;> rfl), by repeat (first | (with_reducible first | exact HB.out | apply below_alloc | apply pw_below_drewN | apply below_drew1 | refine below_set ?_ GE249.out | refine below_set ?_ GE250.out) | exact HB.out)⟩
                          · rw [if_neg c85] at H
                            clear c85
                            by_cases c93 : x7_1 = 10
                            · subst c93
                              rw [if_pos rfl] at H
                              by_cases c94 : t237 = t248
                              · rw [if_pos c94] at H
                                have c94b0 : (t237 == t248) = true := beq_iff_eq.mpr c94
                                have c94b1 : (t237 != t248) = false := bne_eq_false_iff_eq.mpr c94
                                clear c94
                                have H' := Aside0.mk H
                                clear H
                                have hnb95 := NB249_250.out
                                have hnc95 := NB250_249.out
                                have hcz96_0 : wr.cell? ⟨gb249, 0, none⟩ = some (.int .i64 t227) := (blk_cell BK249.out 0).trans rfl
                                have hcz96_1 : wr.cell? ⟨gb249, 1, none⟩ = some (.int .i64 t228) := (blk_cell BK249.out 1).trans rfl
                                have hcz96_2 : wr.cell? ⟨gb249, 2, none⟩ = some (.int .i64 t229) := (blk_cell BK249.out 2).trans rfl
                                have hcz96_3 : wr.cell? ⟨gb249, 3, none⟩ = some (.int .i64 t230) := (blk_cell BK249.out 3).trans rfl
                                have hcz96_4 : wr.cell? ⟨gb249, 4, none⟩ = some (.int .i64 t231) := (blk_cell BK249.out 4).trans rfl
                                have hcz96_5 : wr.cell? ⟨gb249, 5, none⟩ = some (.int .i64 t232) := (blk_cell BK249.out 5).trans rfl
                                have hcz96_6 : wr.cell? ⟨gb249, 6, none⟩ = some (.int .i64 t233) := (blk_cell BK249.out 6).trans rfl
                                have hcz96_7 : wr.cell? ⟨gb249, 7, none⟩ = some (.int .i64 t234) := (blk_cell BK249.out 7).trans rfl
                                have hcz96_8 : wr.cell? ⟨gb249, 8, none⟩ = some (.int .i64 t235) := (blk_cell BK249.out 8).trans rfl
                                have hcz96_9 : wr.cell? ⟨gb249, 9, none⟩ = some (.int .i64 t236) := (blk_cell BK249.out 9).trans rfl
                                have hcz96_10 : wr.cell? ⟨gb249, 10, none⟩ = some (.int .i64 t237) := (blk_cell BK249.out 10).trans rfl
                                have hfz96_0 := blk_frozen BK249.out 0
                                have hfz96_1 := blk_frozen BK249.out 1
                                have hfz96_2 := blk_frozen BK249.out 2
                                have hfz96_3 := blk_frozen BK249.out 3
                                have hfz96_4 := blk_frozen BK249.out 4
                                have hfz96_5 := blk_frozen BK249.out 5
                                have hfz96_6 := blk_frozen BK249.out 6
                                have hfz96_7 := blk_frozen BK249.out 7
                                have hfz96_8 := blk_frozen BK249.out 8
                                have hfz96_9 := blk_frozen BK249.out 9
                                have hfz96_10 := blk_frozen BK249.out 10
                                have hcz97_0 : wr.cell? ⟨gb250, 0, none⟩ = some (.int .i64 t238) := (blk_cell BK250.out 0).trans rfl
                                have hcz97_1 : wr.cell? ⟨gb250, 1, none⟩ = some (.int .i64 t239) := (blk_cell BK250.out 1).trans rfl
                                have hcz97_2 : wr.cell? ⟨gb250, 2, none⟩ = some (.int .i64 t240) := (blk_cell BK250.out 2).trans rfl
                                have hcz97_3 : wr.cell? ⟨gb250, 3, none⟩ = some (.int .i64 t241) := (blk_cell BK250.out 3).trans rfl
                                have hcz97_4 : wr.cell? ⟨gb250, 4, none⟩ = some (.int .i64 t242) := (blk_cell BK250.out 4).trans rfl
                                have hcz97_5 : wr.cell? ⟨gb250, 5, none⟩ = some (.int .i64 t243) := (blk_cell BK250.out 5).trans rfl
                                have hcz97_6 : wr.cell? ⟨gb250, 6, none⟩ = some (.int .i64 t244) := (blk_cell BK250.out 6).trans rfl
                                have hcz97_7 : wr.cell? ⟨gb250, 7, none⟩ = some (.int .i64 t245) := (blk_cell BK250.out 7).trans rfl
                                have hcz97_8 : wr.cell? ⟨gb250, 8, none⟩ = some (.int .i64 t246) := (blk_cell BK250.out 8).trans rfl
                                have hcz97_9 : wr.cell? ⟨gb250, 9, none⟩ = some (.int .i64 t247) := (blk_cell BK250.out 9).trans rfl
                                have hcz97_10 : wr.cell? ⟨gb250, 10, none⟩ = some (.int .i64 t248) := (blk_cell BK250.out 10).trans rfl
                                have hfz97_0 := blk_frozen BK250.out 0
                                have hfz97_1 := blk_frozen BK250.out 1
                                have hfz97_2 := blk_frozen BK250.out 2
                                have hfz97_3 := blk_frozen BK250.out 3
                                have hfz97_4 := blk_frozen BK250.out 4
                                have hfz97_5 := blk_frozen BK250.out 5
                                have hfz97_6 := blk_frozen BK250.out 6
                                have hfz97_7 := blk_frozen BK250.out 7
                                have hfz97_8 := blk_frozen BK250.out 8
                                have hfz97_9 := blk_frozen BK250.out 9
                                have hfz97_10 := blk_frozen BK250.out 10
                                go_wp2
                                repeat (go_quiet (fail); try go_wp2)
                                go_roundg k1
                                case measure => have := HK1.out; omega
                                case rel => exact ⟨(wrap64 ((10 : Int) - 1)), (by first | rfl | (simp; done) | (simp [*]; done) | (simp; decide +kernel)), H', ⟨by have := HK1.out; omega⟩, ⟨by (with_reducible repeat (first | refine blk_drewN ?_ _ | refine blk_drew ?_ | refine blk_alloc ?_ _)); exact BK249.out⟩, ⟨by (with_reducible repeat (first | refine blk_drewN ?_ _ | refine blk_drew ?_ | refine blk_alloc ?_ _)); exact BK250.out⟩, ⟨by repeat (first | (with_reducible first | exact HB.out | apply below_alloc | apply pw_below_drewN | apply below_drew1 | refine below_set ?_ GE249.out | refine below_set ?_ GE250.out) | exact HB.out)⟩⟩
                              · rw [if_neg c94] at H
                                have c94b0 : (t237 == t248) = false := beq_eq_false_iff_ne.mpr c94
                                have c94b1 : (t237 != t248) = true := bne_iff_ne.mpr c94
                                obtain rfl := Option.some.inj H
                                have hnb98 := NB249_250.out
                                have hnc98 := NB250_249.out
                                have hcz99_0 : wr.cell? ⟨gb249, 0, none⟩ = some (.int .i64 t227) := (blk_cell BK249.out 0).trans rfl
                                have hcz99_1 : wr.cell? ⟨gb249, 1, none⟩ = some (.int .i64 t228) := (blk_cell BK249.out 1).trans rfl
                                have hcz99_2 : wr.cell? ⟨gb249, 2, none⟩ = some (.int .i64 t229) := (blk_cell BK249.out 2).trans rfl
                                have hcz99_3 : wr.cell? ⟨gb249, 3, none⟩ = some (.int .i64 t230) := (blk_cell BK249.out 3).trans rfl
                                have hcz99_4 : wr.cell? ⟨gb249, 4, none⟩ = some (.int .i64 t231) := (blk_cell BK249.out 4).trans rfl
                                have hcz99_5 : wr.cell? ⟨gb249, 5, none⟩ = some (.int .i64 t232) := (blk_cell BK249.out 5).trans rfl
                                have hcz99_6 : wr.cell? ⟨gb249, 6, none⟩ = some (.int .i64 t233) := (blk_cell BK249.out 6).trans rfl
                                have hcz99_7 : wr.cell? ⟨gb249, 7, none⟩ = some (.int .i64 t234) := (blk_cell BK249.out 7).trans rfl
                                have hcz99_8 : wr.cell? ⟨gb249, 8, none⟩ = some (.int .i64 t235) := (blk_cell BK249.out 8).trans rfl
                                have hcz99_9 : wr.cell? ⟨gb249, 9, none⟩ = some (.int .i64 t236) := (blk_cell BK249.out 9).trans rfl
                                have hcz99_10 : wr.cell? ⟨gb249, 10, none⟩ = some (.int .i64 t237) := (blk_cell BK249.out 10).trans rfl
                                have hfz99_0 := blk_frozen BK249.out 0
                                have hfz99_1 := blk_frozen BK249.out 1
                                have hfz99_2 := blk_frozen BK249.out 2
                                have hfz99_3 := blk_frozen BK249.out 3
                                have hfz99_4 := blk_frozen BK249.out 4
                                have hfz99_5 := blk_frozen BK249.out 5
                                have hfz99_6 := blk_frozen BK249.out 6
                                have hfz99_7 := blk_frozen BK249.out 7
                                have hfz99_8 := blk_frozen BK249.out 8
                                have hfz99_9 := blk_frozen BK249.out 9
                                have hfz99_10 := blk_frozen BK249.out 10
                                have hcz100_0 : wr.cell? ⟨gb250, 0, none⟩ = some (.int .i64 t238) := (blk_cell BK250.out 0).trans rfl
                                have hcz100_1 : wr.cell? ⟨gb250, 1, none⟩ = some (.int .i64 t239) := (blk_cell BK250.out 1).trans rfl
                                have hcz100_2 : wr.cell? ⟨gb250, 2, none⟩ = some (.int .i64 t240) := (blk_cell BK250.out 2).trans rfl
                                have hcz100_3 : wr.cell? ⟨gb250, 3, none⟩ = some (.int .i64 t241) := (blk_cell BK250.out 3).trans rfl
                                have hcz100_4 : wr.cell? ⟨gb250, 4, none⟩ = some (.int .i64 t242) := (blk_cell BK250.out 4).trans rfl
                                have hcz100_5 : wr.cell? ⟨gb250, 5, none⟩ = some (.int .i64 t243) := (blk_cell BK250.out 5).trans rfl
                                have hcz100_6 : wr.cell? ⟨gb250, 6, none⟩ = some (.int .i64 t244) := (blk_cell BK250.out 6).trans rfl
                                have hcz100_7 : wr.cell? ⟨gb250, 7, none⟩ = some (.int .i64 t245) := (blk_cell BK250.out 7).trans rfl
                                have hcz100_8 : wr.cell? ⟨gb250, 8, none⟩ = some (.int .i64 t246) := (blk_cell BK250.out 8).trans rfl
                                have hcz100_9 : wr.cell? ⟨gb250, 9, none⟩ = some (.int .i64 t247) := (blk_cell BK250.out 9).trans rfl
                                have hcz100_10 : wr.cell? ⟨gb250, 10, none⟩ = some (.int .i64 t248) := (blk_cell BK250.out 10).trans rfl
                                have hfz100_0 := blk_frozen BK250.out 0
                                have hfz100_1 := blk_frozen BK250.out 1
                                have hfz100_2 := blk_frozen BK250.out 2
                                have hfz100_3 := blk_frozen BK250.out 3
                                have hfz100_4 := blk_frozen BK250.out 4
                                have hfz100_5 := blk_frozen BK250.out 5
                                have hfz100_6 := blk_frozen BK250.out 6
                                have hfz100_7 := blk_frozen BK250.out 7
                                have hfz100_8 := blk_frozen BK250.out 8
                                have hfz100_9 := blk_frozen BK250.out 9
                                have hfz100_10 := blk_frozen BK250.out 10
                                go_wp2
                                repeat (go_quiet (fail); try go_wp2)
                                go_ret
                                exact ⟨by first | rfl | (simp [errW_none, errW_some] <;> rfl) | (simp [*, errW_none, errW_some] <;> rfl), by repeat (first | (with_reducible first | exact HB.out | apply below_alloc | apply pw_below_drewN | apply below_drew1 | refine below_set ?_ GE249.out | refine below_set ?_ GE250.out) | exact HB.out)⟩
                            · rw [if_neg c93] at H
                              clear c93
                              exact absurd H (by simp)
      · rw [if_neg c12] at H
        have c12b0 : decide (0 ≤ x7_1) = false := decide_eq_false c12
        clear c12
        obtain rfl := Option.some.inj H
        go_wp2
        repeat (go_quiet (fail); try go_wp2)
        go_ret
        exact ⟨by first | rfl | (simp [errW_none, errW_some] <;> rfl) | (simp [*, errW_none, errW_some] <;> rfl), by repeat (first | (with_reducible first | exact HB.out | apply below_alloc | apply pw_below_drewN | apply below_drew1 | refine below_set ?_ GE249.out | refine below_set ?_ GE250.out) | exact HB.out)⟩

end Go.Proofs.YtedolmjealgeoaaDoor.PBase
