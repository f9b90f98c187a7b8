-- Printed by a program of ours (wip/common/mkprint.py), turned from the kit's print; Lean checks it.
import Derived.Test.YtfkknipkfcmiaaaPAllx0
import Derived.Test.YtfkknipkfcmiaaaPAllx2
import Derived.Test.YtfkknipkfcmiaaaPAllx4
namespace Go.Proofs.Ytfkknipkfcmiaaa.PAll
open Go.Proofs.Ytfkknipkfcmiaaa.Add
open Go.RowKit Go.Proofs.YtfkknipkfcmiaaaW.PrintWords Go.Proofs.YtfkknipkfcmiaaaW.PrintLast Go.Proofs.YtfkknipkfcmiaaaW.PrintMore
attribute [local go_sem] max2_int min2_int max_two min_two max_three min_three max_four min_four   -- for this text's walks alone
set_option linter.unusedVariables false
set_option linter.unusedSimpArgs false

/-! ### remontoirlaw01_TickBack: function 6 -/
def remontoirlaw01_TickBack.l0 : Nat → Int → Int → Int → Int → Int → Int → Int → Int → Int → Int → Int → Int → Int → Int → Int → Int → Int → Int → Int → Int → Int → Int → Int → Int → Option (Bool)
  | 0, _, _, _, _, _, _, _, _, _, _, _, _, _, _, _, _, _, _, _, _, _, _, _, _ => none
  | k + 1, x0, x6, x240000, x240001, x240002, x240003, x240004, x240005, x240006, x240007, x240008, x240009, x240010, x252000, x252001, x252002, x252003, x252004, x252005, x252006, x252007, x252008, x252009, x252010 => if x6 < 11 then (if x6 = 0 then (if x252000 < 0 then (none) else (if x252000 > 63 then (none) else (remontoirlaw01_TickBack.l0 k x0 (wrap64 (x6 + 1)) x240000 x240001 x240002 x240003 x240004 x240005 x240006 x240007 x240008 x240009 x240010 x252000 x252001 x252002 x252003 x252004 x252005 x252006 x252007 x252008 x252009 x252010))) else (if x6 = 1 then (if x252001 < 0 then (none) else (if x252001 > 63 then (none) else (remontoirlaw01_TickBack.l0 k x0 (wrap64 (x6 + 1)) x240000 x240001 x240002 x240003 x240004 x240005 x240006 x240007 x240008 x240009 x240010 x252000 x252001 x252002 x252003 x252004 x252005 x252006 x252007 x252008 x252009 x252010))) else (if x6 = 2 then (if x252002 < 0 then (none) else (if x252002 > 63 then (none) else (remontoirlaw01_TickBack.l0 k x0 (wrap64 (x6 + 1)) x240000 x240001 x240002 x240003 x240004 x240005 x240006 x240007 x240008 x240009 x240010 x252000 x252001 x252002 x252003 x252004 x252005 x252006 x252007 x252008 x252009 x252010))) else (if x6 = 3 then (if x252003 < 0 then (none) else (if x252003 > 63 then (none) else (remontoirlaw01_TickBack.l0 k x0 (wrap64 (x6 + 1)) x240000 x240001 x240002 x240003 x240004 x240005 x240006 x240007 x240008 x240009 x240010 x252000 x252001 x252002 x252003 x252004 x252005 x252006 x252007 x252008 x252009 x252010))) else (if x6 = 4 then (if x252004 < 0 then (none) else (if x252004 > 63 then (none) else (remontoirlaw01_TickBack.l0 k x0 (wrap64 (x6 + 1)) x240000 x240001 x240002 x240003 x240004 x240005 x240006 x240007 x240008 x240009 x240010 x252000 x252001 x252002 x252003 x252004 x252005 x252006 x252007 x252008 x252009 x252010))) else (if x6 = 5 then (if x252005 < 0 then (none) else (if x252005 > 63 then (none) else (remontoirlaw01_TickBack.l0 k x0 (wrap64 (x6 + 1)) x240000 x240001 x240002 x240003 x240004 x240005 x240006 x240007 x240008 x240009 x240010 x252000 x252001 x252002 x252003 x252004 x252005 x252006 x252007 x252008 x252009 x252010))) else (if x6 = 6 then (if x252006 < 0 then (none) else (if x252006 > 63 then (none) else (remontoirlaw01_TickBack.l0 k x0 (wrap64 (x6 + 1)) x240000 x240001 x240002 x240003 x240004 x240005 x240006 x240007 x240008 x240009 x240010 x252000 x252001 x252002 x252003 x252004 x252005 x252006 x252007 x252008 x252009 x252010))) else (if x6 = 7 then (if x252007 < 0 then (none) else (if x252007 > 63 then (none) else (remontoirlaw01_TickBack.l0 k x0 (wrap64 (x6 + 1)) x240000 x240001 x240002 x240003 x240004 x240005 x240006 x240007 x240008 x240009 x240010 x252000 x252001 x252002 x252003 x252004 x252005 x252006 x252007 x252008 x252009 x252010))) else (if x6 = 8 then (if x252008 < 0 then (none) else (if x252008 > 63 then (none) else (remontoirlaw01_TickBack.l0 k x0 (wrap64 (x6 + 1)) x240000 x240001 x240002 x240003 x240004 x240005 x240006 x240007 x240008 x240009 x240010 x252000 x252001 x252002 x252003 x252004 x252005 x252006 x252007 x252008 x252009 x252010))) else (if x6 = 9 then (if x252009 < 0 then (none) else (if x252009 > 63 then (none) else (remontoirlaw01_TickBack.l0 k x0 (wrap64 (x6 + 1)) x240000 x240001 x240002 x240003 x240004 x240005 x240006 x240007 x240008 x240009 x240010 x252000 x252001 x252002 x252003 x252004 x252005 x252006 x252007 x252008 x252009 x252010))) else (if x6 = 10 then (if x252010 < 0 then (none) else (if x252010 > 63 then (none) else (if x252010 > 15 then (none) else (remontoirlaw01_TickBack.l0 k x0 (wrap64 (x6 + 1)) x240000 x240001 x240002 x240003 x240004 x240005 x240006 x240007 x240008 x240009 x240010 x252000 x252001 x252002 x252003 x252004 x252005 x252006 x252007 x252008 x252009 x252010)))) else (none)))))))))))) else ((tick_Of.f k x252000 x252001 x252002 x252003 x252004 x252005 x252006 x252007 x252008 x252009 x252010).bind fun bt252 => ((tick_Of.f k x240000 x240001 x240002 x240003 x240004 x240005 x240006 x240007 x240008 x240009 x240010).bind fun bt254 => (if bt252.2 = true then (if bt252.1 = x0 then (if bt254.2 = true then ((tick_Digits.f k bt254.1).bind fun bt256 => (if bt256.1 = x240000 then (if bt256.2.1 = x240001 then (if bt256.2.2.1 = x240002 then (if bt256.2.2.2.1 = x240003 then (if bt256.2.2.2.2.1 = x240004 then (if bt256.2.2.2.2.2.1 = x240005 then (if bt256.2.2.2.2.2.2.1 = x240006 then (if bt256.2.2.2.2.2.2.2.1 = x240007 then (if bt256.2.2.2.2.2.2.2.2.1 = x240008 then (if bt256.2.2.2.2.2.2.2.2.2.1 = x240009 then (if bt256.2.2.2.2.2.2.2.2.2.2 = x240010 then ((remontoirlaw01_wakes.f k).bind fun t267 => (some t267)) else (none)) else (none)) else (none)) else (none)) else (none)) else (none)) else (none)) else (none)) else (none)) else (none)) else (none))) else (if bt254.1 = 0 then ((remontoirlaw01_wakes.f k).bind fun t268 => (some t268)) else (none))) else (none)) else (none))))
def remontoirlaw01_TickBack.f (k : Nat) (a0 : Int) (a1_0 : Int) (a1_1 : Int) (a1_2 : Int) (a1_3 : Int) (a1_4 : Int) (a1_5 : Int) (a1_6 : Int) (a1_7 : Int) (a1_8 : Int) (a1_9 : Int) (a1_10 : Int) : Option (Bool) := (tick_Digits.f k a0).bind fun bt240 => (remontoirlaw01_TickBack.l0 k a0 0 a1_0 a1_1 a1_2 a1_3 a1_4 a1_5 a1_6 a1_7 a1_8 a1_9 a1_10 bt240.1 bt240.2.1 bt240.2.2.1 bt240.2.2.2.1 bt240.2.2.2.2.1 bt240.2.2.2.2.2.1 bt240.2.2.2.2.2.2.1 bt240.2.2.2.2.2.2.2.1 bt240.2.2.2.2.2.2.2.2.1 bt240.2.2.2.2.2.2.2.2.2.1 bt240.2.2.2.2.2.2.2.2.2.2)
theorem remontoirlaw01_TickBack.mono_l : ∀ k, (∀ y0 y1 y2 y3 y4 y5 y6 y7 y8 y9 y10 y11 y12 y13 y14 y15 y16 y17 y18 y19 y20 y21 y22 y23, LeO (remontoirlaw01_TickBack.l0 k y0 y1 y2 y3 y4 y5 y6 y7 y8 y9 y10 y11 y12 y13 y14 y15 y16 y17 y18 y19 y20 y21 y22 y23) (remontoirlaw01_TickBack.l0 (k + 1) y0 y1 y2 y3 y4 y5 y6 y7 y8 y9 y10 y11 y12 y13 y14 y15 y16 y17 y18 y19 y20 y21 y22 y23))
  | 0 => fun _ _ _ _ _ _ _ _ _ _ _ _ _ _ _ _ _ _ _ _ _ _ _ _ r h => by simp [remontoirlaw01_TickBack.l0] at h
  | k + 1 => by
    have ih0 := remontoirlaw01_TickBack.mono_l k
    · intro y0 y1 y2 y3 y4 y5 y6 y7 y8 y9 y10 y11 y12 y13 y14 y15 y16 y17 y18 y19 y20 y21 y22 y23
      unfold remontoirlaw01_TickBack.l0
      repeat' first
      | (with_reducible exact ih0 _ _ _ _ _ _ _ _ _ _ _ _ _ _ _ _ _ _ _ _ _ _ _ _)
      | (with_reducible exact remontoirlaw01_wakes.mono _)
      | (with_reducible exact tick_Digits.mono _ _)
      | (with_reducible exact tick_Of.mono _ _ _ _ _ _ _ _ _ _ _ _)
      | (with_reducible exact LeO.refl _)
      | (with_reducible exact LeO.none _)
      | (with_reducible refine LeO.ite ?_ ?_)
      | (with_reducible refine LeO.bind ?_ (fun _ => ?_))
      | exact ih0 _ _ _ _ _ _ _ _ _ _ _ _ _ _ _ _ _ _ _ _ _ _ _ _
      | exact remontoirlaw01_wakes.mono _
      | exact tick_Digits.mono _ _
      | exact tick_Of.mono _ _ _ _ _ _ _ _ _ _ _ _
      | exact LeO.none _
      | refine LeO.ite ?_ ?_
      | refine LeO.bind ?_ (fun _ => ?_)
theorem remontoirlaw01_TickBack.mono : ∀ a0 a1 a2 a3 a4 a5 a6 a7 a8 a9 a10 a11 k, LeO (remontoirlaw01_TickBack.f k a0 a1 a2 a3 a4 a5 a6 a7 a8 a9 a10 a11) (remontoirlaw01_TickBack.f (k + 1) a0 a1 a2 a3 a4 a5 a6 a7 a8 a9 a10 a11) := by
  intro a0 a1 a2 a3 a4 a5 a6 a7 a8 a9 a10 a11 k
  have ih0 := remontoirlaw01_TickBack.mono_l k
  unfold remontoirlaw01_TickBack.f
  repeat' first
      | (with_reducible exact ih0 _ _ _ _ _ _ _ _ _ _ _ _ _ _ _ _ _ _ _ _ _ _ _ _)
      | (with_reducible exact remontoirlaw01_wakes.mono _)
      | (with_reducible exact tick_Digits.mono _ _)
      | (with_reducible exact tick_Of.mono _ _ _ _ _ _ _ _ _ _ _ _)
      | (with_reducible exact LeO.refl _)
      | (with_reducible exact LeO.none _)
      | (with_reducible refine LeO.ite ?_ ?_)
      | (with_reducible refine LeO.bind ?_ (fun _ => ?_))
      | exact ih0 _ _ _ _ _ _ _ _ _ _ _ _ _ _ _ _ _ _ _ _ _ _ _ _
      | exact remontoirlaw01_wakes.mono _
      | exact tick_Digits.mono _ _
      | exact tick_Of.mono _ _ _ _ _ _ _ _ _ _ _ _
      | exact LeO.none _
      | refine LeO.ite ?_ ?_
      | refine LeO.bind ?_ (fun _ => ?_)
def remontoirlaw01_TickBack.T9 : Bool × List (List Nat × List Nat) := (true, [([], []), ([0], [0]), ([1], [1]), ([1], [1]), ([2, 3, 1], [1, 2, 3]), ([1, 4], [1, 4]), ([5, 1], [5]), ([6], [6]), ([7, 6], [6, 7]), ([8, 6, 6], [6, 8]), ([9], [9]), ([10, 9], [9, 10]), ([9, 11, 6], [6, 9, 11]), ([12, 9, 6], [6, 12]), ([13], [13]), ([14, 13, 13], [13, 14]), ([15], [15]), ([16, 15, 15], [15, 16]), ([15], [15]), ([17, 18, 15], [15, 17, 18]), ([15, 19, 13], [13, 15, 19]), ([13, 20, 6], [6, 13, 20]), ([6, 21], [6, 21]), ([22, 17], [22]), ([23, 23], [23]), ([23, 24], [23, 24]), ([25, 24, 0, 1, 2, 3, 4, 5, 6, 7, 8, 9, 10, 11, 12, 13, 14, 15, 16, 17, 18, 19, 20, 21, 22, 23, 24, 25], [25])])
def remontoirlaw01_TickBack.B9 : List Nat := [0, 1, 3, 3, 15, 31, 63, 127, 255, 511, 1023, 2047, 4095, 8191, 16383, 32767, 65535, 131071, 65535, 524287, 1048575, 2097151, 4194303, 8388607, 16777215, 33554431, 67108863]
theorem remontoirlaw01_TickBack.tab9 : rtab .any (opsOf Try.f6 9) = remontoirlaw01_TickBack.T9 := by kernel_rfl
theorem remontoirlaw01_TickBack.bits9 : waitsOk remontoirlaw01_TickBack.T9.2 remontoirlaw01_TickBack.B9 = true := by kernel_rfl
set_option maxHeartbeats 8000000 in
set_option maxRecDepth 100000 in
theorem remontoirlaw01_TickBack.calls (k : Nat) (a0 : Int) (a1_0 : Int) (a1_1 : Int) (a1_2 : Int) (a1_3 : Int) (a1_4 : Int) (a1_5 : Int) (a1_6 : Int) (a1_7 : Int) (a1_8 : Int) (a1_9 : Int) (a1_10 : Int) (r : Bool) (w : World) (h : remontoirlaw01_TickBack.f k a0 a1_0 a1_1 a1_2 a1_3 a1_4 a1_5 a1_6 a1_7 a1_8 a1_9 a1_10 = some r) (hT0 : TabOk w) :
    Calls Try.prog 6 #[.int .u64 a0, .agg #[.int .i64 a1_0, .int .i64 a1_1, .int .i64 a1_2, .int .i64 a1_3, .int .i64 a1_4, .int .i64 a1_5, .int .i64 a1_6, .int .i64 a1_7, .int .i64 a1_8, .int .i64 a1_9, .int .i64 a1_10]] w fun e w' => e = .returned (.bool r) ∧ Below w.heap.size w w' := by
  have HT0 := Aside0.mk hT0
  clear hT0
  have hu24 := Try.underlying24
  have HB := Aside0.mk (Below.refl w.heap.size w)
  have H : ((tick_Digits.f k a0).bind fun bt240 => (remontoirlaw01_TickBack.l0 k a0 0 a1_0 a1_1 a1_2 a1_3 a1_4 a1_5 a1_6 a1_7 a1_8 a1_9 a1_10 bt240.1 bt240.2.1 bt240.2.2.1 bt240.2.2.2.1 bt240.2.2.2.2.1 bt240.2.2.2.2.2.1 bt240.2.2.2.2.2.2.1 bt240.2.2.2.2.2.2.2.1 bt240.2.2.2.2.2.2.2.2.1 bt240.2.2.2.2.2.2.2.2.2.1 bt240.2.2.2.2.2.2.2.2.2.2)) = some r := h
  clear h
  replace H := Option.bind_eq_some_iff.mp H
  obtain ⟨⟨t240, t241, t242, t243, t244, t245, t246, t247, t248, t249, t250⟩, A30, H⟩ := H
  replace H : (remontoirlaw01_TickBack.l0 k a0 0 a1_0 a1_1 a1_2 a1_3 a1_4 a1_5 a1_6 a1_7 a1_8 a1_9 a1_10 t240 t241 t242 t243 t244 t245 t246 t247 t248 t249 t250) = some r := H
  have A3 := Aside0.mk A30
  clear A30
  have H' := Aside0.mk H
  clear H
  go_enter Try.func6, Try.ntmps6
  go_wp2_with (first | ((with_reducible refine gate_dst (N := 3) rfl ?_); refine box_event ?hg (N := 3) ?hd (cs := #[.int .i64 a1_0, .int .i64 a1_1, .int .i64 a1_2, .int .i64 a1_3, .int .i64 a1_4, .int .i64 a1_5, .int .i64 a1_6, .int .i64 a1_7, .int .i64 a1_8, .int .i64 a1_9, .int .i64 a1_10]) (t := 24) ?hr ?_; (case hd => rfl); (case hg => rfl); (case hr => first | (go_simp; done) | (go_simp; rfl)); intro gb239 hg w4 hbox hb; have n0_ := Aside0.mk (below_step (by repeat (first | (with_reducible first | exact HB.out | apply below_alloc | apply pw_below_drewN | apply below_drew1) | exact HB.out)) hb); have n1_ := Aside0.mk (hbox); have n2_ := Aside0.mk ((by rw [hg]; exact (below_size (by repeat (first | (with_reducible first | exact HB.out | apply below_alloc | apply pw_below_drewN | apply below_drew1) | exact HB.out))) : w.heap.size ≤ gb239)); have n3_ := Aside0.mk ((by rw [hg]; exact (below_size (by repeat (first | (with_reducible first | exact HB.out | apply below_alloc | apply pw_below_drewN | apply below_drew1) | exact HB.out))) : w.heap.size ≤ gb239)); clear HB; have HB := n0_; have BK239 := n1_; have GW239 := n2_; have GE239 := n3_; clear n0_ n1_ n2_ n3_; clear hb hbox hg) | ((with_reducible refine gate_callee (f := 9) rfl ?_); refine goesL_ (some 12) rfl rfl Try.func9 (by kernel_rfl) rfl #[.int .u64 a0] rfl (by (try simp only [List.map_toArray, List.map_cons, List.map_nil]); first | done | rfl | (simp only [List.length_drop, List.length_take]; rfl)) ?_; (with_reducible refine (tick_Digits.calls k a0 t240 t241 t242 t243 t244 t245 t246 t247 t248 t249 t250 _ A3.out).mono ?_); rintro e w5 ⟨rfl, hb⟩; refine ⟨_, rfl, ?_⟩; have n0_ := Aside0.mk (blk_below (g := gb239) (o := .cells #[.int .i64 a1_0, .int .i64 a1_1, .int .i64 a1_2, .int .i64 a1_3, .int .i64 a1_4, .int .i64 a1_5, .int .i64 a1_6, .int .i64 a1_7, .int .i64 a1_8, .int .i64 a1_9, .int .i64 a1_10] 24 (0, 0)) (by (with_reducible repeat (first | refine blk_drewN ?_ _ | refine blk_drew ?_ | refine blk_alloc ?_ _)); exact BK239.out) hb); have n1_ := Aside0.mk (below_step (by repeat (first | (with_reducible first | exact HB.out | apply below_alloc | apply pw_below_drewN | apply below_drew1 | refine below_set ?_ GE239.out) | exact HB.out)) hb); clear BK239; clear HB; have BK239 := n0_; have HB := n1_; clear n0_ n1_; (try clear hb); (try clear hb2); (try clear hk); (try clear hi)) | ((with_reducible refine gate_dst (N := 5) rfl ?_); refine box_event ?hg (N := 5) ?hd (cs := #[.int .i64 0, .int .i64 0, .int .i64 0, .int .i64 0, .int .i64 0, .int .i64 0, .int .i64 0, .int .i64 0, .int .i64 0, .int .i64 0, .int .i64 0]) (t := 24) ?hr ?_; (case hd => rfl); (case hg => rfl); (case hr => first | (go_simp; done) | (go_simp; rfl)); intro gb251 hg w6 hbox hb; have n0_ := Aside0.mk (blk_below (g := gb239) (o := .cells #[.int .i64 a1_0, .int .i64 a1_1, .int .i64 a1_2, .int .i64 a1_3, .int .i64 a1_4, .int .i64 a1_5, .int .i64 a1_6, .int .i64 a1_7, .int .i64 a1_8, .int .i64 a1_9, .int .i64 a1_10] 24 (0, 0)) (by (with_reducible repeat (first | refine blk_drewN ?_ _ | refine blk_drew ?_ | refine blk_alloc ?_ _)); exact BK239.out) hb); have n1_ := Aside0.mk (below_step (by repeat (first | (with_reducible first | exact HB.out | apply below_alloc | apply pw_below_drewN | apply below_drew1 | refine below_set ?_ GE239.out) | exact HB.out)) hb); have n2_ := Aside0.mk (hbox); have n3_ := Aside0.mk ((by rw [hg]; exact (below_size (by repeat (first | (with_reducible first | exact HB.out | apply below_alloc | apply pw_below_drewN | apply below_drew1 | refine below_set ?_ GE239.out) | exact HB.out))) : w.heap.size ≤ gb251)); have n4_ := Aside0.mk ((by rw [hg]; exact (below_size (by repeat (first | (with_reducible first | exact HB.out | apply below_alloc | apply pw_below_drewN | apply below_drew1 | refine below_set ?_ GE239.out) | exact HB.out))) : w.heap.size ≤ gb251)); have n5_ := Aside0.mk ((by rw [hg]; exact Nat.ne_of_lt (blk_lt (g := gb239) (o := .cells #[.int .i64 a1_0, .int .i64 a1_1, .int .i64 a1_2, .int .i64 a1_3, .int .i64 a1_4, .int .i64 a1_5, .int .i64 a1_6, .int .i64 a1_7, .int .i64 a1_8, .int .i64 a1_9, .int .i64 a1_10] 24 (0, 0)) (by (with_reducible repeat (first | refine blk_drewN ?_ _ | refine blk_drew ?_ | refine blk_alloc ?_ _)); exact BK239.out)) : gb239 ≠ gb251)); have n6_ := Aside0.mk ((by rw [hg]; exact Nat.ne_of_gt (blk_lt (g := gb239) (o := .cells #[.int .i64 a1_0, .int .i64 a1_1, .int .i64 a1_2, .int .i64 a1_3, .int .i64 a1_4, .int .i64 a1_5, .int .i64 a1_6, .int .i64 a1_7, .int .i64 a1_8, .int .i64 a1_9, .int .i64 a1_10] 24 (0, 0)) (by (with_reducible repeat (first | refine blk_drewN ?_ _ | refine blk_drew ?_ | refine blk_alloc ?_ _)); exact BK239.out)) : gb251 ≠ gb239)); clear BK239; clear HB; have BK239 := n0_; have HB := n1_; have BK251 := n2_; have GW251 := n3_; have GE251 := n4_; have NB239_251 := n5_; have NB251_239 := n6_; clear n0_ n1_ n2_ n3_ n4_ n5_ n6_; clear hb hbox hg; have hnb7 := NB251_239.out; have hnc7 := NB239_251.out; have hcz8_0 : w6.cell? ⟨gb251, 0, none⟩ = some (.int .i64 0) := (blk_cell BK251.out 0).trans rfl; have hcz8_1 : w6.cell? ⟨gb251, 1, none⟩ = some (.int .i64 0) := (blk_cell BK251.out 1).trans rfl; have hcz8_2 : w6.cell? ⟨gb251, 2, none⟩ = some (.int .i64 0) := (blk_cell BK251.out 2).trans rfl; have hcz8_3 : w6.cell? ⟨gb251, 3, none⟩ = some (.int .i64 0) := (blk_cell BK251.out 3).trans rfl; have hcz8_4 : w6.cell? ⟨gb251, 4, none⟩ = some (.int .i64 0) := (blk_cell BK251.out 4).trans rfl; have hcz8_5 : w6.cell? ⟨gb251, 5, none⟩ = some (.int .i64 0) := (blk_cell BK251.out 5).trans rfl; have hcz8_6 : w6.cell? ⟨gb251, 6, none⟩ = some (.int .i64 0) := (blk_cell BK251.out 6).trans rfl; have hcz8_7 : w6.cell? ⟨gb251, 7, none⟩ = some (.int .i64 0) := (blk_cell BK251.out 7).trans rfl; have hcz8_8 : w6.cell? ⟨gb251, 8, none⟩ = some (.int .i64 0) := (blk_cell BK251.out 8).trans rfl; have hcz8_9 : w6.cell? ⟨gb251, 9, none⟩ = some (.int .i64 0) := (blk_cell BK251.out 9).trans rfl; have hcz8_10 : w6.cell? ⟨gb251, 10, none⟩ = some (.int .i64 0) := (blk_cell BK251.out 10).trans rfl; have hfz8_0 := blk_frozen BK251.out 0; have hfz8_1 := blk_frozen BK251.out 1; have hfz8_2 := blk_frozen BK251.out 2; have hfz8_3 := blk_frozen BK251.out 3; have hfz8_4 := blk_frozen BK251.out 4; have hfz8_5 := blk_frozen BK251.out 5; have hfz8_6 := blk_frozen BK251.out 6; have hfz8_7 := blk_frozen BK251.out 7; have hfz8_8 := blk_frozen BK251.out 8; have hfz8_9 := blk_frozen BK251.out 9; have hfz8_10 := blk_frozen BK251.out 10))
  go_loopg [6] k (fun kq v6 w' => ∃ (x6_1 : Int), v6 = .int .i64 x6_1 ∧ Aside0 (remontoirlaw01_TickBack.l0 kq a0 x6_1 a1_0 a1_1 a1_2 a1_3 a1_4 a1_5 a1_6 a1_7 a1_8 a1_9 a1_10 t240 t241 t242 t243 t244 t245 t246 t247 t248 t249 t250 = some r) ∧ Aside0 (kq ≤ k) ∧ Aside0 (w'.heap[gb239]? = some (.cells #[.int .i64 a1_0, .int .i64 a1_1, .int .i64 a1_2, .int .i64 a1_3, .int .i64 a1_4, .int .i64 a1_5, .int .i64 a1_6, .int .i64 a1_7, .int .i64 a1_8, .int .i64 a1_9, .int .i64 a1_10] 24 (0, 0))) ∧ Aside0 (w'.heap[gb251]? = some (.cells #[.int .i64 t240, .int .i64 t241, .int .i64 t242, .int .i64 t243, .int .i64 t244, .int .i64 t245, .int .i64 t246, .int .i64 t247, .int .i64 t248, .int .i64 t249, .int .i64 t250] 24 (0, 0))) ∧ Aside0 (Below w.heap.size w w'))
  case atStart => exact ⟨(0), (by first | rfl | (simp; done) | (simp [*]; done) | (simp; decide +kernel)), H', ⟨Nat.le_refl _⟩, ⟨by (with_reducible repeat (first | refine blk_drewN ?_ _ | refine blk_drew ?_ | refine blk_alloc ?_ _)); refine blk_far ?_ NB239_251.out _; (with_reducible repeat (first | refine blk_drewN ?_ _ | refine blk_drew ?_ | refine blk_alloc ?_ _)); refine blk_far ?_ NB239_251.out _; (with_reducible repeat (first | refine blk_drewN ?_ _ | refine blk_drew ?_ | refine blk_alloc ?_ _)); refine blk_far ?_ NB239_251.out _; (with_reducible repeat (first | refine blk_drewN ?_ _ | refine blk_drew ?_ | refine blk_alloc ?_ _)); refine blk_far ?_ NB239_251.out _; (with_reducible repeat (first | refine blk_drewN ?_ _ | refine blk_drew ?_ | refine blk_alloc ?_ _)); refine blk_far ?_ NB239_251.out _; (with_reducible repeat (first | refine blk_drewN ?_ _ | refine blk_drew ?_ | refine blk_alloc ?_ _)); refine blk_far ?_ NB239_251.out _; (with_reducible repeat (first | refine blk_drewN ?_ _ | refine blk_drew ?_ | refine blk_alloc ?_ _)); refine blk_far ?_ NB239_251.out _; (with_reducible repeat (first | refine blk_drewN ?_ _ | refine blk_drew ?_ | refine blk_alloc ?_ _)); refine blk_far ?_ NB239_251.out _; (with_reducible repeat (first | refine blk_drewN ?_ _ | refine blk_drew ?_ | refine blk_alloc ?_ _)); refine blk_far ?_ NB239_251.out _; (with_reducible repeat (first | refine blk_drewN ?_ _ | refine blk_drew ?_ | refine blk_alloc ?_ _)); refine blk_far ?_ NB239_251.out _; (with_reducible repeat (first | refine blk_drewN ?_ _ | refine blk_drew ?_ | refine blk_alloc ?_ _)); refine blk_far ?_ NB239_251.out _; (with_reducible repeat (first | refine blk_drewN ?_ _ | refine blk_drew ?_ | refine blk_alloc ?_ _)); exact BK239.out⟩, ⟨by (with_reducible repeat (first | refine blk_drewN ?_ _ | refine blk_drew ?_ | refine blk_alloc ?_ _)); refine blk_put (cs := #[.int .i64 t240, .int .i64 t241, .int .i64 t242, .int .i64 t243, .int .i64 t244, .int .i64 t245, .int .i64 t246, .int .i64 t247, .int .i64 t248, .int .i64 t249, .int .i64 0]) ?_ 10 _ rfl; (with_reducible repeat (first | refine blk_drewN ?_ _ | refine blk_drew ?_ | refine blk_alloc ?_ _)); refine blk_put (cs := #[.int .i64 t240, .int .i64 t241, .int .i64 t242, .int .i64 t243, .int .i64 t244, .int .i64 t245, .int .i64 t246, .int .i64 t247, .int .i64 t248, .int .i64 0, .int .i64 0]) ?_ 9 _ rfl; (with_reducible repeat (first | refine blk_drewN ?_ _ | refine blk_drew ?_ | refine blk_alloc ?_ _)); refine blk_put (cs := #[.int .i64 t240, .int .i64 t241, .int .i64 t242, .int .i64 t243, .int .i64 t244, .int .i64 t245, .int .i64 t246, .int .i64 t247, .int .i64 0, .int .i64 0, .int .i64 0]) ?_ 8 _ rfl; (with_reducible repeat (first | refine blk_drewN ?_ _ | refine blk_drew ?_ | refine blk_alloc ?_ _)); refine blk_put (cs := #[.int .i64 t240, .int .i64 t241, .int .i64 t242, .int .i64 t243, .int .i64 t244, .int .i64 t245, .int .i64 t246, .int .i64 0, .int .i64 0, .int .i64 0, .int .i64 0]) ?_ 7 _ rfl; (with_reducible repeat (first | refine blk_drewN ?_ _ | refine blk_drew ?_ | refine blk_alloc ?_ _)); refine blk_put (cs := #[.int .i64 t240, .int .i64 t241, .int .i64 t242, .int .i64 t243, .int .i64 t244, .int .i64 t245, .int .i64 0, .int .i64 0, .int .i64 0, .int .i64 0, .int .i64 0]) ?_ 6 _ rfl; (with_reducible repeat (first | refine blk_drewN ?_ _ | refine blk_drew ?_ | refine blk_alloc ?_ _)); refine blk_put (cs := #[.int .i64 t240, .int .i64 t241, .int .i64 t242, .int .i64 t243, .int .i64 t244, .int .i64 0, .int .i64 0, .int .i64 0, .int .i64 0, .int .i64 0, .int .i64 0]) ?_ 5 _ rfl; (with_reducible repeat (first | refine blk_drewN ?_ _ | refine blk_drew ?_ | refine blk_alloc ?_ _)); refine blk_put (cs := #[.int .i64 t240, .int .i64 t241, .int .i64 t242, .int .i64 t243, .int .i64 0, .int .i64 0, .int .i64 0, .int .i64 0, .int .i64 0, .int .i64 0, .int .i64 0]) ?_ 4 _ rfl; (with_reducible repeat (first | refine blk_drewN ?_ _ | refine blk_drew ?_ | refine blk_alloc ?_ _)); refine blk_put (cs := #[.int .i64 t240, .int .i64 t241, .int .i64 t242, .int .i64 0, .int .i64 0, .int .i64 0, .int .i64 0, .int .i64 0, .int .i64 0, .int .i64 0, .int .i64 0]) ?_ 3 _ rfl; (with_reducible repeat (first | refine blk_drewN ?_ _ | refine blk_drew ?_ | refine blk_alloc ?_ _)); refine blk_put (cs := #[.int .i64 t240, .int .i64 t241, .int .i64 0, .int .i64 0, .int .i64 0, .int .i64 0, .int .i64 0, .int .i64 0, .int .i64 0, .int .i64 0, .int .i64 0]) ?_ 2 _ rfl; (with_reducible repeat (first | refine blk_drewN ?_ _ | refine blk_drew ?_ | refine blk_alloc ?_ _)); refine blk_put (cs := #[.int .i64 t240, .int .i64 0, .int .i64 0, .int .i64 0, .int .i64 0, .int .i64 0, .int .i64 0, .int .i64 0, .int .i64 0, .int .i64 0, .int .i64 0]) ?_ 1 _ rfl; (with_reducible repeat (first | refine blk_drewN ?_ _ | refine blk_drew ?_ | refine blk_alloc ?_ _)); refine blk_put (cs := #[.int .i64 0, .int .i64 0, .int .i64 0, .int .i64 0, .int .i64 0, .int .i64 0, .int .i64 0, .int .i64 0, .int .i64 0, .int .i64 0, .int .i64 0]) ?_ 0 _ rfl; (with_reducible repeat (first | refine blk_drewN ?_ _ | refine blk_drew ?_ | refine blk_alloc ?_ _)); exact BK251.out⟩, ⟨by repeat (first | (with_reducible first | exact HB.out | apply below_alloc | apply pw_below_drewN | apply below_drew1 | refine below_set ?_ GE239.out | refine below_set ?_ GE251.out) | exact HB.out)⟩⟩
  case round =>
    clear H'
    try clear p2
    try clear c6
    try clear c7
    try clear hcz8_0
    try clear hcz8_1
    try clear hcz8_10
    try clear hcz8_2
    try clear hcz8_3
    try clear hcz8_4
    try clear hcz8_5
    try clear hcz8_6
    try clear hcz8_7
    try clear hcz8_8
    try clear hcz8_9
    try clear hfz8_0
    try clear hfz8_1
    try clear hfz8_10
    try clear hfz8_2
    try clear hfz8_3
    try clear hfz8_4
    try clear hfz8_5
    try clear hfz8_6
    try clear hfz8_7
    try clear hfz8_8
    try clear hfz8_9
    obtain ⟨x6_1, rfl, HA, HK1, BK239, BK251, HB⟩ := hrel
    cases gk with
    | zero => exact absurd HA.out (by simp [remontoirlaw01_TickBack.l0])
    | succ k1 =>
      have H := HA.out
      clear HA
      simp only [remontoirlaw01_TickBack.l0] at H
      by_cases c9 : x6_1 < 11
      · rw [if_pos c9] at H
        have c9b0 : decide (x6_1 < 11) = true := decide_eq_true c9
        clear c9
        by_cases c10 : x6_1 = 0
        · subst c10
          rw [if_pos rfl] at H
          by_cases c11 : t240 < 0
          · rw [if_pos c11] at H
            exact absurd H (by simp)
          · rw [if_neg c11] at H
            have c11b0 : decide (t240 < 0) = false := decide_eq_false c11
            clear c11
            by_cases c12 : t240 > 63
            · rw [if_pos c12] at H
              exact absurd H (by simp)
            · rw [if_neg c12] at H
              have c12b0 : decide (63 < t240) = false := decide_eq_false c12
              clear c12
              have H' := Aside0.mk H
              clear H
              have hnb13 := NB251_239.out
              have hnc13 := NB239_251.out
              have hcz14_0 : wr.cell? ⟨gb251, 0, none⟩ = some (.int .i64 t240) := (blk_cell BK251.out 0).trans rfl
              have hcz14_1 : wr.cell? ⟨gb251, 1, none⟩ = some (.int .i64 t241) := (blk_cell BK251.out 1).trans rfl
              have hcz14_2 : wr.cell? ⟨gb251, 2, none⟩ = some (.int .i64 t242) := (blk_cell BK251.out 2).trans rfl
              have hcz14_3 : wr.cell? ⟨gb251, 3, none⟩ = some (.int .i64 t243) := (blk_cell BK251.out 3).trans rfl
              have hcz14_4 : wr.cell? ⟨gb251, 4, none⟩ = some (.int .i64 t244) := (blk_cell BK251.out 4).trans rfl
              have hcz14_5 : wr.cell? ⟨gb251, 5, none⟩ = some (.int .i64 t245) := (blk_cell BK251.out 5).trans rfl
              have hcz14_6 : wr.cell? ⟨gb251, 6, none⟩ = some (.int .i64 t246) := (blk_cell BK251.out 6).trans rfl
              have hcz14_7 : wr.cell? ⟨gb251, 7, none⟩ = some (.int .i64 t247) := (blk_cell BK251.out 7).trans rfl
              have hcz14_8 : wr.cell? ⟨gb251, 8, none⟩ = some (.int .i64 t248) := (blk_cell BK251.out 8).trans rfl
              have hcz14_9 : wr.cell? ⟨gb251, 9, none⟩ = some (.int .i64 t249) := (blk_cell BK251.out 9).trans rfl
              have hcz14_10 : wr.cell? ⟨gb251, 10, none⟩ = some (.int .i64 t250) := (blk_cell BK251.out 10).trans rfl
              have hfz14_0 := blk_frozen BK251.out 0
              have hfz14_1 := blk_frozen BK251.out 1
              have hfz14_2 := blk_frozen BK251.out 2
              have hfz14_3 := blk_frozen BK251.out 3
              have hfz14_4 := blk_frozen BK251.out 4
              have hfz14_5 := blk_frozen BK251.out 5
              have hfz14_6 := blk_frozen BK251.out 6
              have hfz14_7 := blk_frozen BK251.out 7
              have hfz14_8 := blk_frozen BK251.out 8
              have hfz14_9 := blk_frozen BK251.out 9
              have hfz14_10 := blk_frozen BK251.out 10
              go_wp2
              go_roundg k1
              case measure => have := HK1.out; omega
              case rel => exact ⟨(wrap64 ((0 : Int) + 1)), (by first | rfl | (simp; done) | (simp [*]; done) | (simp; decide +kernel)), H', ⟨by have := HK1.out; omega⟩, ⟨by (with_reducible repeat (first | refine blk_drewN ?_ _ | refine blk_drew ?_ | refine blk_alloc ?_ _)); exact BK239.out⟩, ⟨by (with_reducible repeat (first | refine blk_drewN ?_ _ | refine blk_drew ?_ | refine blk_alloc ?_ _)); exact BK251.out⟩, ⟨by repeat (first | (with_reducible first | exact HB.out | apply below_alloc | apply pw_below_drewN | apply below_drew1 | refine below_set ?_ GE239.out | refine below_set ?_ GE251.out) | exact HB.out)⟩⟩
        · rw [if_neg c10] at H
          clear c10
          by_cases c15 : x6_1 = 1
          · subst c15
            rw [if_pos rfl] at H
            by_cases c16 : t241 < 0
            · rw [if_pos c16] at H
              exact absurd H (by simp)
            · rw [if_neg c16] at H
              have c16b0 : decide (t241 < 0) = false := decide_eq_false c16
              clear c16
              by_cases c17 : t241 > 63
              · rw [if_pos c17] at H
                exact absurd H (by simp)
              · rw [if_neg c17] at H
                have c17b0 : decide (63 < t241) = false := decide_eq_false c17
                clear c17
                have H' := Aside0.mk H
                clear H
                have hnb18 := NB251_239.out
                have hnc18 := NB239_251.out
                have hcz19_0 : wr.cell? ⟨gb251, 0, none⟩ = some (.int .i64 t240) := (blk_cell BK251.out 0).trans rfl
                have hcz19_1 : wr.cell? ⟨gb251, 1, none⟩ = some (.int .i64 t241) := (blk_cell BK251.out 1).trans rfl
                have hcz19_2 : wr.cell? ⟨gb251, 2, none⟩ = some (.int .i64 t242) := (blk_cell BK251.out 2).trans rfl
                have hcz19_3 : wr.cell? ⟨gb251, 3, none⟩ = some (.int .i64 t243) := (blk_cell BK251.out 3).trans rfl
                have hcz19_4 : wr.cell? ⟨gb251, 4, none⟩ = some (.int .i64 t244) := (blk_cell BK251.out 4).trans rfl
                have hcz19_5 : wr.cell? ⟨gb251, 5, none⟩ = some (.int .i64 t245) := (blk_cell BK251.out 5).trans rfl
                have hcz19_6 : wr.cell? ⟨gb251, 6, none⟩ = some (.int .i64 t246) := (blk_cell BK251.out 6).trans rfl
                have hcz19_7 : wr.cell? ⟨gb251, 7, none⟩ = some (.int .i64 t247) := (blk_cell BK251.out 7).trans rfl
                have hcz19_8 : wr.cell? ⟨gb251, 8, none⟩ = some (.int .i64 t248) := (blk_cell BK251.out 8).trans rfl
                have hcz19_9 : wr.cell? ⟨gb251, 9, none⟩ = some (.int .i64 t249) := (blk_cell BK251.out 9).trans rfl
                have hcz19_10 : wr.cell? ⟨gb251, 10, none⟩ = some (.int .i64 t250) := (blk_cell BK251.out 10).trans rfl
                have hfz19_0 := blk_frozen BK251.out 0
                have hfz19_1 := blk_frozen BK251.out 1
                have hfz19_2 := blk_frozen BK251.out 2
                have hfz19_3 := blk_frozen BK251.out 3
                have hfz19_4 := blk_frozen BK251.out 4
                have hfz19_5 := blk_frozen BK251.out 5
                have hfz19_6 := blk_frozen BK251.out 6
                have hfz19_7 := blk_frozen BK251.out 7
                have hfz19_8 := blk_frozen BK251.out 8
                have hfz19_9 := blk_frozen BK251.out 9
                have hfz19_10 := blk_frozen BK251.out 10
                go_wp2
                go_roundg k1
                case measure => have := HK1.out; omega
                case rel => exact ⟨(wrap64 ((1 : Int) + 1)), (by first | rfl | (simp; done) | (simp [*]; done) | (simp; decide +kernel)), H', ⟨by have := HK1.out; omega⟩, ⟨by (with_reducible repeat (first | refine blk_drewN ?_ _ | refine blk_drew ?_ | refine blk_alloc ?_ _)); exact BK239.out⟩, ⟨by (with_reducible repeat (first | refine blk_drewN ?_ _ | refine blk_drew ?_ | refine blk_alloc ?_ _)); exact BK251.out⟩, ⟨by repeat (first | (with_reducible first | exact HB.out | apply below_alloc | apply pw_below_drewN | apply below_drew1 | refine below_set ?_ GE239.out | refine below_set ?_ GE251.out) | exact HB.out)⟩⟩
          · rw [if_neg c15] at H
            clear c15
            by_cases c20 : x6_1 = 2
            · subst c20
              rw [if_pos rfl] at H
              by_cases c21 : t242 < 0
              · rw [if_pos c21] at H
                exact absurd H (by simp)
              · rw [if_neg c21] at H
                have c21b0 : decide (t242 < 0) = false := decide_eq_false c21
                clear c21
                by_cases c22 : t242 > 63
                · rw [if_pos c22] at H
                  exact absurd H (by simp)
                · rw [if_neg c22] at H
                  have c22b0 : decide (63 < t242) = false := decide_eq_false c22
                  clear c22
                  have H' := Aside0.mk H
                  clear H
                  have hnb23 := NB251_239.out
                  have hnc23 := NB239_251.out
                  have hcz24_0 : wr.cell? ⟨gb251, 0, none⟩ = some (.int .i64 t240) := (blk_cell BK251.out 0).trans rfl
                  have hcz24_1 : wr.cell? ⟨gb251, 1, none⟩ = some (.int .i64 t241) := (blk_cell BK251.out 1).trans rfl
                  have hcz24_2 : wr.cell? ⟨gb251, 2, none⟩ = some (.int .i64 t242) := (blk_cell BK251.out 2).trans rfl
                  have hcz24_3 : wr.cell? ⟨gb251, 3, none⟩ = some (.int .i64 t243) := (blk_cell BK251.out 3).trans rfl
                  have hcz24_4 : wr.cell? ⟨gb251, 4, none⟩ = some (.int .i64 t244) := (blk_cell BK251.out 4).trans rfl
                  have hcz24_5 : wr.cell? ⟨gb251, 5, none⟩ = some (.int .i64 t245) := (blk_cell BK251.out 5).trans rfl
                  have hcz24_6 : wr.cell? ⟨gb251, 6, none⟩ = some (.int .i64 t246) := (blk_cell BK251.out 6).trans rfl
                  have hcz24_7 : wr.cell? ⟨gb251, 7, none⟩ = some (.int .i64 t247) := (blk_cell BK251.out 7).trans rfl
                  have hcz24_8 : wr.cell? ⟨gb251, 8, none⟩ = some (.int .i64 t248) := (blk_cell BK251.out 8).trans rfl
                  have hcz24_9 : wr.cell? ⟨gb251, 9, none⟩ = some (.int .i64 t249) := (blk_cell BK251.out 9).trans rfl
                  have hcz24_10 : wr.cell? ⟨gb251, 10, none⟩ = some (.int .i64 t250) := (blk_cell BK251.out 10).trans rfl
                  have hfz24_0 := blk_frozen BK251.out 0
                  have hfz24_1 := blk_frozen BK251.out 1
                  have hfz24_2 := blk_frozen BK251.out 2
                  have hfz24_3 := blk_frozen BK251.out 3
                  have hfz24_4 := blk_frozen BK251.out 4
                  have hfz24_5 := blk_frozen BK251.out 5
                  have hfz24_6 := blk_frozen BK251.out 6
                  have hfz24_7 := blk_frozen BK251.out 7
                  have hfz24_8 := blk_frozen BK251.out 8
                  have hfz24_9 := blk_frozen BK251.out 9
                  have hfz24_10 := blk_frozen BK251.out 10
                  go_wp2
                  go_roundg k1
                  case measure => have := HK1.out; omega
                  case rel => exact ⟨(wrap64 ((2 : Int) + 1)), (by first | rfl | (simp; done) | (simp [*]; done) | (simp; decide +kernel)), H', ⟨by have := HK1.out; omega⟩, ⟨by (with_reducible repeat (first | refine blk_drewN ?_ _ | refine blk_drew ?_ | refine blk_alloc ?_ _)); exact BK239.out⟩, ⟨by (with_reducible repeat (first | refine blk_drewN ?_ _ | refine blk_drew ?_ | refine blk_alloc ?_ _)); exact BK251.out⟩, ⟨by repeat (first | (with_reducible first | exact HB.out | apply below_alloc | apply pw_below_drewN | apply below_drew1 | refine below_set ?_ GE239.out | refine below_set ?_ GE251.out) | exact HB.out)⟩⟩
            · rw [if_neg c20] at H
              clear c20
              by_cases c25 : x6_1 = 3
              · subst c25
                rw [if_pos rfl] at H
                by_cases c26 : t243 < 0
                · rw [if_pos c26] at H
                  exact absurd H (by simp)
                · rw [if_neg c26] at H
                  have c26b0 : decide (t243 < 0) = false := decide_eq_false c26
                  clear c26
                  by_cases c27 : t243 > 63
                  · rw [if_pos c27] at H
                    exact absurd H (by simp)
                  · rw [if_neg c27] at H
                    have c27b0 : decide (63 < t243) = false := decide_eq_false c27
                    clear c27
                    have H' := Aside0.mk H
                    clear H
                    have hnb28 := NB251_239.out
                    have hnc28 := NB239_251.out
                    have hcz29_0 : wr.cell? ⟨gb251, 0, none⟩ = some (.int .i64 t240) := (blk_cell BK251.out 0).trans rfl
                    have hcz29_1 : wr.cell? ⟨gb251, 1, none⟩ = some (.int .i64 t241) := (blk_cell BK251.out 1).trans rfl
                    have hcz29_2 : wr.cell? ⟨gb251, 2, none⟩ = some (.int .i64 t242) := (blk_cell BK251.out 2).trans rfl
                    have hcz29_3 : wr.cell? ⟨gb251, 3, none⟩ = some (.int .i64 t243) := (blk_cell BK251.out 3).trans rfl
                    have hcz29_4 : wr.cell? ⟨gb251, 4, none⟩ = some (.int .i64 t244) := (blk_cell BK251.out 4).trans rfl
                    have hcz29_5 : wr.cell? ⟨gb251, 5, none⟩ = some (.int .i64 t245) := (blk_cell BK251.out 5).trans rfl
                    have hcz29_6 : wr.cell? ⟨gb251, 6, none⟩ = some (.int .i64 t246) := (blk_cell BK251.out 6).trans rfl
                    have hcz29_7 : wr.cell? ⟨gb251, 7, none⟩ = some (.int .i64 t247) := (blk_cell BK251.out 7).trans rfl
                    have hcz29_8 : wr.cell? ⟨gb251, 8, none⟩ = some (.int .i64 t248) := (blk_cell BK251.out 8).trans rfl
                    have hcz29_9 : wr.cell? ⟨gb251, 9, none⟩ = some (.int .i64 t249) := (blk_cell BK251.out 9).trans rfl
                    have hcz29_10 : wr.cell? ⟨gb251, 10, none⟩ = some (.int .i64 t250) := (blk_cell BK251.out 10).trans rfl
                    have hfz29_0 := blk_frozen BK251.out 0
                    have hfz29_1 := blk_frozen BK251.out 1
                    have hfz29_2 := blk_frozen BK251.out 2
                    have hfz29_3 := blk_frozen BK251.out 3
                    have hfz29_4 := blk_frozen BK251.out 4
                    have hfz29_5 := blk_frozen BK251.out 5
                    have hfz29_6 := blk_frozen BK251.out 6
                    have hfz29_7 := blk_frozen BK251.out 7
                    have hfz29_8 := blk_frozen BK251.out 8
                    have hfz29_9 := blk_frozen BK251.out 9
                    have hfz29_10 := blk_frozen BK251.out 10
                    go_wp2
                    go_roundg k1
                    case measure => have := HK1.out; omega
                    case rel => exact ⟨(wrap64 ((3 : Int) + 1)), (by first | rfl | (simp; done) | (simp [*]; done) | (simp; decide +kernel)), H', ⟨by have := HK1.out; omega⟩, ⟨by (with_reducible repeat (first | refine blk_drewN ?_ _ | refine blk_drew ?_ | refine blk_alloc ?_ _)); exact BK239.out⟩, ⟨by (with_reducible repeat (first | refine blk_drewN ?_ _ | refine blk_drew ?_ | refine blk_alloc ?_ _)); exact BK251.out⟩, ⟨by repeat (first | (with_reducible first | exact HB.out | apply below_alloc | apply pw_below_drewN | apply below_drew1 | refine below_set ?_ GE239.out | refine below_set ?_ GE251.out) | exact HB.out)⟩⟩
              · rw [if_neg c25] at H
                clear c25
                by_cases c30 : x6_1 = 4
                · subst c30
                  rw [if_pos rfl] at H
                  by_cases c31 : t244 < 0
                  · rw [if_pos c31] at H
                    exact absurd H (by simp)
                  · rw [if_neg c31] at H
                    have c31b0 : decide (t244 < 0) = false := decide_eq_false c31
                    clear c31
                    by_cases c32 : t244 > 63
                    · rw [if_pos c32] at H
                      exact absurd H (by simp)
                    · rw [if_neg c32] at H
                      have c32b0 : decide (63 < t244) = false := decide_eq_false c32
                      clear c32
                      have H' := Aside0.mk H
                      clear H
                      have hnb33 := NB251_239.out
                      have hnc33 := NB239_251.out
                      have hcz34_0 : wr.cell? ⟨gb251, 0, none⟩ = some (.int .i64 t240) := (blk_cell BK251.out 0).trans rfl
                      have hcz34_1 : wr.cell? ⟨gb251, 1, none⟩ = some (.int .i64 t241) := (blk_cell BK251.out 1).trans rfl
                      have hcz34_2 : wr.cell? ⟨gb251, 2, none⟩ = some (.int .i64 t242) := (blk_cell BK251.out 2).trans rfl
                      have hcz34_3 : wr.cell? ⟨gb251, 3, none⟩ = some (.int .i64 t243) := (blk_cell BK251.out 3).trans rfl
                      have hcz34_4 : wr.cell? ⟨gb251, 4, none⟩ = some (.int .i64 t244) := (blk_cell BK251.out 4).trans rfl
                      have hcz34_5 : wr.cell? ⟨gb251, 5, none⟩ = some (.int .i64 t245) := (blk_cell BK251.out 5).trans rfl
                      have hcz34_6 : wr.cell? ⟨gb251, 6, none⟩ = some (.int .i64 t246) := (blk_cell BK251.out 6).trans rfl
                      have hcz34_7 : wr.cell? ⟨gb251, 7, none⟩ = some (.int .i64 t247) := (blk_cell BK251.out 7).trans rfl
                      have hcz34_8 : wr.cell? ⟨gb251, 8, none⟩ = some (.int .i64 t248) := (blk_cell BK251.out 8).trans rfl
                      have hcz34_9 : wr.cell? ⟨gb251, 9, none⟩ = some (.int .i64 t249) := (blk_cell BK251.out 9).trans rfl
                      have hcz34_10 : wr.cell? ⟨gb251, 10, none⟩ = some (.int .i64 t250) := (blk_cell BK251.out 10).trans rfl
                      have hfz34_0 := blk_frozen BK251.out 0
                      have hfz34_1 := blk_frozen BK251.out 1
                      have hfz34_2 := blk_frozen BK251.out 2
                      have hfz34_3 := blk_frozen BK251.out 3
                      have hfz34_4 := blk_frozen BK251.out 4
                      have hfz34_5 := blk_frozen BK251.out 5
                      have hfz34_6 := blk_frozen BK251.out 6
                      have hfz34_7 := blk_frozen BK251.out 7
                      have hfz34_8 := blk_frozen BK251.out 8
                      have hfz34_9 := blk_frozen BK251.out 9
                      have hfz34_10 := blk_frozen BK251.out 10
                      go_wp2
                      go_roundg k1
                      case measure => have := HK1.out; omega
                      case rel => exact ⟨(wrap64 ((4 : Int) + 1)), (by first | rfl | (simp; done) | (simp [*]; done) | (simp; decide +kernel)), H', ⟨by have := HK1.out; omega⟩, ⟨by (with_reducible repeat (first | refine blk_drewN ?_ _ | refine blk_drew ?_ | refine blk_alloc ?_ _)); exact BK239.out⟩, ⟨by (with_reducible repeat (first | refine blk_drewN ?_ _ | refine blk_drew ?_ | refine blk_alloc ?_ _)); exact BK251.out⟩, ⟨by repeat (first | (with_reducible first | exact HB.out | apply below_alloc | apply pw_below_drewN | apply below_drew1 | refine below_set ?_ GE239.out | refine below_set ?_ GE251.out) | exact HB.out)⟩⟩
                · rw [if_neg c30] at H
                  clear c30
                  by_cases c35 : x6_1 = 5
                  · subst c35
                    rw [if_pos rfl] at H
                    by_cases c36 : t245 < 0
                    · rw [if_pos c36] at H
                      exact absurd H (by simp)
                    · rw [if_neg c36] at H
                      have c36b0 : decide (t245 < 0) = false := decide_eq_false c36
                      clear c36
                      by_cases c37 : t245 > 63
                      · rw [if_pos c37] at H
                        exact absurd H (by simp)
                      · rw [if_neg c37] at H
                        have c37b0 : decide (63 < t245) = false := decide_eq_false c37
                        clear c37
                        have H' := Aside0.mk H
                        clear H
                        have hnb38 := NB251_239.out
                        have hnc38 := NB239_251.out
                        have hcz39_0 : wr.cell? ⟨gb251, 0, none⟩ = some (.int .i64 t240) := (blk_cell BK251.out 0).trans rfl
                        have hcz39_1 : wr.cell? ⟨gb251, 1, none⟩ = some (.int .i64 t241) := (blk_cell BK251.out 1).trans rfl
                        have hcz39_2 : wr.cell? ⟨gb251, 2, none⟩ = some (.int .i64 t242) := (blk_cell BK251.out 2).trans rfl
                        have hcz39_3 : wr.cell? ⟨gb251, 3, none⟩ = some (.int .i64 t243) := (blk_cell BK251.out 3).trans rfl
                        have hcz39_4 : wr.cell? ⟨gb251, 4, none⟩ = some (.int .i64 t244) := (blk_cell BK251.out 4).trans rfl
                        have hcz39_5 : wr.cell? ⟨gb251, 5, none⟩ = some (.int .i64 t245) := (blk_cell BK251.out 5).trans rfl
                        have hcz39_6 : wr.cell? ⟨gb251, 6, none⟩ = some (.int .i64 t246) := (blk_cell BK251.out 6).trans rfl
                        have hcz39_7 : wr.cell? ⟨gb251, 7, none⟩ = some (.int .i64 t247) := (blk_cell BK251.out 7).trans rfl
                        have hcz39_8 : wr.cell? ⟨gb251, 8, none⟩ = some (.int .i64 t248) := (blk_cell BK251.out 8).trans rfl
                        have hcz39_9 : wr.cell? ⟨gb251, 9, none⟩ = some (.int .i64 t249) := (blk_cell BK251.out 9).trans rfl
                        have hcz39_10 : wr.cell? ⟨gb251, 10, none⟩ = some (.int .i64 t250) := (blk_cell BK251.out 10).trans rfl
                        have hfz39_0 := blk_frozen BK251.out 0
                        have hfz39_1 := blk_frozen BK251.out 1
                        have hfz39_2 := blk_frozen BK251.out 2
                        have hfz39_3 := blk_frozen BK251.out 3
                        have hfz39_4 := blk_frozen BK251.out 4
                        have hfz39_5 := blk_frozen BK251.out 5
                        have hfz39_6 := blk_frozen BK251.out 6
                        have hfz39_7 := blk_frozen BK251.out 7
                        have hfz39_8 := blk_frozen BK251.out 8
                        have hfz39_9 := blk_frozen BK251.out 9
                        have hfz39_10 := blk_frozen BK251.out 10
                        go_wp2
                        go_roundg k1
                        case measure => have := HK1.out; omega
                        case rel => exact ⟨(wrap64 ((5 : Int) + 1)), (by first | rfl | (simp; done) | (simp [*]; done) | (simp; decide +kernel)), H', ⟨by have := HK1.out; omega⟩, ⟨by (with_reducible repeat (first | refine blk_drewN ?_ _ | refine blk_drew ?_ | refine blk_alloc ?_ _)); exact BK239.out⟩, ⟨by (with_reducible repeat (first | refine blk_drewN ?_ _ | refine blk_drew ?_ | refine blk_alloc ?_ _)); exact BK251.out⟩, ⟨by repeat (first | (with_reducible first | exact HB.out | apply below_alloc | apply pw_below_drewN | apply below_drew1 | refine below_set ?_ GE239.out | refine below_set ?_ GE251.out) | exact HB.out)⟩⟩
                  · rw [if_neg c35] at H
                    clear c35
                    by_cases c40 : x6_1 = 6
                    · subst c40
                      rw [if_pos rfl] at H
                      by_cases c41 : t246 < 0
                      · rw [if_pos c41] at H
                        exact absurd H (by simp)
                      · rw [if_neg c41] at H
                        have c41b0 : decide (t246 < 0) = false := decide_eq_false c41
                        clear c41
                        by_cases c42 : t246 > 63
                        · rw [if_pos c42] at H
                          exact absurd H (by simp)
                        · rw [if_neg c42] at H
                          have c42b0 : decide (63 < t246) = false := decide_eq_false c42
                          clear c42
                          have H' := Aside0.mk H
                          clear H
                          have hnb43 := NB251_239.out
                          have hnc43 := NB239_251.out
                          have hcz44_0 : wr.cell? ⟨gb251, 0, none⟩ = some (.int .i64 t240) := (blk_cell BK251.out 0).trans rfl
                          have hcz44_1 : wr.cell? ⟨gb251, 1, none⟩ = some (.int .i64 t241) := (blk_cell BK251.out 1).trans rfl
                          have hcz44_2 : wr.cell? ⟨gb251, 2, none⟩ = some (.int .i64 t242) := (blk_cell BK251.out 2).trans rfl
                          have hcz44_3 : wr.cell? ⟨gb251, 3, none⟩ = some (.int .i64 t243) := (blk_cell BK251.out 3).trans rfl
                          have hcz44_4 : wr.cell? ⟨gb251, 4, none⟩ = some (.int .i64 t244) := (blk_cell BK251.out 4).trans rfl
                          have hcz44_5 : wr.cell? ⟨gb251, 5, none⟩ = some (.int .i64 t245) := (blk_cell BK251.out 5).trans rfl
                          have hcz44_6 : wr.cell? ⟨gb251, 6, none⟩ = some (.int .i64 t246) := (blk_cell BK251.out 6).trans rfl
                          have hcz44_7 : wr.cell? ⟨gb251, 7, none⟩ = some (.int .i64 t247) := (blk_cell BK251.out 7).trans rfl
                          have hcz44_8 : wr.cell? ⟨gb251, 8, none⟩ = some (.int .i64 t248) := (blk_cell BK251.out 8).trans rfl
                          have hcz44_9 : wr.cell? ⟨gb251, 9, none⟩ = some (.int .i64 t249) := (blk_cell BK251.out 9).trans rfl
                          have hcz44_10 : wr.cell? ⟨gb251, 10, none⟩ = some (.int .i64 t250) := (blk_cell BK251.out 10).trans rfl
                          have hfz44_0 := blk_frozen BK251.out 0
                          have hfz44_1 := blk_frozen BK251.out 1
                          have hfz44_2 := blk_frozen BK251.out 2
                          have hfz44_3 := blk_frozen BK251.out 3
                          have hfz44_4 := blk_frozen BK251.out 4
                          have hfz44_5 := blk_frozen BK251.out 5
                          have hfz44_6 := blk_frozen BK251.out 6
                          have hfz44_7 := blk_frozen BK251.out 7
                          have hfz44_8 := blk_frozen BK251.out 8
                          have hfz44_9 := blk_frozen BK251.out 9
                          have hfz44_10 := blk_frozen BK251.out 10
                          go_wp2
                          go_roundg k1
                          case measure => have := HK1.out; omega
                          case rel => exact ⟨(wrap64 ((6 : Int) + 1)), (by first | rfl | (simp; done) | (simp [*]; done) | (simp; decide +kernel)), H', ⟨by have := HK1.out; omega⟩, ⟨by (with_reducible repeat (first | refine blk_drewN ?_ _ | refine blk_drew ?_ | refine blk_alloc ?_ _)); exact BK239.out⟩, ⟨by (with_reducible repeat (first | refine blk_drewN ?_ _ | refine blk_drew ?_ | refine blk_alloc ?_ _)); exact BK251.out⟩, ⟨by repeat (first | (with_reducible first | exact HB.out | apply below_alloc | apply pw_below_drewN | apply below_drew1 | refine below_set ?_ GE239.out | refine below_set ?_ GE251.out) | exact HB.out)⟩⟩
                    · rw [if_neg c40] at H
                      clear c40
                      by_cases c45 : x6_1 = 7
                      · subst c45
                        rw [if_pos rfl] at H
                        by_cases c46 : t247 < 0
                        · rw [if_pos c46] at H
                          exact absurd H (by simp)
                        · rw [if_neg c46] at H
                          have c46b0 : decide (t247 < 0) = false := decide_eq_false c46
                          clear c46
                          by_cases c47 : t247 > 63
                          · rw [if_pos c47] at H
                            exact absurd H (by simp)
                          · rw [if_neg c47] at H
                            have c47b0 : decide (63 < t247) = false := decide_eq_false c47
                            clear c47
                            have H' := Aside0.mk H
                            clear H
                            have hnb48 := NB251_239.out
                            have hnc48 := NB239_251.out
                            have hcz49_0 : wr.cell? ⟨gb251, 0, none⟩ = some (.int .i64 t240) := (blk_cell BK251.out 0).trans rfl
                            have hcz49_1 : wr.cell? ⟨gb251, 1, none⟩ = some (.int .i64 t241) := (blk_cell BK251.out 1).trans rfl
                            have hcz49_2 : wr.cell? ⟨gb251, 2, none⟩ = some (.int .i64 t242) := (blk_cell BK251.out 2).trans rfl
                            have hcz49_3 : wr.cell? ⟨gb251, 3, none⟩ = some (.int .i64 t243) := (blk_cell BK251.out 3).trans rfl
                            have hcz49_4 : wr.cell? ⟨gb251, 4, none⟩ = some (.int .i64 t244) := (blk_cell BK251.out 4).trans rfl
                            have hcz49_5 : wr.cell? ⟨gb251, 5, none⟩ = some (.int .i64 t245) := (blk_cell BK251.out 5).trans rfl
                            have hcz49_6 : wr.cell? ⟨gb251, 6, none⟩ = some (.int .i64 t246) := (blk_cell BK251.out 6).trans rfl
                            have hcz49_7 : wr.cell? ⟨gb251, 7, none⟩ = some (.int .i64 t247) := (blk_cell BK251.out 7).trans rfl
                            have hcz49_8 : wr.cell? ⟨gb251, 8, none⟩ = some (.int .i64 t248) := (blk_cell BK251.out 8).trans rfl
                            have hcz49_9 : wr.cell? ⟨gb251, 9, none⟩ = some (.int .i64 t249) := (blk_cell BK251.out 9).trans rfl
                            have hcz49_10 : wr.cell? ⟨gb251, 10, none⟩ = some (.int .i64 t250) := (blk_cell BK251.out 10).trans rfl
                            have hfz49_0 := blk_frozen BK251.out 0
                            have hfz49_1 := blk_frozen BK251.out 1
                            have hfz49_2 := blk_frozen BK251.out 2
                            have hfz49_3 := blk_frozen BK251.out 3
                            have hfz49_4 := blk_frozen BK251.out 4
                            have hfz49_5 := blk_frozen BK251.out 5
                            have hfz49_6 := blk_frozen BK251.out 6
                            have hfz49_7 := blk_frozen BK251.out 7
                            have hfz49_8 := blk_frozen BK251.out 8
                            have hfz49_9 := blk_frozen BK251.out 9
                            have hfz49_10 := blk_frozen BK251.out 10
                            go_wp2
                            go_roundg k1
                            case measure => have := HK1.out; omega
                            case rel => exact ⟨(wrap64 ((7 : Int) + 1)), (by first | rfl | (simp; done) | (simp [*]; done) | (simp; decide +kernel)), H', ⟨by have := HK1.out; omega⟩, ⟨by (with_reducible repeat (first | refine blk_drewN ?_ _ | refine blk_drew ?_ | refine blk_alloc ?_ _)); exact BK239.out⟩, ⟨by (with_reducible repeat (first | refine blk_drewN ?_ _ | refine blk_drew ?_ | refine blk_alloc ?_ _)); exact BK251.out⟩, ⟨by repeat (first | (with_reducible first | exact HB.out | apply below_alloc | apply pw_below_drewN | apply below_drew1 | refine below_set ?_ GE239.out | refine below_set ?_ GE251.out) | exact HB.out)⟩⟩
                      · rw [if_neg c45] at H
                        clear c45
                        by_cases c50 : x6_1 = 8
                        · subst c50
                          rw [if_pos rfl] at H
                          by_cases c51 : t248 < 0
                          · rw [if_pos c51] at H
                            exact absurd H (by simp)
                          · rw [if_neg c51] at H
                            have c51b0 : decide (t248 < 0) = false := decide_eq_false c51
                            clear c51
                            by_cases c52 : t248 > 63
                            · rw [if_pos c52] at H
                              exact absurd H (by simp)
                            · rw [if_neg c52] at H
                              have c52b0 : decide (63 < t248) = false := decide_eq_false c52
                              clear c52
                              have H' := Aside0.mk H
                              clear H
                              have hnb53 := NB251_239.out
                              have hnc53 := NB239_251.out
                              have hcz54_0 : wr.cell? ⟨gb251, 0, none⟩ = some (.int .i64 t240) := (blk_cell BK251.out 0).trans rfl
                              have hcz54_1 : wr.cell? ⟨gb251, 1, none⟩ = some (.int .i64 t241) := (blk_cell BK251.out 1).trans rfl
                              have hcz54_2 : wr.cell? ⟨gb251, 2, none⟩ = some (.int .i64 t242) := (blk_cell BK251.out 2).trans rfl
                              have hcz54_3 : wr.cell? ⟨gb251, 3, none⟩ = some (.int .i64 t243) := (blk_cell BK251.out 3).trans rfl
                              have hcz54_4 : wr.cell? ⟨gb251, 4, none⟩ = some (.int .i64 t244) := (blk_cell BK251.out 4).trans rfl
                              have hcz54_5 : wr.cell? ⟨gb251, 5, none⟩ = some (.int .i64 t245) := (blk_cell BK251.out 5).trans rfl
                              have hcz54_6 : wr.cell? ⟨gb251, 6, none⟩ = some (.int .i64 t246) := (blk_cell BK251.out 6).trans rfl
                              have hcz54_7 : wr.cell? ⟨gb251, 7, none⟩ = some (.int .i64 t247) := (blk_cell BK251.out 7).trans rfl
                              have hcz54_8 : wr.cell? ⟨gb251, 8, none⟩ = some (.int .i64 t248) := (blk_cell BK251.out 8).trans rfl
                              have hcz54_9 : wr.cell? ⟨gb251, 9, none⟩ = some (.int .i64 t249) := (blk_cell BK251.out 9).trans rfl
                              have hcz54_10 : wr.cell? ⟨gb251, 10, none⟩ = some (.int .i64 t250) := (blk_cell BK251.out 10).trans rfl
                              have hfz54_0 := blk_frozen BK251.out 0
                              have hfz54_1 := blk_frozen BK251.out 1
                              have hfz54_2 := blk_frozen BK251.out 2
                              have hfz54_3 := blk_frozen BK251.out 3
                              have hfz54_4 := blk_frozen BK251.out 4
                              have hfz54_5 := blk_frozen BK251.out 5
                              have hfz54_6 := blk_frozen BK251.out 6
                              have hfz54_7 := blk_frozen BK251.out 7
                              have hfz54_8 := blk_frozen BK251.out 8
                              have hfz54_9 := blk_frozen BK251.out 9
                              have hfz54_10 := blk_frozen BK251.out 10
                              go_wp2
                              go_roundg k1
                              case measure => have := HK1.out; omega
                              case rel => exact ⟨(wrap64 ((8 : Int) + 1)), (by first | rfl | (simp; done) | (simp [*]; done) | (simp; decide +kernel)), H', ⟨by have := HK1.out; omega⟩, ⟨by (with_reducible repeat (first | refine blk_drewN ?_ _ | refine blk_drew ?_ | refine blk_alloc ?_ _)); exact BK239.out⟩, ⟨by (with_reducible repeat (first | refine blk_drewN ?_ _ | refine blk_drew ?_ | refine blk_alloc ?_ _)); exact BK251.out⟩, ⟨by repeat (first | (with_reducible first | exact HB.out | apply below_alloc | apply pw_below_drewN | apply below_drew1 | refine below_set ?_ GE239.out | refine below_set ?_ GE251.out) | exact HB.out)⟩⟩
                        · rw [if_neg c50] at H
                          clear c50
                          by_cases c55 : x6_1 = 9
                          · subst c55
                            rw [if_pos rfl] at H
                            by_cases c56 : t249 < 0
                            · rw [if_pos c56] at H
                              exact absurd H (by simp)
                            · rw [if_neg c56] at H
                              have c56b0 : decide (t249 < 0) = false := decide_eq_false c56
                              clear c56
                              by_cases c57 : t249 > 63
                              · rw [if_pos c57] at H
                                exact absurd H (by simp)
                              · rw [if_neg c57] at H
                                have c57b0 : decide (63 < t249) = false := decide_eq_false c57
                                clear c57
                                have H' := Aside0.mk H
                                clear H
                                have hnb58 := NB251_239.out
                                have hnc58 := NB239_251.out
                                have hcz59_0 : wr.cell? ⟨gb251, 0, none⟩ = some (.int .i64 t240) := (blk_cell BK251.out 0).trans rfl
                                have hcz59_1 : wr.cell? ⟨gb251, 1, none⟩ = some (.int .i64 t241) := (blk_cell BK251.out 1).trans rfl
                                have hcz59_2 : wr.cell? ⟨gb251, 2, none⟩ = some (.int .i64 t242) := (blk_cell BK251.out 2).trans rfl
                                have hcz59_3 : wr.cell? ⟨gb251, 3, none⟩ = some (.int .i64 t243) := (blk_cell BK251.out 3).trans rfl
                                have hcz59_4 : wr.cell? ⟨gb251, 4, none⟩ = some (.int .i64 t244) := (blk_cell BK251.out 4).trans rfl
                                have hcz59_5 : wr.cell? ⟨gb251, 5, none⟩ = some (.int .i64 t245) := (blk_cell BK251.out 5).trans rfl
                                have hcz59_6 : wr.cell? ⟨gb251, 6, none⟩ = some (.int .i64 t246) := (blk_cell BK251.out 6).trans rfl
                                have hcz59_7 : wr.cell? ⟨gb251, 7, none⟩ = some (.int .i64 t247) := (blk_cell BK251.out 7).trans rfl
                                have hcz59_8 : wr.cell? ⟨gb251, 8, none⟩ = some (.int .i64 t248) := (blk_cell BK251.out 8).trans rfl
                                have hcz59_9 : wr.cell? ⟨gb251, 9, none⟩ = some (.int .i64 t249) := (blk_cell BK251.out 9).trans rfl
                                have hcz59_10 : wr.cell? ⟨gb251, 10, none⟩ = some (.int .i64 t250) := (blk_cell BK251.out 10).trans rfl
                                have hfz59_0 := blk_frozen BK251.out 0
                                have hfz59_1 := blk_frozen BK251.out 1
                                have hfz59_2 := blk_frozen BK251.out 2
                                have hfz59_3 := blk_frozen BK251.out 3
                                have hfz59_4 := blk_frozen BK251.out 4
                                have hfz59_5 := blk_frozen BK251.out 5
                                have hfz59_6 := blk_frozen BK251.out 6
                                have hfz59_7 := blk_frozen BK251.out 7
                                have hfz59_8 := blk_frozen BK251.out 8
                                have hfz59_9 := blk_frozen BK251.out 9
                                have hfz59_10 := blk_frozen BK251.out 10
                                go_wp2
                                go_roundg k1
                                case measure => have := HK1.out; omega
                                case rel => exact ⟨(wrap64 ((9 : Int) + 1)), (by first | rfl | (simp; done) | (simp [*]; done) | (simp; decide +kernel)), H', ⟨by have := HK1.out; omega⟩, ⟨by (with_reducible repeat (first | refine blk_drewN ?_ _ | refine blk_drew ?_ | refine blk_alloc ?_ _)); exact BK239.out⟩, ⟨by (with_reducible repeat (first | refine blk_drewN ?_ _ | refine blk_drew ?_ | refine blk_alloc ?_ _)); exact BK251.out⟩, ⟨by repeat (first | (with_reducible first | exact HB.out | apply below_alloc | apply pw_below_drewN | apply below_drew1 | refine below_set ?_ GE239.out | refine below_set ?_ GE251.out) | exact HB.out)⟩⟩
                          · rw [if_neg c55] at H
                            clear c55
                            by_cases c60 : x6_1 = 10
                            · subst c60
                              rw [if_pos rfl] at H
                              by_cases c61 : t250 < 0
                              · rw [if_pos c61] at H
                                exact absurd H (by simp)
                              · rw [if_neg c61] at H
                                have c61b0 : decide (t250 < 0) = false := decide_eq_false c61
                                clear c61
                                by_cases c62 : t250 > 63
                                · rw [if_pos c62] at H
                                  exact absurd H (by simp)
                                · rw [if_neg c62] at H
                                  have c62b0 : decide (63 < t250) = false := decide_eq_false c62
                                  clear c62
                                  by_cases c63 : t250 > 15
                                  · rw [if_pos c63] at H
                                    exact absurd H (by simp)
                                  · rw [if_neg c63] at H
                                    have c63b0 : decide (15 < t250) = false := decide_eq_false c63
                                    clear c63
                                    have H' := Aside0.mk H
                                    clear H
                                    have hnb64 := NB251_239.out
                                    have hnc64 := NB239_251.out
                                    have hcz65_0 : wr.cell? ⟨gb251, 0, none⟩ = some (.int .i64 t240) := (blk_cell BK251.out 0).trans rfl
                                    have hcz65_1 : wr.cell? ⟨gb251, 1, none⟩ = some (.int .i64 t241) := (blk_cell BK251.out 1).trans rfl
                                    have hcz65_2 : wr.cell? ⟨gb251, 2, none⟩ = some (.int .i64 t242) := (blk_cell BK251.out 2).trans rfl
                                    have hcz65_3 : wr.cell? ⟨gb251, 3, none⟩ = some (.int .i64 t243) := (blk_cell BK251.out 3).trans rfl
                                    have hcz65_4 : wr.cell? ⟨gb251, 4, none⟩ = some (.int .i64 t244) := (blk_cell BK251.out 4).trans rfl
                                    have hcz65_5 : wr.cell? ⟨gb251, 5, none⟩ = some (.int .i64 t245) := (blk_cell BK251.out 5).trans rfl
                                    have hcz65_6 : wr.cell? ⟨gb251, 6, none⟩ = some (.int .i64 t246) := (blk_cell BK251.out 6).trans rfl
                                    have hcz65_7 : wr.cell? ⟨gb251, 7, none⟩ = some (.int .i64 t247) := (blk_cell BK251.out 7).trans rfl
                                    have hcz65_8 : wr.cell? ⟨gb251, 8, none⟩ = some (.int .i64 t248) := (blk_cell BK251.out 8).trans rfl
                                    have hcz65_9 : wr.cell? ⟨gb251, 9, none⟩ = some (.int .i64 t249) := (blk_cell BK251.out 9).trans rfl
                                    have hcz65_10 : wr.cell? ⟨gb251, 10, none⟩ = some (.int .i64 t250) := (blk_cell BK251.out 10).trans rfl
                                    have hfz65_0 := blk_frozen BK251.out 0
                                    have hfz65_1 := blk_frozen BK251.out 1
                                    have hfz65_2 := blk_frozen BK251.out 2
                                    have hfz65_3 := blk_frozen BK251.out 3
                                    have hfz65_4 := blk_frozen BK251.out 4
                                    have hfz65_5 := blk_frozen BK251.out 5
                                    have hfz65_6 := blk_frozen BK251.out 6
                                    have hfz65_7 := blk_frozen BK251.out 7
                                    have hfz65_8 := blk_frozen BK251.out 8
                                    have hfz65_9 := blk_frozen BK251.out 9
                                    have hfz65_10 := blk_frozen BK251.out 10
                                    go_wp2
                                    go_roundg k1
                                    case measure => have := HK1.out; omega
                                    case rel => exact ⟨(wrap64 ((10 : Int) + 1)), (by first | rfl | (simp; done) | (simp [*]; done) | (simp; decide +kernel)), H', ⟨by have := HK1.out; omega⟩, ⟨by (with_reducible repeat (first | refine blk_drewN ?_ _ | refine blk_drew ?_ | refine blk_alloc ?_ _)); exact BK239.out⟩, ⟨by (with_reducible repeat (first | refine blk_drewN ?_ _ | refine blk_drew ?_ | refine blk_alloc ?_ _)); exact BK251.out⟩, ⟨by repeat (first | (with_reducible first | exact HB.out | apply below_alloc | apply pw_below_drewN | apply below_drew1 | refine below_set ?_ GE239.out | refine below_set ?_ GE251.out) | exact HB.out)⟩⟩
                            · rw [if_neg c60] at H
                              clear c60
                              exact absurd H (by simp)
      · rw [if_neg c9] at H
        have c9b0 : decide (x6_1 < 11) = false := decide_eq_false c9
        clear c9
        replace H := Option.bind_eq_some_iff.mp H
        obtain ⟨⟨t252, t253⟩, A660, H⟩ := H
        replace H : ((tick_Of.f k1 a1_0 a1_1 a1_2 a1_3 a1_4 a1_5 a1_6 a1_7 a1_8 a1_9 a1_10).bind fun bt254 => (if t253 = true then (if t252 = a0 then (if bt254.2 = true then ((tick_Digits.f k1 bt254.1).bind fun bt256 => (if bt256.1 = a1_0 then (if bt256.2.1 = a1_1 then (if bt256.2.2.1 = a1_2 then (if bt256.2.2.2.1 = a1_3 then (if bt256.2.2.2.2.1 = a1_4 then (if bt256.2.2.2.2.2.1 = a1_5 then (if bt256.2.2.2.2.2.2.1 = a1_6 then (if bt256.2.2.2.2.2.2.2.1 = a1_7 then (if bt256.2.2.2.2.2.2.2.2.1 = a1_8 then (if bt256.2.2.2.2.2.2.2.2.2.1 = a1_9 then (if bt256.2.2.2.2.2.2.2.2.2.2 = a1_10 then ((remontoirlaw01_wakes.f k1).bind fun t267 => (some t267)) else (none)) else (none)) else (none)) else (none)) else (none)) else (none)) else (none)) else (none)) else (none)) else (none)) else (none))) else (if bt254.1 = 0 then ((remontoirlaw01_wakes.f k1).bind fun t268 => (some t268)) else (none))) else (none)) else (none))) = some r := H
        have A66 := Aside0.mk A660
        clear A660
        replace H := Option.bind_eq_some_iff.mp H
        obtain ⟨⟨t254, t255⟩, A670, H⟩ := H
        replace H : (if t253 = true then (if t252 = a0 then (if t255 = true then ((tick_Digits.f k1 t254).bind fun bt256 => (if bt256.1 = a1_0 then (if bt256.2.1 = a1_1 then (if bt256.2.2.1 = a1_2 then (if bt256.2.2.2.1 = a1_3 then (if bt256.2.2.2.2.1 = a1_4 then (if bt256.2.2.2.2.2.1 = a1_5 then (if bt256.2.2.2.2.2.2.1 = a1_6 then (if bt256.2.2.2.2.2.2.2.1 = a1_7 then (if bt256.2.2.2.2.2.2.2.2.1 = a1_8 then (if bt256.2.2.2.2.2.2.2.2.2.1 = a1_9 then (if bt256.2.2.2.2.2.2.2.2.2.2 = a1_10 then ((remontoirlaw01_wakes.f k1).bind fun t267 => (some t267)) else (none)) else (none)) else (none)) else (none)) else (none)) else (none)) else (none)) else (none)) else (none)) else (none)) else (none))) else (if t254 = 0 then ((remontoirlaw01_wakes.f k1).bind fun t268 => (some t268)) else (none))) else (none)) else (none)) = some r := H
        have A67 := Aside0.mk A670
        clear A670
        by_cases c68 : t253 = true
        · subst c68
          have H1 : (if t252 = a0 then (if t255 = true then ((tick_Digits.f k1 t254).bind fun bt256 => (if bt256.1 = a1_0 then (if bt256.2.1 = a1_1 then (if bt256.2.2.1 = a1_2 then (if bt256.2.2.2.1 = a1_3 then (if bt256.2.2.2.2.1 = a1_4 then (if bt256.2.2.2.2.2.1 = a1_5 then (if bt256.2.2.2.2.2.2.1 = a1_6 then (if bt256.2.2.2.2.2.2.2.1 = a1_7 then (if bt256.2.2.2.2.2.2.2.2.1 = a1_8 then (if bt256.2.2.2.2.2.2.2.2.2.1 = a1_9 then (if bt256.2.2.2.2.2.2.2.2.2.2 = a1_10 then ((remontoirlaw01_wakes.f k1).bind fun t267 => (some t267)) else (none)) else (none)) else (none)) else (none)) else (none)) else (none)) else (none)) else (none)) else (none)) else (none)) else (none))) else (if t254 = 0 then ((remontoirlaw01_wakes.f k1).bind fun t268 => (some t268)) else (none))) else (none)) = some r := by rw [if_pos rfl] at H; exact H
          clear H
          have H := H1
          clear H1
          by_cases c69 : t252 = a0
          · rw [if_pos c69] at H
            have c69b0 : (t252 == a0) = true := beq_iff_eq.mpr c69
            have c69b1 : (t252 != a0) = false := bne_eq_false_iff_eq.mpr c69
            clear c69
            by_cases c70 : t255 = true
            · subst c70
              have H1 : ((tick_Digits.f k1 t254).bind fun bt256 => (if bt256.1 = a1_0 then (if bt256.2.1 = a1_1 then (if bt256.2.2.1 = a1_2 then (if bt256.2.2.2.1 = a1_3 then (if bt256.2.2.2.2.1 = a1_4 then (if bt256.2.2.2.2.2.1 = a1_5 then (if bt256.2.2.2.2.2.2.1 = a1_6 then (if bt256.2.2.2.2.2.2.2.1 = a1_7 then (if bt256.2.2.2.2.2.2.2.2.1 = a1_8 then (if bt256.2.2.2.2.2.2.2.2.2.1 = a1_9 then (if bt256.2.2.2.2.2.2.2.2.2.2 = a1_10 then ((remontoirlaw01_wakes.f k1).bind fun t267 => (some t267)) else (none)) else (none)) else (none)) else (none)) else (none)) else (none)) else (none)) else (none)) else (none)) else (none)) else (none))) = some r := by rw [if_pos rfl] at H; exact H
              clear H
              have H := H1
              clear H1
              replace H := Option.bind_eq_some_iff.mp H
              obtain ⟨⟨t256, t257, t258, t259, t260, t261, t262, t263, t264, t265, t266⟩, A710, H⟩ := H
              replace H : (if t256 = a1_0 then (if t257 = a1_1 then (if t258 = a1_2 then (if t259 = a1_3 then (if t260 = a1_4 then (if t261 = a1_5 then (if t262 = a1_6 then (if t263 = a1_7 then (if t264 = a1_8 then (if t265 = a1_9 then (if t266 = a1_10 then ((remontoirlaw01_wakes.f k1).bind fun t267 => (some t267)) else (none)) else (none)) else (none)) else (none)) else (none)) else (none)) else (none)) else (none)) else (none)) else (none)) else (none)) = some r := H
              have A71 := Aside0.mk A710
              clear A710
              by_cases c72 : t256 = a1_0
              · rw [if_pos c72] at H
                have c72b0 : (t256 == a1_0) = true := beq_iff_eq.mpr c72
                have c72b1 : (t256 != a1_0) = false := bne_eq_false_iff_eq.mpr c72
                clear c72
                by_cases c73 : t257 = a1_1
                · rw [if_pos c73] at H
                  have c73b0 : (t257 == a1_1) = true := beq_iff_eq.mpr c73
                  have c73b1 : (t257 != a1_1) = false := bne_eq_false_iff_eq.mpr c73
                  clear c73
                  by_cases c74 : t258 = a1_2
                  · rw [if_pos c74] at H
                    have c74b0 : (t258 == a1_2) = true := beq_iff_eq.mpr c74
                    have c74b1 : (t258 != a1_2) = false := bne_eq_false_iff_eq.mpr c74
                    clear c74
                    by_cases c75 : t259 = a1_3
                    · rw [if_pos c75] at H
                      have c75b0 : (t259 == a1_3) = true := beq_iff_eq.mpr c75
                      have c75b1 : (t259 != a1_3) = false := bne_eq_false_iff_eq.mpr c75
                      clear c75
                      by_cases c76 : t260 = a1_4
                      · rw [if_pos c76] at H
                        have c76b0 : (t260 == a1_4) = true := beq_iff_eq.mpr c76
                        have c76b1 : (t260 != a1_4) = false := bne_eq_false_iff_eq.mpr c76
                        clear c76
                        by_cases c77 : t261 = a1_5
                        · rw [if_pos c77] at H
                          have c77b0 : (t261 == a1_5) = true := beq_iff_eq.mpr c77
                          have c77b1 : (t261 != a1_5) = false := bne_eq_false_iff_eq.mpr c77
                          clear c77
                          by_cases c78 : t262 = a1_6
                          · rw [if_pos c78] at H
                            have c78b0 : (t262 == a1_6) = true := beq_iff_eq.mpr c78
                            have c78b1 : (t262 != a1_6) = false := bne_eq_false_iff_eq.mpr c78
                            clear c78
                            by_cases c79 : t263 = a1_7
                            · rw [if_pos c79] at H
                              have c79b0 : (t263 == a1_7) = true := beq_iff_eq.mpr c79
                              have c79b1 : (t263 != a1_7) = false := bne_eq_false_iff_eq.mpr c79
                              clear c79
                              by_cases c80 : t264 = a1_8
                              · rw [if_pos c80] at H
                                have c80b0 : (t264 == a1_8) = true := beq_iff_eq.mpr c80
                                have c80b1 : (t264 != a1_8) = false := bne_eq_false_iff_eq.mpr c80
                                clear c80
                                by_cases c81 : t265 = a1_9
                                · rw [if_pos c81] at H
                                  have c81b0 : (t265 == a1_9) = true := beq_iff_eq.mpr c81
                                  have c81b1 : (t265 != a1_9) = false := bne_eq_false_iff_eq.mpr c81
                                  clear c81
                                  by_cases c82 : t266 = a1_10
                                  · rw [if_pos c82] at H
                                    have c82b0 : (t266 == a1_10) = true := beq_iff_eq.mpr c82
                                    have c82b1 : (t266 != a1_10) = false := bne_eq_false_iff_eq.mpr c82
                                    clear c82
                                    replace H := Option.bind_eq_some_iff.mp H
                                    obtain ⟨t267, A830, H⟩ := H
                                    replace H : (some t267) = some r := H
                                    have A83 := Aside0.mk A830
                                    clear A830
                                    obtain rfl := Option.some.inj H
                                    have hnb84 := NB251_239.out
                                    have hnc84 := NB239_251.out
                                    have hcz85_0 : wr.cell? ⟨gb251, 0, none⟩ = some (.int .i64 t240) := (blk_cell BK251.out 0).trans rfl
                                    have hcz85_1 : wr.cell? ⟨gb251, 1, none⟩ = some (.int .i64 t241) := (blk_cell BK251.out 1).trans rfl
                                    have hcz85_2 : wr.cell? ⟨gb251, 2, none⟩ = some (.int .i64 t242) := (blk_cell BK251.out 2).trans rfl
                                    have hcz85_3 : wr.cell? ⟨gb251, 3, none⟩ = some (.int .i64 t243) := (blk_cell BK251.out 3).trans rfl
                                    have hcz85_4 : wr.cell? ⟨gb251, 4, none⟩ = some (.int .i64 t244) := (blk_cell BK251.out 4).trans rfl
                                    have hcz85_5 : wr.cell? ⟨gb251, 5, none⟩ = some (.int .i64 t245) := (blk_cell BK251.out 5).trans rfl
                                    have hcz85_6 : wr.cell? ⟨gb251, 6, none⟩ = some (.int .i64 t246) := (blk_cell BK251.out 6).trans rfl
                                    have hcz85_7 : wr.cell? ⟨gb251, 7, none⟩ = some (.int .i64 t247) := (blk_cell BK251.out 7).trans rfl
                                    have hcz85_8 : wr.cell? ⟨gb251, 8, none⟩ = some (.int .i64 t248) := (blk_cell BK251.out 8).trans rfl
                                    have hcz85_9 : wr.cell? ⟨gb251, 9, none⟩ = some (.int .i64 t249) := (blk_cell BK251.out 9).trans rfl
                                    have hcz85_10 : wr.cell? ⟨gb251, 10, none⟩ = some (.int .i64 t250) := (blk_cell BK251.out 10).trans rfl
                                    have hfz85_0 := blk_frozen BK251.out 0
                                    have hfz85_1 := blk_frozen BK251.out 1
                                    have hfz85_2 := blk_frozen BK251.out 2
                                    have hfz85_3 := blk_frozen BK251.out 3
                                    have hfz85_4 := blk_frozen BK251.out 4
                                    have hfz85_5 := blk_frozen BK251.out 5
                                    have hfz85_6 := blk_frozen BK251.out 6
                                    have hfz85_7 := blk_frozen BK251.out 7
                                    have hfz85_8 := blk_frozen BK251.out 8
                                    have hfz85_9 := blk_frozen BK251.out 9
                                    have hfz85_10 := blk_frozen BK251.out 10
                                    try go_wp2_with (first | ((with_reducible refine gate_callee (f := 14) rfl ?_); refine goesL_ (some 39) rfl rfl Try.func14 (by kernel_rfl) rfl #[.agg #[.int .i64 t240, .int .i64 t241, .int .i64 t242, .int .i64 t243, .int .i64 t244, .int .i64 t245, .int .i64 t246, .int .i64 t247, .int .i64 t248, .int .i64 t249, .int .i64 t250]] rfl (by (try simp only [List.map_toArray, List.map_cons, List.map_nil]); first | done | rfl | (simp only [List.length_drop, List.length_take]; rfl)) ?_; (with_reducible refine (tick_Of.calls k1 t240 t241 t242 t243 t244 t245 t246 t247 t248 t249 t250 t252 true _ A66.out (TabOk.below HT0.out (by repeat (first | (with_reducible first | exact HB.out | apply below_alloc | apply pw_below_drewN | apply below_drew1 | refine below_set ?_ GE239.out | refine below_set ?_ GE251.out) | exact HB.out)))).mono ?_); rintro e w86 ⟨rfl, hb⟩; refine ⟨_, rfl, ?_⟩; have n0_ := Aside0.mk (blk_below (g := gb239) (o := .cells #[.int .i64 a1_0, .int .i64 a1_1, .int .i64 a1_2, .int .i64 a1_3, .int .i64 a1_4, .int .i64 a1_5, .int .i64 a1_6, .int .i64 a1_7, .int .i64 a1_8, .int .i64 a1_9, .int .i64 a1_10] 24 (0, 0)) (by (with_reducible repeat (first | refine blk_drewN ?_ _ | refine blk_drew ?_ | refine blk_alloc ?_ _)); exact BK239.out) hb); have n1_ := Aside0.mk (blk_below (g := gb251) (o := .cells #[.int .i64 t240, .int .i64 t241, .int .i64 t242, .int .i64 t243, .int .i64 t244, .int .i64 t245, .int .i64 t246, .int .i64 t247, .int .i64 t248, .int .i64 t249, .int .i64 t250] 24 (0, 0)) (by (with_reducible repeat (first | refine blk_drewN ?_ _ | refine blk_drew ?_ | refine blk_alloc ?_ _)); exact BK251.out) hb); have n2_ := Aside0.mk (below_step (by repeat (first | (with_reducible first | exact HB.out | apply below_alloc | apply pw_below_drewN | apply below_drew1 | refine below_set ?_ GE239.out | refine below_set ?_ GE251.out) | exact HB.out)) hb); clear BK239; clear BK251; clear HB; have BK239 := n0_; have BK251 := n1_; have HB := n2_; clear n0_ n1_ n2_; (try clear hb); (try clear hb2); (try clear hk); (try clear hi); have hcz87_0 : w86.cell? ⟨gb239, 0, none⟩ = some (.int .i64 a1_0) := (blk_cell BK239.out 0).trans rfl; have hcz87_1 : w86.cell? ⟨gb239, 1, none⟩ = some (.int .i64 a1_1) := (blk_cell BK239.out 1).trans rfl; have hcz87_2 : w86.cell? ⟨gb239, 2, none⟩ = some (.int .i64 a1_2) := (blk_cell BK239.out 2).trans rfl; have hcz87_3 : w86.cell? ⟨gb239, 3, none⟩ = some (.int .i64 a1_3) := (blk_cell BK239.out 3).trans rfl; have hcz87_4 : w86.cell? ⟨gb239, 4, none⟩ = some (.int .i64 a1_4) := (blk_cell BK239.out 4).trans rfl; have hcz87_5 : w86.cell? ⟨gb239, 5, none⟩ = some (.int .i64 a1_5) := (blk_cell BK239.out 5).trans rfl; have hcz87_6 : w86.cell? ⟨gb239, 6, none⟩ = some (.int .i64 a1_6) := (blk_cell BK239.out 6).trans rfl; have hcz87_7 : w86.cell? ⟨gb239, 7, none⟩ = some (.int .i64 a1_7) := (blk_cell BK239.out 7).trans rfl; have hcz87_8 : w86.cell? ⟨gb239, 8, none⟩ = some (.int .i64 a1_8) := (blk_cell BK239.out 8).trans rfl; have hcz87_9 : w86.cell? ⟨gb239, 9, none⟩ = some (.int .i64 a1_9) := (blk_cell BK239.out 9).trans rfl; have hcz87_10 : w86.cell? ⟨gb239, 10, none⟩ = some (.int .i64 a1_10) := (blk_cell BK239.out 10).trans rfl; have hfz87_0 := blk_frozen BK239.out 0; have hfz87_1 := blk_frozen BK239.out 1; have hfz87_2 := blk_frozen BK239.out 2; have hfz87_3 := blk_frozen BK239.out 3; have hfz87_4 := blk_frozen BK239.out 4; have hfz87_5 := blk_frozen BK239.out 5; have hfz87_6 := blk_frozen BK239.out 6; have hfz87_7 := blk_frozen BK239.out 7; have hfz87_8 := blk_frozen BK239.out 8; have hfz87_9 := blk_frozen BK239.out 9; have hfz87_10 := blk_frozen BK239.out 10) | ((with_reducible refine gate_callee (f := 14) rfl ?_); refine goesL_ (some 44) rfl rfl Try.func14 (by kernel_rfl) rfl #[.agg #[.int .i64 a1_0, .int .i64 a1_1, .int .i64 a1_2, .int .i64 a1_3, .int .i64 a1_4, .int .i64 a1_5, .int .i64 a1_6, .int .i64 a1_7, .int .i64 a1_8, .int .i64 a1_9, .int .i64 a1_10]] rfl (by (try simp only [List.map_toArray, List.map_cons, List.map_nil]); first | done | rfl | (simp only [List.length_drop, List.length_take]; rfl)) ?_; (with_reducible refine (tick_Of.calls k1 a1_0 a1_1 a1_2 a1_3 a1_4 a1_5 a1_6 a1_7 a1_8 a1_9 a1_10 t254 true _ A67.out (TabOk.below HT0.out (by repeat (first | (with_reducible first | exact HB.out | apply below_alloc | apply pw_below_drewN | apply below_drew1 | refine below_set ?_ GE239.out | refine below_set ?_ GE251.out) | exact HB.out)))).mono ?_); rintro e w88 ⟨rfl, hb⟩; refine ⟨_, rfl, ?_⟩; have n0_ := Aside0.mk (blk_below (g := gb239) (o := .cells #[.int .i64 a1_0, .int .i64 a1_1, .int .i64 a1_2, .int .i64 a1_3, .int .i64 a1_4, .int .i64 a1_5, .int .i64 a1_6, .int .i64 a1_7, .int .i64 a1_8, .int .i64 a1_9, .int .i64 a1_10] 24 (0, 0)) (by (with_reducible repeat (first | refine blk_drewN ?_ _ | refine blk_drew ?_ | refine blk_alloc ?_ _)); exact BK239.out) hb); have n1_ := Aside0.mk (blk_below (g := gb251) (o := .cells #[.int .i64 t240, .int .i64 t241, .int .i64 t242, .int .i64 t243, .int .i64 t244, .int .i64 t245, .int .i64 t246, .int .i64 t247, .int .i64 t248, .int .i64 t249, .int .i64 t250] 24 (0, 0)) (by (with_reducible repeat (first | refine blk_drewN ?_ _ | refine blk_drew ?_ | refine blk_alloc ?_ _)); exact BK251.out) hb); have n2_ := Aside0.mk (below_step (by repeat (first | (with_reducible first | exact HB.out | apply below_alloc | apply pw_below_drewN | apply below_drew1 | refine below_set ?_ GE239.out | refine below_set ?_ GE251.out) | exact HB.out)) hb); clear BK239; clear BK251; clear HB; have BK239 := n0_; have BK251 := n1_; have HB := n2_; clear n0_ n1_ n2_; (try clear hb); (try clear hb2); (try clear hk); (try clear hi)))
                                    have n0_ := Aside0.mk (blk_drew BK239.out)
                                    have n1_ := Aside0.mk (blk_drew BK251.out)
                                    have n2_ := Aside0.mk (below_drew1 HB.out)
                                    clear BK239
                                    clear BK251
                                    clear HB
                                    have BK239 := n0_
                                    have BK251 := n1_
                                    have HB := n2_
                                    clear n0_ n1_ n2_
                                    refine start_ (n := 27) (S := fun w' => w'.cell? ⟨gb239, 0, none⟩ = some (.int .i64 a1_0) ∧ w'.cell? ⟨gb239, 1, none⟩ = some (.int .i64 a1_1) ∧ w'.cell? ⟨gb239, 2, none⟩ = some (.int .i64 a1_2) ∧ w'.cell? ⟨gb239, 3, none⟩ = some (.int .i64 a1_3) ∧ w'.cell? ⟨gb239, 4, none⟩ = some (.int .i64 a1_4) ∧ w'.cell? ⟨gb239, 5, none⟩ = some (.int .i64 a1_5) ∧ w'.cell? ⟨gb239, 6, none⟩ = some (.int .i64 a1_6) ∧ w'.cell? ⟨gb239, 7, none⟩ = some (.int .i64 a1_7) ∧ w'.cell? ⟨gb239, 8, none⟩ = some (.int .i64 a1_8) ∧ w'.cell? ⟨gb239, 9, none⟩ = some (.int .i64 a1_9) ∧ w'.cell? ⟨gb239, 10, none⟩ = some (.int .i64 a1_10)) (ds := []) #[false, false, false, false, false, false, false, false, false, false, false, false, false, false, false, false, false, false, false, false, false, false, false, false, false, false, false] (by kernel_rfl) rfl rfl ⟨(blk_cell BK239.out 0).trans rfl, (blk_cell BK239.out 1).trans rfl, (blk_cell BK239.out 2).trans rfl, (blk_cell BK239.out 3).trans rfl, (blk_cell BK239.out 4).trans rfl, (blk_cell BK239.out 5).trans rfl, (blk_cell BK239.out 6).trans rfl, (blk_cell BK239.out 7).trans rfl, (blk_cell BK239.out 8).trans rfl, (blk_cell BK239.out 9).trans rfl, (blk_cell BK239.out 10).trans rfl⟩ (fun hHeld => ?_); refine with_tabW remontoirlaw01_TickBack.tab9 remontoirlaw01_TickBack.bits9 (fun HT_ HW_ => ?_)
                                    generalize w88.drew = w89 at BK239 BK251 HB hHeld ⊢
                                    refine pure_ (i := 0) (N := some 47) (v := ?_) (a' := ?_) #[true, false, false, false, false, false, false, false, false, false, false, false, false, false, false, false, false, false, false, false, false, false, false, false, false, false, false] rfl rfl (any_of HT_.out (by kernel_rfl)) (fun _ _ _ h => h) (Or.inl ⟨by rfl, ?_⟩) ?_ ?_
                                    rotate_left
                                    · intro w'
                                      go_simp
                                      with_reducible rfl
                                    rotate_left
                                    · simp only [Act.put, List.setIfInBounds_toArray, List.set_cons_zero, List.set_cons_succ, i64_w, i32_w]
                                      rfl
                                    refine pure_ (i := 1) (N := some 48) (v := ?_) (a' := ?_) #[true, true, false, false, false, false, false, false, false, false, false, false, false, false, false, false, false, false, false, false, false, false, false, false, false, false, false] rfl rfl (any_of HT_.out (by kernel_rfl)) (fun _ _ _ h => h) (Or.inl ⟨by rfl, ?_⟩) ?_ ?_
                                    rotate_left
                                    · intro w'
                                      go_simp
                                      with_reducible rfl
                                    rotate_left
                                    · simp only [Act.put, List.setIfInBounds_toArray, List.set_cons_zero, List.set_cons_succ, i64_w, i32_w]
                                      rfl
                                    refine pure_ (i := 2) (N := some 49) (v := ?_) (a' := ?_) #[true, true, true, false, false, false, false, false, false, false, false, false, false, false, false, false, false, false, false, false, false, false, false, false, false, false, false] rfl rfl (any_of HT_.out (by kernel_rfl)) (fun _ _ _ h => h) (Or.inl ⟨by rfl, ?_⟩) ?_ ?_
                                    rotate_left
                                    · intro w'
                                      go_simp
                                      with_reducible rfl
                                    rotate_left
                                    · simp only [Act.put, List.setIfInBounds_toArray, List.set_cons_zero, List.set_cons_succ, i64_w, i32_w]
                                      rfl
                                    refine pure_ (i := 3) (N := some 50) (v := ?_) (a' := ?_) #[true, true, true, true, false, false, false, false, false, false, false, false, false, false, false, false, false, false, false, false, false, false, false, false, false, false, false] rfl rfl (any_of HT_.out (by kernel_rfl)) (fun _ _ _ h => h) (Or.inl ⟨by rfl, ?_⟩) ?_ ?_
                                    rotate_left
                                    · intro w'
                                      go_simp
                                      with_reducible rfl
                                    rotate_left
                                    · simp only [Act.put, List.setIfInBounds_toArray, List.set_cons_zero, List.set_cons_succ, i64_w, i32_w]
                                      rfl
                                    refine pure_ (i := 4) (N := some 51) (v := ?_) (a' := ?_) #[true, true, true, true, true, false, false, false, false, false, false, false, false, false, false, false, false, false, false, false, false, false, false, false, false, false, false] rfl rfl (any_of HT_.out (by kernel_rfl)) (fun _ _ _ h => h) (Or.inl ⟨by rfl, ?_⟩) ?_ ?_
                                    rotate_left
                                    · intro w'
                                      go_simp
                                      with_reducible rfl
                                    rotate_left
                                    · simp only [Act.put, List.setIfInBounds_toArray, List.set_cons_zero, List.set_cons_succ, i64_w, i32_w]
                                      rfl
                                    refine pure_ (i := 5) (N := some 52) (v := ?_) (a' := ?_) #[true, true, true, true, true, true, false, false, false, false, false, false, false, false, false, false, false, false, false, false, false, false, false, false, false, false, false] rfl rfl (any_of HT_.out (by kernel_rfl)) (fun _ _ _ h => h) (Or.inl ⟨by rfl, ?_⟩) ?_ ?_
                                    rotate_left
                                    · intro w'
                                      go_simp
                                      with_reducible rfl
                                    rotate_left
                                    · simp only [Act.put, List.setIfInBounds_toArray, List.set_cons_zero, List.set_cons_succ, i64_w, i32_w]
                                      rfl
                                    refine pure_ (i := 6) (N := some 53) (v := ?_) (a' := ?_) #[true, true, true, true, true, true, true, false, false, false, false, false, false, false, false, false, false, false, false, false, false, false, false, false, false, false, false] rfl rfl (any_of HT_.out (by kernel_rfl)) (fun _ _ _ h => h) (Or.inl ⟨by rfl, ?_⟩) ?_ ?_
                                    rotate_left
                                    · intro w'
                                      go_simp
                                      with_reducible rfl
                                    rotate_left
                                    · simp only [Act.put, List.setIfInBounds_toArray, List.set_cons_zero, List.set_cons_succ, i64_w, i32_w]
                                      rfl
                                    refine pure_ (i := 7) (N := some 54) (v := ?_) (a' := ?_) #[true, true, true, true, true, true, true, true, false, false, false, false, false, false, false, false, false, false, false, false, false, false, false, false, false, false, false] rfl rfl (any_of HT_.out (by kernel_rfl)) (fun _ _ _ h => h) (Or.inl ⟨by rfl, ?_⟩) ?_ ?_
                                    rotate_left
                                    · intro w'
                                      go_simp
                                      with_reducible rfl
                                    rotate_left
                                    · simp only [Act.put, List.setIfInBounds_toArray, List.set_cons_zero, List.set_cons_succ, i64_w, i32_w]
                                      rfl
                                    refine pure_ (i := 8) (N := some 55) (v := ?_) (a' := ?_) #[true, true, true, true, true, true, true, true, true, false, false, false, false, false, false, false, false, false, false, false, false, false, false, false, false, false, false] rfl rfl (any_of HT_.out (by kernel_rfl)) (fun _ _ _ h => h) (Or.inl ⟨by rfl, ?_⟩) ?_ ?_
                                    rotate_left
                                    · intro w'
                                      go_simp
                                      with_reducible rfl
                                    rotate_left
                                    · simp only [Act.put, List.setIfInBounds_toArray, List.set_cons_zero, List.set_cons_succ, i64_w, i32_w]
                                      rfl
                                    refine pure_ (i := 9) (N := some 56) (v := ?_) (a' := ?_) #[true, true, true, true, true, true, true, true, true, true, false, false, false, false, false, false, false, false, false, false, false, false, false, false, false, false, false] rfl rfl (any_of HT_.out (by kernel_rfl)) (fun _ _ _ h => h) (Or.inl ⟨by rfl, ?_⟩) ?_ ?_
                                    rotate_left
                                    · intro w'
                                      go_simp
                                      with_reducible rfl
                                    rotate_left
                                    · simp only [Act.put, List.setIfInBounds_toArray, List.set_cons_zero, List.set_cons_succ, i64_w, i32_w]
                                      rfl
                                    refine pure_ (i := 10) (N := some 57) (v := undef) (a' := ?_) #[true, true, true, true, true, true, true, true, true, true, true, false, false, false, false, false, false, false, false, false, false, false, false, false, false, false, false] rfl rfl (any_of HT_.out (by kernel_rfl)) (fun _ _ _ h => h) (Or.inr ⟨by rfl, rfl⟩) ?_ ?_
                                    rotate_left
                                    · simp only [Act.put, List.setIfInBounds_toArray, List.set_cons_zero, List.set_cons_succ, i64_w, i32_w]
                                      rfl
                                    refine pure_ (i := 11) (N := some 58) (v := undef) (a' := ?_) #[true, true, true, true, true, true, true, true, true, true, true, true, false, false, false, false, false, false, false, false, false, false, false, false, false, false, false] rfl rfl (any_of HT_.out (by kernel_rfl)) (fun _ _ _ h => h) (Or.inr ⟨by rfl, rfl⟩) ?_ ?_
                                    rotate_left
                                    · simp only [Act.put, List.setIfInBounds_toArray, List.set_cons_zero, List.set_cons_succ, i64_w, i32_w]
                                      rfl
                                    refine pure_ (i := 12) (N := some 59) (v := ?_) (a' := ?_) #[true, true, true, true, true, true, true, true, true, true, true, true, true, false, false, false, false, false, false, false, false, false, false, false, false, false, false] rfl rfl (any_of HT_.out (by kernel_rfl)) (fun _ _ _ h => h) (Or.inl ⟨by rfl, ?_⟩) ?_ ?_
                                    rotate_left
                                    · intro w'
                                      go_simp
                                      with_reducible rfl
                                    rotate_left
                                    · simp only [Act.put, List.setIfInBounds_toArray, List.set_cons_zero, List.set_cons_succ, i64_w, i32_w]
                                      rfl
                                    refine pure_ (i := 13) (N := some 60) (v := ?_) (a' := ?_) #[true, true, true, true, true, true, true, true, true, true, true, true, true, true, false, false, false, false, false, false, false, false, false, false, false, false, false] rfl rfl (any_of HT_.out (by kernel_rfl)) (fun _ _ _ h => h) (Or.inl ⟨by rfl, ?_⟩) ?_ ?_
                                    rotate_left
                                    · intro w'
                                      go_simp
                                      with_reducible rfl
                                    rotate_left
                                    · simp only [Act.put, List.setIfInBounds_toArray, List.set_cons_zero, List.set_cons_succ, i64_w, i32_w]
                                      rfl
                                    refine pure_ (i := 14) (N := some 61) (v := ?_) (a' := ?_) #[true, true, true, true, true, true, true, true, true, true, true, true, true, true, true, false, false, false, false, false, false, false, false, false, false, false, false] rfl rfl (any_of HT_.out (by kernel_rfl)) (fun _ _ _ h => h) (Or.inl ⟨by rfl, ?_⟩) ?_ ?_
                                    rotate_left
                                    · intro w'
                                      go_simp
                                      with_reducible rfl
                                    rotate_left
                                    · simp only [Act.put, List.setIfInBounds_toArray, List.set_cons_zero, List.set_cons_succ, i64_w, i32_w]
                                      rfl
                                    refine pure_ (i := 15) (N := some 62) (v := ?_) (a' := ?_) #[true, true, true, true, true, true, true, true, true, true, true, true, true, true, true, true, false, false, false, false, false, false, false, false, false, false, false] rfl rfl (any_of HT_.out (by kernel_rfl)) (fun _ _ _ h => h) (Or.inl ⟨by rfl, ?_⟩) ?_ ?_
                                    rotate_left
                                    · intro w'
                                      go_simp
                                      with_reducible rfl
                                    rotate_left
                                    · simp only [Act.put, List.setIfInBounds_toArray, List.set_cons_zero, List.set_cons_succ, i64_w, i32_w]
                                      rfl
                                    refine pure_ (i := 16) (N := some 63) (v := ?_) (a' := ?_) #[true, true, true, true, true, true, true, true, true, true, true, true, true, true, true, true, true, false, false, false, false, false, false, false, false, false, false] rfl rfl (any_of HT_.out (by kernel_rfl)) (fun _ _ _ h => h) (Or.inl ⟨by rfl, ?_⟩) ?_ ?_
                                    rotate_left
                                    · intro w'
                                      go_simp
                                      with_reducible rfl
                                    rotate_left
                                    · simp only [Act.put, List.setIfInBounds_toArray, List.set_cons_zero, List.set_cons_succ, i64_w, i32_w]
                                      rfl
                                    refine take_ (i := 18) (N := some 65) (v := ?_) (a' := ?_) #[true, true, true, true, true, true, true, true, true, true, true, true, true, true, true, true, true, false, true, false, false, false, false, false, false, false, false] rfl rfl (take_ofW HT_.out HW_.out (by kernel_rfl)) (fun _ _ _ h => h) (Or.inl ⟨by rfl, ?_⟩) hHeld ?_ ?_
                                    rotate_left
                                    · rintro w' ⟨s0, s1, s2, s3, s4, s5, s6, s7, s8, s9, s10⟩
                                      go_simp
                                      with_reducible rfl
                                    rotate_left
                                    · simp only [Act.put, List.setIfInBounds_toArray, List.set_cons_zero, List.set_cons_succ, i64_w, i32_w]
                                      rfl
                                    refine one_ (i := 17) (N := some 64) #[true, true, true, true, true, true, true, true, true, true, true, true, true, true, true, true, true, true, true, false, false, false, false, false, false, false, false] rfl rfl (one_of HT_.out (by kernel_rfl)) (by decide) (fun K hK => ?_)
                                    refine goes_ Try.func9 (by kernel_rfl) rfl #[.int .u64 t254] (by rfl) rfl rfl (by (try simp only [List.map_toArray, List.map_cons, List.map_nil]); first | done | rfl | (simp only [List.length_drop, List.length_take]; rfl)) ?_
                                    with_reducible refine (tick_Digits.calls k1 t254 t256 t257 t258 t259 t260 t261 t262 t263 t264 t265 t266 _ A71.out).mono ?_
                                    rintro e w90 ⟨rfl, hb⟩
                                    refine ⟨_, rfl, ?_⟩
                                    have n0_ := Aside0.mk (blk_below (g := gb239) (o := .cells #[.int .i64 a1_0, .int .i64 a1_1, .int .i64 a1_2, .int .i64 a1_3, .int .i64 a1_4, .int .i64 a1_5, .int .i64 a1_6, .int .i64 a1_7, .int .i64 a1_8, .int .i64 a1_9, .int .i64 a1_10] 24 (0, 0)) (by (with_reducible repeat (first | refine blk_drewN ?_ _ | refine blk_drew ?_ | refine blk_alloc ?_ _)); exact BK239.out) hb)
                                    have n1_ := Aside0.mk (blk_below (g := gb251) (o := .cells #[.int .i64 t240, .int .i64 t241, .int .i64 t242, .int .i64 t243, .int .i64 t244, .int .i64 t245, .int .i64 t246, .int .i64 t247, .int .i64 t248, .int .i64 t249, .int .i64 t250] 24 (0, 0)) (by (with_reducible repeat (first | refine blk_drewN ?_ _ | refine blk_drew ?_ | refine blk_alloc ?_ _)); exact BK251.out) hb)
                                    have n2_ := Aside0.mk (below_step (by repeat (first | (with_reducible first | exact HB.out | apply below_alloc | apply pw_below_drewN | apply below_drew1 | refine below_set ?_ GE239.out | refine below_set ?_ GE251.out) | exact HB.out)) hb)
                                    clear BK239
                                    clear BK251
                                    clear HB
                                    have BK239 := n0_
                                    have BK251 := n1_
                                    have HB := n2_
                                    clear n0_ n1_ n2_
                                    (try clear hb)
                                    (try clear hb2)
                                    (try clear hk)
                                    (try clear hi)
                                    refine hK.out _ _ ⟨(blk_cell BK239.out 0).trans rfl, (blk_cell BK239.out 1).trans rfl, (blk_cell BK239.out 2).trans rfl, (blk_cell BK239.out 3).trans rfl, (blk_cell BK239.out 4).trans rfl, (blk_cell BK239.out 5).trans rfl, (blk_cell BK239.out 6).trans rfl, (blk_cell BK239.out 7).trans rfl, (blk_cell BK239.out 8).trans rfl, (blk_cell BK239.out 9).trans rfl, (blk_cell BK239.out 10).trans rfl⟩ (fun hHeld => ?_)
                                    clear hK K
                                    refine norm_ (a' := ?_) ?_ ?_
                                    rotate_left
                                    · show Act.put _ (some 64) _ = _
                                      simp only [Act.put, List.setIfInBounds_toArray, List.set_cons_zero, List.set_cons_succ, i64_w, i32_w]
                                      rfl
                                    refine pure_ (i := 19) (N := some 66) (v := ?_) (a' := ?_) #[true, true, true, true, true, true, true, true, true, true, true, true, true, true, true, true, true, true, true, true, false, false, false, false, false, false, false] rfl rfl (any_of HT_.out (by kernel_rfl)) (fun _ _ _ h => h) (Or.inl ⟨by rfl, ?_⟩) ?_ ?_
                                    rotate_left
                                    · intro w'
                                      go_simp
                                      with_reducible rfl
                                    rotate_left
                                    · simp only [Act.put, List.setIfInBounds_toArray, List.set_cons_zero, List.set_cons_succ, i64_w, i32_w]
                                      rfl
                                    refine pure_ (i := 20) (N := some 67) (v := ?_) (a' := ?_) #[true, true, true, true, true, true, true, true, true, true, true, true, true, true, true, true, true, true, true, true, true, false, false, false, false, false, false] rfl rfl (any_of HT_.out (by kernel_rfl)) (fun _ _ _ h => h) (Or.inl ⟨by rfl, ?_⟩) ?_ ?_
                                    rotate_left
                                    · intro w'
                                      go_simp
                                      with_reducible rfl
                                    rotate_left
                                    · simp only [Act.put, List.setIfInBounds_toArray, List.set_cons_zero, List.set_cons_succ, i64_w, i32_w]
                                      rfl
                                    refine pure_ (i := 21) (N := some 68) (v := ?_) (a' := ?_) #[true, true, true, true, true, true, true, true, true, true, true, true, true, true, true, true, true, true, true, true, true, true, false, false, false, false, false] rfl rfl (any_of HT_.out (by kernel_rfl)) (fun _ _ _ h => h) (Or.inl ⟨by rfl, ?_⟩) ?_ ?_
                                    rotate_left
                                    · intro w'
                                      go_simp
                                      with_reducible rfl
                                    rotate_left
                                    · simp only [Act.put, List.setIfInBounds_toArray, List.set_cons_zero, List.set_cons_succ, i64_w, i32_w]
                                      rfl
                                    refine pure_ (i := 22) (N := some 69) (v := ?_) (a' := ?_) #[true, true, true, true, true, true, true, true, true, true, true, true, true, true, true, true, true, true, true, true, true, true, true, false, false, false, false] rfl rfl (any_of HT_.out (by kernel_rfl)) (fun _ _ _ h => h) (Or.inl ⟨by rfl, ?_⟩) ?_ ?_
                                    rotate_left
                                    · intro w'
                                      go_simp
                                      with_reducible rfl
                                    rotate_left
                                    · simp only [Act.put, List.setIfInBounds_toArray, List.set_cons_zero, List.set_cons_succ, i64_w, i32_w]
                                      rfl
                                    refine pure_ (i := 23) (N := some 70) (v := ?_) (a' := ?_) #[true, true, true, true, true, true, true, true, true, true, true, true, true, true, true, true, true, true, true, true, true, true, true, true, false, false, false] rfl rfl (any_of HT_.out (by kernel_rfl)) (fun _ _ _ h => h) (Or.inl ⟨by rfl, ?_⟩) ?_ ?_
                                    rotate_left
                                    · intro w'
                                      go_simp
                                      with_reducible rfl
                                    rotate_left
                                    · simp only [Act.put, List.setIfInBounds_toArray, List.set_cons_zero, List.set_cons_succ, i64_w, i32_w]
                                      rfl
                                    refine one_ (i := 24) (N := some 71) #[true, true, true, true, true, true, true, true, true, true, true, true, true, true, true, true, true, true, true, true, true, true, true, true, true, false, false] rfl rfl (one_of HT_.out (by kernel_rfl)) (by decide) (fun K hK => ?_)
                                    refine goes_ Try.func10 (by kernel_rfl) rfl #[] (by rfl) rfl rfl (by (try simp only [List.map_toArray, List.map_cons, List.map_nil]); first | done | rfl | (simp only [List.length_drop, List.length_take]; rfl)) ?_
                                    with_reducible refine (remontoirlaw01_wakes.calls k1  t267 _ A83.out (TabOk.below HT0.out (by repeat (first | (with_reducible first | exact HB.out | apply below_alloc | apply pw_below_drewN | apply below_drew1 | refine below_set ?_ GE239.out | refine below_set ?_ GE251.out) | exact HB.out)))).mono ?_
                                    rintro e w91 ⟨rfl, hb⟩
                                    refine ⟨_, rfl, ?_⟩
                                    have n0_ := Aside0.mk (blk_below (g := gb239) (o := .cells #[.int .i64 a1_0, .int .i64 a1_1, .int .i64 a1_2, .int .i64 a1_3, .int .i64 a1_4, .int .i64 a1_5, .int .i64 a1_6, .int .i64 a1_7, .int .i64 a1_8, .int .i64 a1_9, .int .i64 a1_10] 24 (0, 0)) (by (with_reducible repeat (first | refine blk_drewN ?_ _ | refine blk_drew ?_ | refine blk_alloc ?_ _)); exact BK239.out) hb)
                                    have n1_ := Aside0.mk (blk_below (g := gb251) (o := .cells #[.int .i64 t240, .int .i64 t241, .int .i64 t242, .int .i64 t243, .int .i64 t244, .int .i64 t245, .int .i64 t246, .int .i64 t247, .int .i64 t248, .int .i64 t249, .int .i64 t250] 24 (0, 0)) (by (with_reducible repeat (first | refine blk_drewN ?_ _ | refine blk_drew ?_ | refine blk_alloc ?_ _)); exact BK251.out) hb)
                                    have n2_ := Aside0.mk (below_step (by repeat (first | (with_reducible first | exact HB.out | apply below_alloc | apply pw_below_drewN | apply below_drew1 | refine below_set ?_ GE239.out | refine below_set ?_ GE251.out) | exact HB.out)) hb)
                                    clear BK239
                                    clear BK251
                                    clear HB
                                    have BK239 := n0_
                                    have BK251 := n1_
                                    have HB := n2_
                                    clear n0_ n1_ n2_
                                    (try clear hb)
                                    (try clear hb2)
                                    (try clear hk)
                                    (try clear hi)
                                    refine hK.out _ _ ⟨(blk_cell BK239.out 0).trans rfl, (blk_cell BK239.out 1).trans rfl, (blk_cell BK239.out 2).trans rfl, (blk_cell BK239.out 3).trans rfl, (blk_cell BK239.out 4).trans rfl, (blk_cell BK239.out 5).trans rfl, (blk_cell BK239.out 6).trans rfl, (blk_cell BK239.out 7).trans rfl, (blk_cell BK239.out 8).trans rfl, (blk_cell BK239.out 9).trans rfl, (blk_cell BK239.out 10).trans rfl⟩ (fun hHeld => ?_)
                                    clear hK K
                                    refine norm_ (a' := ?_) ?_ ?_
                                    rotate_left
                                    · show Act.put _ (some 71) _ = _
                                      simp only [Act.put, List.setIfInBounds_toArray, List.set_cons_zero, List.set_cons_succ, i64_w, i32_w]
                                      rfl
                                    refine pure_ (i := 25) (N := some 72) (v := ?_) (a' := ?_) #[true, true, true, true, true, true, true, true, true, true, true, true, true, true, true, true, true, true, true, true, true, true, true, true, true, true, false] rfl rfl (any_of HT_.out (by kernel_rfl)) (fun _ _ _ h => h) (Or.inl ⟨by rfl, ?_⟩) ?_ ?_
                                    rotate_left
                                    · intro w'
                                      go_simp
                                      with_reducible rfl
                                    rotate_left
                                    · simp only [Act.put, List.setIfInBounds_toArray, List.set_cons_zero, List.set_cons_succ, i64_w, i32_w]
                                      rfl
                                    refine pure_ (i := 26) (N := some 4) (v := ?_) (a' := ?_) #[true, true, true, true, true, true, true, true, true, true, true, true, true, true, true, true, true, true, true, true, true, true, true, true, true, true, true] rfl rfl (any_of HT_.out (by kernel_rfl)) (fun _ _ _ h => h) (Or.inl ⟨by rfl, ?_⟩) ?_ ?_
                                    rotate_left
                                    · intro w'
                                      go_simp
                                      with_reducible rfl
                                    rotate_left
                                    · simp only [Act.put, List.setIfInBounds_toArray, List.set_cons_zero, List.set_cons_succ, i64_w, i32_w]
                                      rfl
                                    refine done_ (done_of HT_.out (by kernel_rfl)) ?_
                                    try go_wp2
                                    go_ret
                                    exact ⟨by first | rfl | (simp [errW_none, errW_some] <;> rfl) | (simp [*, errW_none, errW_some] <;> rfl), by repeat (first | (with_reducible first | exact HB.out | apply below_alloc | apply pw_below_drewN | apply below_drew1 | refine below_set ?_ GE239.out | refine below_set ?_ GE251.out) | exact HB.out)⟩
                                  · rw [if_neg c82] at H
                                    exact absurd H (by simp)
                                · rw [if_neg c81] at H
                                  exact absurd H (by simp)
                              · rw [if_neg c80] at H
                                exact absurd H (by simp)
                            · rw [if_neg c79] at H
                              exact absurd H (by simp)
                          · rw [if_neg c78] at H
                            exact absurd H (by simp)
                        · rw [if_neg c77] at H
                          exact absurd H (by simp)
                      · rw [if_neg c76] at H
                        exact absurd H (by simp)
                    · rw [if_neg c75] at H
                      exact absurd H (by simp)
                  · rw [if_neg c74] at H
                    exact absurd H (by simp)
                · rw [if_neg c73] at H
                  exact absurd H (by simp)
              · rw [if_neg c72] at H
                exact absurd H (by simp)
            · replace c70 := Bool.eq_false_iff.mpr c70
              subst c70
              have H1 : (if t254 = 0 then ((remontoirlaw01_wakes.f k1).bind fun t268 => (some t268)) else (none)) = some r := by rw [if_neg (show ¬ (false = true) by decide)] at H; exact H
              clear H
              have H := H1
              clear H1
              by_cases c92 : t254 = 0
              · rw [if_pos c92] at H
                have c92b0 : (t254 == 0) = true := beq_iff_eq.mpr c92
                have c92b1 : (t254 != 0) = false := bne_eq_false_iff_eq.mpr c92
                clear c92
                replace H := Option.bind_eq_some_iff.mp H
                obtain ⟨t268, A930, H⟩ := H
                replace H : (some t268) = some r := H
                have A93 := Aside0.mk A930
                clear A930
                obtain rfl := Option.some.inj H
                have hnb94 := NB251_239.out
                have hnc94 := NB239_251.out
                have hcz95_0 : wr.cell? ⟨gb251, 0, none⟩ = some (.int .i64 t240) := (blk_cell BK251.out 0).trans rfl
                have hcz95_1 : wr.cell? ⟨gb251, 1, none⟩ = some (.int .i64 t241) := (blk_cell BK251.out 1).trans rfl
                have hcz95_2 : wr.cell? ⟨gb251, 2, none⟩ = some (.int .i64 t242) := (blk_cell BK251.out 2).trans rfl
                have hcz95_3 : wr.cell? ⟨gb251, 3, none⟩ = some (.int .i64 t243) := (blk_cell BK251.out 3).trans rfl
                have hcz95_4 : wr.cell? ⟨gb251, 4, none⟩ = some (.int .i64 t244) := (blk_cell BK251.out 4).trans rfl
                have hcz95_5 : wr.cell? ⟨gb251, 5, none⟩ = some (.int .i64 t245) := (blk_cell BK251.out 5).trans rfl
                have hcz95_6 : wr.cell? ⟨gb251, 6, none⟩ = some (.int .i64 t246) := (blk_cell BK251.out 6).trans rfl
                have hcz95_7 : wr.cell? ⟨gb251, 7, none⟩ = some (.int .i64 t247) := (blk_cell BK251.out 7).trans rfl
                have hcz95_8 : wr.cell? ⟨gb251, 8, none⟩ = some (.int .i64 t248) := (blk_cell BK251.out 8).trans rfl
                have hcz95_9 : wr.cell? ⟨gb251, 9, none⟩ = some (.int .i64 t249) := (blk_cell BK251.out 9).trans rfl
                have hcz95_10 : wr.cell? ⟨gb251, 10, none⟩ = some (.int .i64 t250) := (blk_cell BK251.out 10).trans rfl
                have hfz95_0 := blk_frozen BK251.out 0
                have hfz95_1 := blk_frozen BK251.out 1
                have hfz95_2 := blk_frozen BK251.out 2
                have hfz95_3 := blk_frozen BK251.out 3
                have hfz95_4 := blk_frozen BK251.out 4
                have hfz95_5 := blk_frozen BK251.out 5
                have hfz95_6 := blk_frozen BK251.out 6
                have hfz95_7 := blk_frozen BK251.out 7
                have hfz95_8 := blk_frozen BK251.out 8
                have hfz95_9 := blk_frozen BK251.out 9
                have hfz95_10 := blk_frozen BK251.out 10
                try go_wp2_with (first | ((with_reducible refine gate_callee (f := 14) rfl ?_); refine goesL_ (some 39) rfl rfl Try.func14 (by kernel_rfl) rfl #[.agg #[.int .i64 t240, .int .i64 t241, .int .i64 t242, .int .i64 t243, .int .i64 t244, .int .i64 t245, .int .i64 t246, .int .i64 t247, .int .i64 t248, .int .i64 t249, .int .i64 t250]] rfl (by (try simp only [List.map_toArray, List.map_cons, List.map_nil]); first | done | rfl | (simp only [List.length_drop, List.length_take]; rfl)) ?_; (with_reducible refine (tick_Of.calls k1 t240 t241 t242 t243 t244 t245 t246 t247 t248 t249 t250 t252 true _ A66.out (TabOk.below HT0.out (by repeat (first | (with_reducible first | exact HB.out | apply below_alloc | apply pw_below_drewN | apply below_drew1 | refine below_set ?_ GE239.out | refine below_set ?_ GE251.out) | exact HB.out)))).mono ?_); rintro e w96 ⟨rfl, hb⟩; refine ⟨_, rfl, ?_⟩; have n0_ := Aside0.mk (blk_below (g := gb239) (o := .cells #[.int .i64 a1_0, .int .i64 a1_1, .int .i64 a1_2, .int .i64 a1_3, .int .i64 a1_4, .int .i64 a1_5, .int .i64 a1_6, .int .i64 a1_7, .int .i64 a1_8, .int .i64 a1_9, .int .i64 a1_10] 24 (0, 0)) (by (with_reducible repeat (first | refine blk_drewN ?_ _ | refine blk_drew ?_ | refine blk_alloc ?_ _)); exact BK239.out) hb); have n1_ := Aside0.mk (blk_below (g := gb251) (o := .cells #[.int .i64 t240, .int .i64 t241, .int .i64 t242, .int .i64 t243, .int .i64 t244, .int .i64 t245, .int .i64 t246, .int .i64 t247, .int .i64 t248, .int .i64 t249, .int .i64 t250] 24 (0, 0)) (by (with_reducible repeat (first | refine blk_drewN ?_ _ | refine blk_drew ?_ | refine blk_alloc ?_ _)); exact BK251.out) hb); have n2_ := Aside0.mk (below_step (by repeat (first | (with_reducible first | exact HB.out | apply below_alloc | apply pw_below_drewN | apply below_drew1 | refine below_set ?_ GE239.out | refine below_set ?_ GE251.out) | exact HB.out)) hb); clear BK239; clear BK251; clear HB; have BK239 := n0_; have BK251 := n1_; have HB := n2_; clear n0_ n1_ n2_; (try clear hb); (try clear hb2); (try clear hk); (try clear hi); have hcz97_0 : w96.cell? ⟨gb239, 0, none⟩ = some (.int .i64 a1_0) := (blk_cell BK239.out 0).trans rfl; have hcz97_1 : w96.cell? ⟨gb239, 1, none⟩ = some (.int .i64 a1_1) := (blk_cell BK239.out 1).trans rfl; have hcz97_2 : w96.cell? ⟨gb239, 2, none⟩ = some (.int .i64 a1_2) := (blk_cell BK239.out 2).trans rfl; have hcz97_3 : w96.cell? ⟨gb239, 3, none⟩ = some (.int .i64 a1_3) := (blk_cell BK239.out 3).trans rfl; have hcz97_4 : w96.cell? ⟨gb239, 4, none⟩ = some (.int .i64 a1_4) := (blk_cell BK239.out 4).trans rfl; have hcz97_5 : w96.cell? ⟨gb239, 5, none⟩ = some (.int .i64 a1_5) := (blk_cell BK239.out 5).trans rfl; have hcz97_6 : w96.cell? ⟨gb239, 6, none⟩ = some (.int .i64 a1_6) := (blk_cell BK239.out 6).trans rfl; have hcz97_7 : w96.cell? ⟨gb239, 7, none⟩ = some (.int .i64 a1_7) := (blk_cell BK239.out 7).trans rfl; have hcz97_8 : w96.cell? ⟨gb239, 8, none⟩ = some (.int .i64 a1_8) := (blk_cell BK239.out 8).trans rfl; have hcz97_9 : w96.cell? ⟨gb239, 9, none⟩ = some (.int .i64 a1_9) := (blk_cell BK239.out 9).trans rfl; have hcz97_10 : w96.cell? ⟨gb239, 10, none⟩ = some (.int .i64 a1_10) := (blk_cell BK239.out 10).trans rfl; have hfz97_0 := blk_frozen BK239.out 0; have hfz97_1 := blk_frozen BK239.out 1; have hfz97_2 := blk_frozen BK239.out 2; have hfz97_3 := blk_frozen BK239.out 3; have hfz97_4 := blk_frozen BK239.out 4; have hfz97_5 := blk_frozen BK239.out 5; have hfz97_6 := blk_frozen BK239.out 6; have hfz97_7 := blk_frozen BK239.out 7; have hfz97_8 := blk_frozen BK239.out 8; have hfz97_9 := blk_frozen BK239.out 9; have hfz97_10 := blk_frozen BK239.out 10) | ((with_reducible refine gate_callee (f := 14) rfl ?_); refine goesL_ (some 44) rfl rfl Try.func14 (by kernel_rfl) rfl #[.agg #[.int .i64 a1_0, .int .i64 a1_1, .int .i64 a1_2, .int .i64 a1_3, .int .i64 a1_4, .int .i64 a1_5, .int .i64 a1_6, .int .i64 a1_7, .int .i64 a1_8, .int .i64 a1_9, .int .i64 a1_10]] rfl (by (try simp only [List.map_toArray, List.map_cons, List.map_nil]); first | done | rfl | (simp only [List.length_drop, List.length_take]; rfl)) ?_; (with_reducible refine (tick_Of.calls k1 a1_0 a1_1 a1_2 a1_3 a1_4 a1_5 a1_6 a1_7 a1_8 a1_9 a1_10 t254 false _ A67.out (TabOk.below HT0.out (by repeat (first | (with_reducible first | exact HB.out | apply below_alloc | apply pw_below_drewN | apply below_drew1 | refine below_set ?_ GE239.out | refine below_set ?_ GE251.out) | exact HB.out)))).mono ?_); rintro e w98 ⟨rfl, hb⟩; refine ⟨_, rfl, ?_⟩; have n0_ := Aside0.mk (blk_below (g := gb239) (o := .cells #[.int .i64 a1_0, .int .i64 a1_1, .int .i64 a1_2, .int .i64 a1_3, .int .i64 a1_4, .int .i64 a1_5, .int .i64 a1_6, .int .i64 a1_7, .int .i64 a1_8, .int .i64 a1_9, .int .i64 a1_10] 24 (0, 0)) (by (with_reducible repeat (first | refine blk_drewN ?_ _ | refine blk_drew ?_ | refine blk_alloc ?_ _)); exact BK239.out) hb); have n1_ := Aside0.mk (blk_below (g := gb251) (o := .cells #[.int .i64 t240, .int .i64 t241, .int .i64 t242, .int .i64 t243, .int .i64 t244, .int .i64 t245, .int .i64 t246, .int .i64 t247, .int .i64 t248, .int .i64 t249, .int .i64 t250] 24 (0, 0)) (by (with_reducible repeat (first | refine blk_drewN ?_ _ | refine blk_drew ?_ | refine blk_alloc ?_ _)); exact BK251.out) hb); have n2_ := Aside0.mk (below_step (by repeat (first | (with_reducible first | exact HB.out | apply below_alloc | apply pw_below_drewN | apply below_drew1 | refine below_set ?_ GE239.out | refine below_set ?_ GE251.out) | exact HB.out)) hb); clear BK239; clear BK251; clear HB; have BK239 := n0_; have BK251 := n1_; have HB := n2_; clear n0_ n1_ n2_; (try clear hb); (try clear hb2); (try clear hk); (try clear hi)))
                have n0_ := Aside0.mk (blk_drew BK239.out)
                have n1_ := Aside0.mk (blk_drew BK251.out)
                have n2_ := Aside0.mk (below_drew1 HB.out)
                clear BK239
                clear BK251
                clear HB
                have BK239 := n0_
                have BK251 := n1_
                have HB := n2_
                clear n0_ n1_ n2_
                refine start_ (n := 27) (S := fun w' => True) (ds := []) #[false, false, false, false, false, false, false, false, false, false, false, false, false, false, false, false, false, false, false, false, false, false, false, false, false, false, false] (by kernel_rfl) rfl rfl trivial (fun hHeld => ?_); refine with_tabW remontoirlaw01_TickBack.tab9 remontoirlaw01_TickBack.bits9 (fun HT_ HW_ => ?_)
                generalize w98.drew = w99 at BK239 BK251 HB hHeld ⊢
                refine pure_ (i := 0) (N := some 47) (v := ?_) (a' := ?_) #[true, false, false, false, false, false, false, false, false, false, false, false, false, false, false, false, false, false, false, false, false, false, false, false, false, false, false] rfl rfl (any_of HT_.out (by kernel_rfl)) (fun _ _ _ h => h) (Or.inl ⟨by rfl, ?_⟩) ?_ ?_
                rotate_left
                · intro w'
                  go_simp
                  with_reducible rfl
                rotate_left
                · simp only [Act.put, List.setIfInBounds_toArray, List.set_cons_zero, List.set_cons_succ, i64_w, i32_w]
                  rfl
                refine pure_ (i := 1) (N := some 48) (v := ?_) (a' := ?_) #[true, true, false, false, false, false, false, false, false, false, false, false, false, false, false, false, false, false, false, false, false, false, false, false, false, false, false] rfl rfl (any_of HT_.out (by kernel_rfl)) (fun _ _ _ h => h) (Or.inl ⟨by rfl, ?_⟩) ?_ ?_
                rotate_left
                · intro w'
                  go_simp
                  with_reducible rfl
                rotate_left
                · simp only [Act.put, List.setIfInBounds_toArray, List.set_cons_zero, List.set_cons_succ, i64_w, i32_w]
                  rfl
                refine pure_ (i := 2) (N := some 49) (v := ?_) (a' := ?_) #[true, true, true, false, false, false, false, false, false, false, false, false, false, false, false, false, false, false, false, false, false, false, false, false, false, false, false] rfl rfl (any_of HT_.out (by kernel_rfl)) (fun _ _ _ h => h) (Or.inl ⟨by rfl, ?_⟩) ?_ ?_
                rotate_left
                · intro w'
                  go_simp
                  with_reducible rfl
                rotate_left
                · simp only [Act.put, List.setIfInBounds_toArray, List.set_cons_zero, List.set_cons_succ, i64_w, i32_w]
                  rfl
                refine pure_ (i := 3) (N := some 50) (v := ?_) (a' := ?_) #[true, true, true, true, false, false, false, false, false, false, false, false, false, false, false, false, false, false, false, false, false, false, false, false, false, false, false] rfl rfl (any_of HT_.out (by kernel_rfl)) (fun _ _ _ h => h) (Or.inl ⟨by rfl, ?_⟩) ?_ ?_
                rotate_left
                · intro w'
                  go_simp
                  with_reducible rfl
                rotate_left
                · simp only [Act.put, List.setIfInBounds_toArray, List.set_cons_zero, List.set_cons_succ, i64_w, i32_w]
                  rfl
                refine pure_ (i := 4) (N := some 51) (v := ?_) (a' := ?_) #[true, true, true, true, true, false, false, false, false, false, false, false, false, false, false, false, false, false, false, false, false, false, false, false, false, false, false] rfl rfl (any_of HT_.out (by kernel_rfl)) (fun _ _ _ h => h) (Or.inl ⟨by rfl, ?_⟩) ?_ ?_
                rotate_left
                · intro w'
                  go_simp
                  with_reducible rfl
                rotate_left
                · simp only [Act.put, List.setIfInBounds_toArray, List.set_cons_zero, List.set_cons_succ, i64_w, i32_w]
                  rfl
                refine pure_ (i := 5) (N := some 52) (v := ?_) (a' := ?_) #[true, true, true, true, true, true, false, false, false, false, false, false, false, false, false, false, false, false, false, false, false, false, false, false, false, false, false] rfl rfl (any_of HT_.out (by kernel_rfl)) (fun _ _ _ h => h) (Or.inl ⟨by rfl, ?_⟩) ?_ ?_
                rotate_left
                · intro w'
                  go_simp
                  with_reducible rfl
                rotate_left
                · simp only [Act.put, List.setIfInBounds_toArray, List.set_cons_zero, List.set_cons_succ, i64_w, i32_w]
                  rfl
                refine pure_ (i := 6) (N := some 53) (v := ?_) (a' := ?_) #[true, true, true, true, true, true, true, false, false, false, false, false, false, false, false, false, false, false, false, false, false, false, false, false, false, false, false] rfl rfl (any_of HT_.out (by kernel_rfl)) (fun _ _ _ h => h) (Or.inl ⟨by rfl, ?_⟩) ?_ ?_
                rotate_left
                · intro w'
                  go_simp
                  with_reducible rfl
                rotate_left
                · simp only [Act.put, List.setIfInBounds_toArray, List.set_cons_zero, List.set_cons_succ, i64_w, i32_w]
                  rfl
                refine pure_ (i := 7) (N := some 54) (v := ?_) (a' := ?_) #[true, true, true, true, true, true, true, true, false, false, false, false, false, false, false, false, false, false, false, false, false, false, false, false, false, false, false] rfl rfl (any_of HT_.out (by kernel_rfl)) (fun _ _ _ h => h) (Or.inl ⟨by rfl, ?_⟩) ?_ ?_
                rotate_left
                · intro w'
                  go_simp
                  with_reducible rfl
                rotate_left
                · simp only [Act.put, List.setIfInBounds_toArray, List.set_cons_zero, List.set_cons_succ, i64_w, i32_w]
                  rfl
                refine pure_ (i := 8) (N := some 55) (v := ?_) (a' := ?_) #[true, true, true, true, true, true, true, true, true, false, false, false, false, false, false, false, false, false, false, false, false, false, false, false, false, false, false] rfl rfl (any_of HT_.out (by kernel_rfl)) (fun _ _ _ h => h) (Or.inl ⟨by rfl, ?_⟩) ?_ ?_
                rotate_left
                · intro w'
                  go_simp
                  with_reducible rfl
                rotate_left
                · simp only [Act.put, List.setIfInBounds_toArray, List.set_cons_zero, List.set_cons_succ, i64_w, i32_w]
                  rfl
                refine pure_ (i := 9) (N := some 56) (v := ?_) (a' := ?_) #[true, true, true, true, true, true, true, true, true, true, false, false, false, false, false, false, false, false, false, false, false, false, false, false, false, false, false] rfl rfl (any_of HT_.out (by kernel_rfl)) (fun _ _ _ h => h) (Or.inl ⟨by rfl, ?_⟩) ?_ ?_
                rotate_left
                · intro w'
                  go_simp
                  with_reducible rfl
                rotate_left
                · simp only [Act.put, List.setIfInBounds_toArray, List.set_cons_zero, List.set_cons_succ, i64_w, i32_w]
                  rfl
                refine pure_ (i := 10) (N := some 57) (v := ?_) (a' := ?_) #[true, true, true, true, true, true, true, true, true, true, true, false, false, false, false, false, false, false, false, false, false, false, false, false, false, false, false] rfl rfl (any_of HT_.out (by kernel_rfl)) (fun _ _ _ h => h) (Or.inl ⟨by rfl, ?_⟩) ?_ ?_
                rotate_left
                · intro w'
                  go_simp
                  with_reducible rfl
                rotate_left
                · simp only [Act.put, List.setIfInBounds_toArray, List.set_cons_zero, List.set_cons_succ, i64_w, i32_w]
                  rfl
                refine pure_ (i := 11) (N := some 58) (v := ?_) (a' := ?_) #[true, true, true, true, true, true, true, true, true, true, true, true, false, false, false, false, false, false, false, false, false, false, false, false, false, false, false] rfl rfl (any_of HT_.out (by kernel_rfl)) (fun _ _ _ h => h) (Or.inl ⟨by rfl, ?_⟩) ?_ ?_
                rotate_left
                · intro w'
                  go_simp
                  with_reducible rfl
                rotate_left
                · simp only [Act.put, List.setIfInBounds_toArray, List.set_cons_zero, List.set_cons_succ, i64_w, i32_w]
                  rfl
                refine pure_ (i := 12) (N := some 59) (v := ?_) (a' := ?_) #[true, true, true, true, true, true, true, true, true, true, true, true, true, false, false, false, false, false, false, false, false, false, false, false, false, false, false] rfl rfl (any_of HT_.out (by kernel_rfl)) (fun _ _ _ h => h) (Or.inl ⟨by rfl, ?_⟩) ?_ ?_
                rotate_left
                · intro w'
                  go_simp
                  with_reducible rfl
                rotate_left
                · simp only [Act.put, List.setIfInBounds_toArray, List.set_cons_zero, List.set_cons_succ, i64_w, i32_w]
                  rfl
                refine pure_ (i := 13) (N := some 60) (v := ?_) (a' := ?_) #[true, true, true, true, true, true, true, true, true, true, true, true, true, true, false, false, false, false, false, false, false, false, false, false, false, false, false] rfl rfl (any_of HT_.out (by kernel_rfl)) (fun _ _ _ h => h) (Or.inl ⟨by rfl, ?_⟩) ?_ ?_
                rotate_left
                · intro w'
                  go_simp
                  with_reducible rfl
                rotate_left
                · simp only [Act.put, List.setIfInBounds_toArray, List.set_cons_zero, List.set_cons_succ, i64_w, i32_w]
                  rfl
                refine pure_ (i := 14) (N := some 61) (v := undef) (a' := ?_) #[true, true, true, true, true, true, true, true, true, true, true, true, true, true, true, false, false, false, false, false, false, false, false, false, false, false, false] rfl rfl (any_of HT_.out (by kernel_rfl)) (fun _ _ _ h => h) (Or.inr ⟨by rfl, rfl⟩) ?_ ?_
                rotate_left
                · simp only [Act.put, List.setIfInBounds_toArray, List.set_cons_zero, List.set_cons_succ, i64_w, i32_w]
                  rfl
                refine pure_ (i := 15) (N := some 62) (v := undef) (a' := ?_) #[true, true, true, true, true, true, true, true, true, true, true, true, true, true, true, true, false, false, false, false, false, false, false, false, false, false, false] rfl rfl (any_of HT_.out (by kernel_rfl)) (fun _ _ _ h => h) (Or.inr ⟨by rfl, rfl⟩) ?_ ?_
                rotate_left
                · simp only [Act.put, List.setIfInBounds_toArray, List.set_cons_zero, List.set_cons_succ, i64_w, i32_w]
                  rfl
                refine pure_ (i := 16) (N := some 63) (v := undef) (a' := ?_) #[true, true, true, true, true, true, true, true, true, true, true, true, true, true, true, true, true, false, false, false, false, false, false, false, false, false, false] rfl rfl (any_of HT_.out (by kernel_rfl)) (fun _ _ _ h => h) (Or.inr ⟨by rfl, rfl⟩) ?_ ?_
                rotate_left
                · simp only [Act.put, List.setIfInBounds_toArray, List.set_cons_zero, List.set_cons_succ, i64_w, i32_w]
                  rfl
                refine pure_ (i := 17) (N := some 64) (v := undef) (a' := ?_) #[true, true, true, true, true, true, true, true, true, true, true, true, true, true, true, true, true, true, false, false, false, false, false, false, false, false, false] rfl rfl (any_of HT_.out (by kernel_rfl)) (fun _ _ _ h => h) (Or.inr ⟨by rfl, rfl⟩) ?_ ?_
                rotate_left
                · simp only [Act.put, List.setIfInBounds_toArray, List.set_cons_zero, List.set_cons_succ, i64_w, i32_w]
                  rfl
                refine pure_ (i := 18) (N := some 65) (v := undef) (a' := ?_) #[true, true, true, true, true, true, true, true, true, true, true, true, true, true, true, true, true, true, true, false, false, false, false, false, false, false, false] rfl rfl (any_of HT_.out (by kernel_rfl)) (fun _ _ _ h => h) (Or.inr ⟨by rfl, rfl⟩) ?_ ?_
                rotate_left
                · simp only [Act.put, List.setIfInBounds_toArray, List.set_cons_zero, List.set_cons_succ, i64_w, i32_w]
                  rfl
                refine pure_ (i := 19) (N := some 66) (v := undef) (a' := ?_) #[true, true, true, true, true, true, true, true, true, true, true, true, true, true, true, true, true, true, true, true, false, false, false, false, false, false, false] rfl rfl (any_of HT_.out (by kernel_rfl)) (fun _ _ _ h => h) (Or.inr ⟨by rfl, rfl⟩) ?_ ?_
                rotate_left
                · simp only [Act.put, List.setIfInBounds_toArray, List.set_cons_zero, List.set_cons_succ, i64_w, i32_w]
                  rfl
                refine pure_ (i := 20) (N := some 67) (v := undef) (a' := ?_) #[true, true, true, true, true, true, true, true, true, true, true, true, true, true, true, true, true, true, true, true, true, false, false, false, false, false, false] rfl rfl (any_of HT_.out (by kernel_rfl)) (fun _ _ _ h => h) (Or.inr ⟨by rfl, rfl⟩) ?_ ?_
                rotate_left
                · simp only [Act.put, List.setIfInBounds_toArray, List.set_cons_zero, List.set_cons_succ, i64_w, i32_w]
                  rfl
                refine pure_ (i := 21) (N := some 68) (v := ?_) (a' := ?_) #[true, true, true, true, true, true, true, true, true, true, true, true, true, true, true, true, true, true, true, true, true, true, false, false, false, false, false] rfl rfl (any_of HT_.out (by kernel_rfl)) (fun _ _ _ h => h) (Or.inl ⟨by rfl, ?_⟩) ?_ ?_
                rotate_left
                · intro w'
                  go_simp
                  with_reducible rfl
                rotate_left
                · simp only [Act.put, List.setIfInBounds_toArray, List.set_cons_zero, List.set_cons_succ, i64_w, i32_w]
                  rfl
                refine pure_ (i := 22) (N := some 69) (v := ?_) (a' := ?_) #[true, true, true, true, true, true, true, true, true, true, true, true, true, true, true, true, true, true, true, true, true, true, true, false, false, false, false] rfl rfl (any_of HT_.out (by kernel_rfl)) (fun _ _ _ h => h) (Or.inl ⟨by rfl, ?_⟩) ?_ ?_
                rotate_left
                · intro w'
                  go_simp
                  with_reducible rfl
                rotate_left
                · simp only [Act.put, List.setIfInBounds_toArray, List.set_cons_zero, List.set_cons_succ, i64_w, i32_w]
                  rfl
                refine pure_ (i := 23) (N := some 70) (v := ?_) (a' := ?_) #[true, true, true, true, true, true, true, true, true, true, true, true, true, true, true, true, true, true, true, true, true, true, true, true, false, false, false] rfl rfl (any_of HT_.out (by kernel_rfl)) (fun _ _ _ h => h) (Or.inl ⟨by rfl, ?_⟩) ?_ ?_
                rotate_left
                · intro w'
                  go_simp
                  with_reducible rfl
                rotate_left
                · simp only [Act.put, List.setIfInBounds_toArray, List.set_cons_zero, List.set_cons_succ, i64_w, i32_w]
                  rfl
                refine one_ (i := 24) (N := some 71) #[true, true, true, true, true, true, true, true, true, true, true, true, true, true, true, true, true, true, true, true, true, true, true, true, true, false, false] rfl rfl (one_of HT_.out (by kernel_rfl)) (by decide) (fun K hK => ?_)
                refine goes_ Try.func10 (by kernel_rfl) rfl #[] (by rfl) rfl rfl (by (try simp only [List.map_toArray, List.map_cons, List.map_nil]); first | done | rfl | (simp only [List.length_drop, List.length_take]; rfl)) ?_
                with_reducible refine (remontoirlaw01_wakes.calls k1  t268 _ A93.out (TabOk.below HT0.out (by repeat (first | (with_reducible first | exact HB.out | apply below_alloc | apply pw_below_drewN | apply below_drew1 | refine below_set ?_ GE239.out | refine below_set ?_ GE251.out) | exact HB.out)))).mono ?_
                rintro e w100 ⟨rfl, hb⟩
                refine ⟨_, rfl, ?_⟩
                have n0_ := Aside0.mk (blk_below (g := gb239) (o := .cells #[.int .i64 a1_0, .int .i64 a1_1, .int .i64 a1_2, .int .i64 a1_3, .int .i64 a1_4, .int .i64 a1_5, .int .i64 a1_6, .int .i64 a1_7, .int .i64 a1_8, .int .i64 a1_9, .int .i64 a1_10] 24 (0, 0)) (by (with_reducible repeat (first | refine blk_drewN ?_ _ | refine blk_drew ?_ | refine blk_alloc ?_ _)); exact BK239.out) hb)
                have n1_ := Aside0.mk (blk_below (g := gb251) (o := .cells #[.int .i64 t240, .int .i64 t241, .int .i64 t242, .int .i64 t243, .int .i64 t244, .int .i64 t245, .int .i64 t246, .int .i64 t247, .int .i64 t248, .int .i64 t249, .int .i64 t250] 24 (0, 0)) (by (with_reducible repeat (first | refine blk_drewN ?_ _ | refine blk_drew ?_ | refine blk_alloc ?_ _)); exact BK251.out) hb)
                have n2_ := Aside0.mk (below_step (by repeat (first | (with_reducible first | exact HB.out | apply below_alloc | apply pw_below_drewN | apply below_drew1 | refine below_set ?_ GE239.out | refine below_set ?_ GE251.out) | exact HB.out)) hb)
                clear BK239
                clear BK251
                clear HB
                have BK239 := n0_
                have BK251 := n1_
                have HB := n2_
                clear n0_ n1_ n2_
                (try clear hb)
                (try clear hb2)
                (try clear hk)
                (try clear hi)
                refine hK.out _ _ trivial (fun hHeld => ?_)
                clear hK K
                refine norm_ (a' := ?_) ?_ ?_
                rotate_left
                · show Act.put _ (some 71) _ = _
                  simp only [Act.put, List.setIfInBounds_toArray, List.set_cons_zero, List.set_cons_succ, i64_w, i32_w]
                  rfl
                refine pure_ (i := 25) (N := some 72) (v := ?_) (a' := ?_) #[true, true, true, true, true, true, true, true, true, true, true, true, true, true, true, true, true, true, true, true, true, true, true, true, true, true, false] rfl rfl (any_of HT_.out (by kernel_rfl)) (fun _ _ _ h => h) (Or.inl ⟨by rfl, ?_⟩) ?_ ?_
                rotate_left
                · intro w'
                  go_simp
                  with_reducible rfl
                rotate_left
                · simp only [Act.put, List.setIfInBounds_toArray, List.set_cons_zero, List.set_cons_succ, i64_w, i32_w]
                  rfl
                refine pure_ (i := 26) (N := some 4) (v := ?_) (a' := ?_) #[true, true, true, true, true, true, true, true, true, true, true, true, true, true, true, true, true, true, true, true, true, true, true, true, true, true, true] rfl rfl (any_of HT_.out (by kernel_rfl)) (fun _ _ _ h => h) (Or.inl ⟨by rfl, ?_⟩) ?_ ?_
                rotate_left
                · intro w'
                  go_simp
                  with_reducible rfl
                rotate_left
                · simp only [Act.put, List.setIfInBounds_toArray, List.set_cons_zero, List.set_cons_succ, i64_w, i32_w]
                  rfl
                refine done_ (done_of HT_.out (by kernel_rfl)) ?_
                try go_wp2
                go_ret
                exact ⟨by first | rfl | (simp [errW_none, errW_some] <;> rfl) | (simp [*, errW_none, errW_some] <;> rfl), by repeat (first | (with_reducible first | exact HB.out | apply below_alloc | apply pw_below_drewN | apply below_drew1 | refine below_set ?_ GE239.out | refine below_set ?_ GE251.out) | exact HB.out)⟩
              · rw [if_neg c92] at H
                exact absurd H (by simp)
          · rw [if_neg c69] at H
            exact absurd H (by simp)
        · replace c68 := Bool.eq_false_iff.mpr c68
          subst c68
          have H1 : (none) = some r := by rw [if_neg (show ¬ (false = true) by decide)] at H; exact H
          clear H
          have H := H1
          clear H1
          exact absurd H (by simp)

end Go.Proofs.Ytfkknipkfcmiaaa.PAll
