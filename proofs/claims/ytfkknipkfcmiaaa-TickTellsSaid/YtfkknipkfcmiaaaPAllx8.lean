-- Printed by a program of ours (wip/common/mkprint.py), turned from the kit's print; Lean checks it.
import Derived.Test.YtfkknipkfcmiaaaPAllx0
import Derived.Test.YtfkknipkfcmiaaaPAllx6
namespace Go.Proofs.Ytfkknipkfcmiaaa.PAll
open Go.Proofs.Ytfkknipkfcmiaaa.Add
open Go.RowKit Go.Proofs.YtfkknipkfcmiaaaW.PrintWords Go.Proofs.YtfkknipkfcmiaaaW.PrintLast Go.Proofs.YtfkknipkfcmiaaaW.PrintMore
attribute [local go_sem] max2_int min2_int max_two min_two max_three min_three max_four min_four   -- for this text's walks alone
set_option linter.unusedVariables false
set_option linter.unusedSimpArgs false

/-! ### remontoirref01_Held: function 18 -/
def remontoirref01_Held.f (a0 : Int) (a1 : Int) : Option (Int) := (remontoirref01_Sum.f a0 a1).bind fun bt273 => (if bt273.2 = true then (some bt273.1) else (some 18446744073709551615))
set_option maxHeartbeats 8000000 in
set_option maxRecDepth 100000 in
theorem remontoirref01_Held.calls (a0 : Int) (a1 : Int) (r : Int) (w : World) (h : remontoirref01_Held.f a0 a1 = some r) :
    Calls Try.prog 18 #[.int .u64 a0, .int .u64 a1] w fun e w' => e = .returned (.int .u64 r) ∧ Below w.heap.size w w' := by
  have hu36 := Try.underlying36
  have HB := Aside0.mk (Below.refl w.heap.size w)
  have H : ((remontoirref01_Sum.f a0 a1).bind fun bt273 => (if bt273.2 = true then (some bt273.1) else (some 18446744073709551615))) = some r := h
  clear h
  replace H := Option.bind_eq_some_iff.mp H
  obtain ⟨⟨t273, t274⟩, A30, H⟩ := H
  replace H : (if t274 = true then (some t273) else (some 18446744073709551615)) = some r := H
  have A3 := Aside0.mk A30
  clear A30
  by_cases c4 : t274 = true
  · subst c4
    have H1 : (some t273) = some r := by rw [if_pos rfl] at H; exact H
    clear H
    have H := H1
    clear H1
    obtain rfl := Option.some.inj H
    go_enter Try.func18, Try.ntmps18
    go_wp2_with (first | ((with_reducible refine gate_callee (f := 15) rfl ?_); refine goesL_ (some 8) rfl rfl Try.func15 (by kernel_rfl) rfl #[.int .u64 a0, .int .u64 a1] rfl (by (try simp only [List.map_toArray, List.map_cons, List.map_nil]); first | done | rfl | (simp only [List.length_drop, List.length_take]; rfl)) ?_; (with_reducible refine (remontoirref01_Sum.calls a0 a1 t273 true _ A3.out).mono ?_); rintro e w5 ⟨rfl, hb⟩; refine ⟨_, rfl, ?_⟩; have n0_ := Aside0.mk (below_step (by repeat (first | (with_reducible first | exact HB.out | apply below_alloc | apply pw_below_drewN | apply below_drew1) | exact HB.out)) hb); clear HB; have HB := n0_; clear n0_; (try clear hb); (try clear hb2); (try clear hk); (try clear hi)) | ((with_reducible refine gate_dst (N := 5) rfl ?_); refine box_event ?hg (N := 5) ?hd (cs := #[.int .u64 0, .bool false]) (t := 36) ?hr ?_; (case hd => rfl); (case hg => rfl); (case hr => first | (go_simp; done) | (go_simp; rfl)); intro gb275 hg w6 hbox hb; have n0_ := Aside0.mk (below_step (by repeat (first | (with_reducible first | exact HB.out | apply below_alloc | apply pw_below_drewN | apply below_drew1) | exact HB.out)) hb); have n1_ := Aside0.mk (hbox); have n2_ := Aside0.mk ((by rw [hg]; exact (below_size (by repeat (first | (with_reducible first | exact HB.out | apply below_alloc | apply pw_below_drewN | apply below_drew1) | exact HB.out))) : w.heap.size ≤ gb275)); have n3_ := Aside0.mk ((by rw [hg]; exact (below_size (by repeat (first | (with_reducible first | exact HB.out | apply below_alloc | apply pw_below_drewN | apply below_drew1) | exact HB.out))) : w.heap.size ≤ gb275)); clear HB; have HB := n0_; have BK275 := n1_; have GW275 := n2_; have GE275 := n3_; clear n0_ n1_ n2_ n3_; clear hb hbox hg; have hcz7_0 : w6.cell? ⟨gb275, 0, none⟩ = some (.int .u64 0) := (blk_cell BK275.out 0).trans rfl; have hcz7_1 : w6.cell? ⟨gb275, 1, none⟩ = some (.bool false) := (blk_cell BK275.out 1).trans rfl; have hfz7_0 := blk_frozen BK275.out 0; have hfz7_1 := blk_frozen BK275.out 1))
    go_ret
    exact ⟨by first | rfl | (simp [errW_none, errW_some] <;> rfl) | (simp [*, errW_none, errW_some] <;> rfl), by repeat (first | (with_reducible first | exact HB.out | apply below_alloc | apply pw_below_drewN | apply below_drew1 | refine below_set ?_ GE275.out) | exact HB.out)⟩
  · replace c4 := Bool.eq_false_iff.mpr c4
    subst c4
    have H1 : (some 18446744073709551615) = some r := by rw [if_neg (show ¬ (false = true) by decide)] at H; exact H
    clear H
    have H := H1
    clear H1
    obtain rfl := Option.some.inj H
    go_enter Try.func18, Try.ntmps18
    go_wp2_with (first | ((with_reducible refine gate_callee (f := 15) rfl ?_); refine goesL_ (some 8) rfl rfl Try.func15 (by kernel_rfl) rfl #[.int .u64 a0, .int .u64 a1] rfl (by (try simp only [List.map_toArray, List.map_cons, List.map_nil]); first | done | rfl | (simp only [List.length_drop, List.length_take]; rfl)) ?_; (with_reducible refine (remontoirref01_Sum.calls a0 a1 t273 false _ A3.out).mono ?_); rintro e w8 ⟨rfl, hb⟩; refine ⟨_, rfl, ?_⟩; have n0_ := Aside0.mk (below_step (by repeat (first | (with_reducible first | exact HB.out | apply below_alloc | apply pw_below_drewN | apply below_drew1) | exact HB.out)) hb); clear HB; have HB := n0_; clear n0_; (try clear hb); (try clear hb2); (try clear hk); (try clear hi)) | ((with_reducible refine gate_dst (N := 5) rfl ?_); refine box_event ?hg (N := 5) ?hd (cs := #[.int .u64 0, .bool false]) (t := 36) ?hr ?_; (case hd => rfl); (case hg => rfl); (case hr => first | (go_simp; done) | (go_simp; rfl)); intro gb275 hg w9 hbox hb; have n0_ := Aside0.mk (below_step (by repeat (first | (with_reducible first | exact HB.out | apply below_alloc | apply pw_below_drewN | apply below_drew1) | exact HB.out)) hb); have n1_ := Aside0.mk (hbox); have n2_ := Aside0.mk ((by rw [hg]; exact (below_size (by repeat (first | (with_reducible first | exact HB.out | apply below_alloc | apply pw_below_drewN | apply below_drew1) | exact HB.out))) : w.heap.size ≤ gb275)); have n3_ := Aside0.mk ((by rw [hg]; exact (below_size (by repeat (first | (with_reducible first | exact HB.out | apply below_alloc | apply pw_below_drewN | apply below_drew1) | exact HB.out))) : w.heap.size ≤ gb275)); clear HB; have HB := n0_; have BK275 := n1_; have GW275 := n2_; have GE275 := n3_; clear n0_ n1_ n2_ n3_; clear hb hbox hg; have hcz10_0 : w9.cell? ⟨gb275, 0, none⟩ = some (.int .u64 0) := (blk_cell BK275.out 0).trans rfl; have hcz10_1 : w9.cell? ⟨gb275, 1, none⟩ = some (.bool false) := (blk_cell BK275.out 1).trans rfl; have hfz10_0 := blk_frozen BK275.out 0; have hfz10_1 := blk_frozen BK275.out 1))
    go_ret
    exact ⟨by first | rfl | (simp [errW_none, errW_some] <;> rfl) | (simp [*, errW_none, errW_some] <;> rfl), by repeat (first | (with_reducible first | exact HB.out | apply below_alloc | apply pw_below_drewN | apply below_drew1 | refine below_set ?_ GE275.out) | exact HB.out)⟩

/-! ### remontoirref01_Digits: function 19 -/
def remontoirref01_Digits.l0 : Nat → Int → Int → Int → Int → Int → Int → Int → Int → Int → Int → Int → Int → Int → Option (Int × Int × Int × Int × Int × Int × Int × Int × Int × Int × Int)
  | 0, _, _, _, _, _, _, _, _, _, _, _, _, _ => none
  | k + 1, x0, x4, x278000, x278001, x278002, x278003, x278004, x278005, x278006, x278007, x278008, x278009, x278010 => if x4 < 11 then (if x4 = 0 then (remontoirref01_Digits.l0 k (IntKind.u64.wrap (Int.tdiv x0 64)) (wrap64 (x4 + 1)) (wrap64 (Int.tmod x0 64)) x278001 x278002 x278003 x278004 x278005 x278006 x278007 x278008 x278009 x278010) else (if x4 = 1 then (remontoirref01_Digits.l0 k (IntKind.u64.wrap (Int.tdiv x0 64)) (wrap64 (x4 + 1)) x278000 (wrap64 (Int.tmod x0 64)) x278002 x278003 x278004 x278005 x278006 x278007 x278008 x278009 x278010) else (if x4 = 2 then (remontoirref01_Digits.l0 k (IntKind.u64.wrap (Int.tdiv x0 64)) (wrap64 (x4 + 1)) x278000 x278001 (wrap64 (Int.tmod x0 64)) x278003 x278004 x278005 x278006 x278007 x278008 x278009 x278010) else (if x4 = 3 then (remontoirref01_Digits.l0 k (IntKind.u64.wrap (Int.tdiv x0 64)) (wrap64 (x4 + 1)) x278000 x278001 x278002 (wrap64 (Int.tmod x0 64)) x278004 x278005 x278006 x278007 x278008 x278009 x278010) else (if x4 = 4 then (remontoirref01_Digits.l0 k (IntKind.u64.wrap (Int.tdiv x0 64)) (wrap64 (x4 + 1)) x278000 x278001 x278002 x278003 (wrap64 (Int.tmod x0 64)) x278005 x278006 x278007 x278008 x278009 x278010) else (if x4 = 5 then (remontoirref01_Digits.l0 k (IntKind.u64.wrap (Int.tdiv x0 64)) (wrap64 (x4 + 1)) x278000 x278001 x278002 x278003 x278004 (wrap64 (Int.tmod x0 64)) x278006 x278007 x278008 x278009 x278010) else (if x4 = 6 then (remontoirref01_Digits.l0 k (IntKind.u64.wrap (Int.tdiv x0 64)) (wrap64 (x4 + 1)) x278000 x278001 x278002 x278003 x278004 x278005 (wrap64 (Int.tmod x0 64)) x278007 x278008 x278009 x278010) else (if x4 = 7 then (remontoirref01_Digits.l0 k (IntKind.u64.wrap (Int.tdiv x0 64)) (wrap64 (x4 + 1)) x278000 x278001 x278002 x278003 x278004 x278005 x278006 (wrap64 (Int.tmod x0 64)) x278008 x278009 x278010) else (if x4 = 8 then (remontoirref01_Digits.l0 k (IntKind.u64.wrap (Int.tdiv x0 64)) (wrap64 (x4 + 1)) x278000 x278001 x278002 x278003 x278004 x278005 x278006 x278007 (wrap64 (Int.tmod x0 64)) x278009 x278010) else (if x4 = 9 then (remontoirref01_Digits.l0 k (IntKind.u64.wrap (Int.tdiv x0 64)) (wrap64 (x4 + 1)) x278000 x278001 x278002 x278003 x278004 x278005 x278006 x278007 x278008 (wrap64 (Int.tmod x0 64)) x278010) else (if x4 = 10 then (remontoirref01_Digits.l0 k (IntKind.u64.wrap (Int.tdiv x0 64)) (wrap64 (x4 + 1)) x278000 x278001 x278002 x278003 x278004 x278005 x278006 x278007 x278008 x278009 (wrap64 (Int.tmod x0 64))) else (none)))))))))))) else (some (x278000, x278001, x278002, x278003, x278004, x278005, x278006, x278007, x278008, x278009, x278010))
def remontoirref01_Digits.f (k : Nat) (a0 : Int) : Option (Int × Int × Int × Int × Int × Int × Int × Int × Int × Int × Int) := remontoirref01_Digits.l0 k a0 0 0 0 0 0 0 0 0 0 0 0 0
theorem remontoirref01_Digits.mono_l : ∀ k, (∀ y0 y1 y2 y3 y4 y5 y6 y7 y8 y9 y10 y11 y12, LeO (remontoirref01_Digits.l0 k y0 y1 y2 y3 y4 y5 y6 y7 y8 y9 y10 y11 y12) (remontoirref01_Digits.l0 (k + 1) y0 y1 y2 y3 y4 y5 y6 y7 y8 y9 y10 y11 y12))
  | 0 => fun _ _ _ _ _ _ _ _ _ _ _ _ _ r h => by simp [remontoirref01_Digits.l0] at h
  | k + 1 => by
    have ih0 := remontoirref01_Digits.mono_l k
    · intro y0 y1 y2 y3 y4 y5 y6 y7 y8 y9 y10 y11 y12
      unfold remontoirref01_Digits.l0
      repeat' first
      | (with_reducible exact ih0 _ _ _ _ _ _ _ _ _ _ _ _ _)
      | (with_reducible exact LeO.refl _)
      | (with_reducible exact LeO.none _)
      | (with_reducible refine LeO.ite ?_ ?_)
      | (with_reducible refine LeO.bind ?_ (fun _ => ?_))
      | exact ih0 _ _ _ _ _ _ _ _ _ _ _ _ _
      | exact LeO.none _
      | refine LeO.ite ?_ ?_
      | refine LeO.bind ?_ (fun _ => ?_)
theorem remontoirref01_Digits.mono : ∀ a0 k, LeO (remontoirref01_Digits.f k a0) (remontoirref01_Digits.f (k + 1) a0) := by
  intro a0 k
  have ih0 := remontoirref01_Digits.mono_l k
  unfold remontoirref01_Digits.f
  repeat' first
      | (with_reducible exact ih0 _ _ _ _ _ _ _ _ _ _ _ _ _)
      | (with_reducible exact LeO.refl _)
      | (with_reducible exact LeO.none _)
      | (with_reducible refine LeO.ite ?_ ?_)
      | (with_reducible refine LeO.bind ?_ (fun _ => ?_))
      | exact ih0 _ _ _ _ _ _ _ _ _ _ _ _ _
      | exact LeO.none _
      | refine LeO.ite ?_ ?_
      | refine LeO.bind ?_ (fun _ => ?_)
set_option maxHeartbeats 8000000 in
set_option maxRecDepth 100000 in
theorem remontoirref01_Digits.calls (k : Nat) (a0 : Int) (r1 : Int) (r2 : Int) (r3 : Int) (r4 : Int) (r5 : Int) (r6 : Int) (r7 : Int) (r8 : Int) (r9 : Int) (r10 : Int) (r11 : Int) (w : World) (h : remontoirref01_Digits.f k a0 = some (r1, r2, r3, r4, r5, r6, r7, r8, r9, r10, r11)) :
    Calls Try.prog 19 #[.int .u64 a0] w fun e w' => e = .returned (.agg #[.int .i64 r1, .int .i64 r2, .int .i64 r3, .int .i64 r4, .int .i64 r5, .int .i64 r6, .int .i64 r7, .int .i64 r8, .int .i64 r9, .int .i64 r10, .int .i64 r11]) ∧ Below w.heap.size w w' := by
  have hu24 := Try.underlying24
  have HB := Aside0.mk (Below.refl w.heap.size w)
  have H : (remontoirref01_Digits.l0 k a0 0 0 0 0 0 0 0 0 0 0 0 0) = some (r1, r2, r3, r4, r5, r6, r7, r8, r9, r10, r11) := h
  clear h
  have H' := Aside0.mk H
  clear H
  go_enter Try.func19, Try.ntmps19
  go_wp2_with (first | ((with_reducible refine gate_dst (N := 2) rfl ?_); refine box_event ?hg (N := 2) ?hd (cs := #[.int .i64 0, .int .i64 0, .int .i64 0, .int .i64 0, .int .i64 0, .int .i64 0, .int .i64 0, .int .i64 0, .int .i64 0, .int .i64 0, .int .i64 0]) (t := 24) ?hr ?_; (case hd => rfl); (case hg => rfl); (case hr => first | (go_simp; done) | (go_simp; rfl)); intro gb276 hg w2 hbox hb; have n0_ := Aside0.mk (below_step (by repeat (first | (with_reducible first | exact HB.out | apply below_alloc | apply pw_below_drewN | apply below_drew1) | exact HB.out)) hb); have n1_ := Aside0.mk (hbox); have n2_ := Aside0.mk ((by rw [hg]; exact (below_size (by repeat (first | (with_reducible first | exact HB.out | apply below_alloc | apply pw_below_drewN | apply below_drew1) | exact HB.out))) : w.heap.size ≤ gb276)); have n3_ := Aside0.mk ((by rw [hg]; exact (below_size (by repeat (first | (with_reducible first | exact HB.out | apply below_alloc | apply pw_below_drewN | apply below_drew1) | exact HB.out))) : w.heap.size ≤ gb276)); clear HB; have HB := n0_; have BK276 := n1_; have GW276 := n2_; have GE276 := n3_; clear n0_ n1_ n2_ n3_; clear hb hbox hg) | ((with_reducible refine gate_dst (N := 3) rfl ?_); refine box_event ?hg (N := 3) ?hd (cs := #[.int .i64 0, .int .i64 0, .int .i64 0, .int .i64 0, .int .i64 0, .int .i64 0, .int .i64 0, .int .i64 0, .int .i64 0, .int .i64 0, .int .i64 0]) (t := 24) ?hr ?_; (case hd => rfl); (case hg => rfl); (case hr => first | (go_simp; done) | (go_simp; rfl)); intro gb277 hg w3 hbox hb; have n0_ := Aside0.mk (blk_below (g := gb276) (o := .cells #[.int .i64 0, .int .i64 0, .int .i64 0, .int .i64 0, .int .i64 0, .int .i64 0, .int .i64 0, .int .i64 0, .int .i64 0, .int .i64 0, .int .i64 0] 24 (0, 0)) (by (with_reducible repeat (first | refine blk_drewN ?_ _ | refine blk_drew ?_ | refine blk_alloc ?_ _)); exact BK276.out) hb); have n1_ := Aside0.mk (below_step (by repeat (first | (with_reducible first | exact HB.out | apply below_alloc | apply pw_below_drewN | apply below_drew1 | refine below_set ?_ GE276.out) | exact HB.out)) hb); have n2_ := Aside0.mk (hbox); have n3_ := Aside0.mk ((by rw [hg]; exact (below_size (by repeat (first | (with_reducible first | exact HB.out | apply below_alloc | apply pw_below_drewN | apply below_drew1 | refine below_set ?_ GE276.out) | exact HB.out))) : w.heap.size ≤ gb277)); have n4_ := Aside0.mk ((by rw [hg]; exact (below_size (by repeat (first | (with_reducible first | exact HB.out | apply below_alloc | apply pw_below_drewN | apply below_drew1 | refine below_set ?_ GE276.out) | exact HB.out))) : w.heap.size ≤ gb277)); have n5_ := Aside0.mk ((by rw [hg]; exact Nat.ne_of_lt (blk_lt (g := gb276) (o := .cells #[.int .i64 0, .int .i64 0, .int .i64 0, .int .i64 0, .int .i64 0, .int .i64 0, .int .i64 0, .int .i64 0, .int .i64 0, .int .i64 0, .int .i64 0] 24 (0, 0)) (by (with_reducible repeat (first | refine blk_drewN ?_ _ | refine blk_drew ?_ | refine blk_alloc ?_ _)); exact BK276.out)) : gb276 ≠ gb277)); have n6_ := Aside0.mk ((by rw [hg]; exact Nat.ne_of_gt (blk_lt (g := gb276) (o := .cells #[.int .i64 0, .int .i64 0, .int .i64 0, .int .i64 0, .int .i64 0, .int .i64 0, .int .i64 0, .int .i64 0, .int .i64 0, .int .i64 0, .int .i64 0] 24 (0, 0)) (by (with_reducible repeat (first | refine blk_drewN ?_ _ | refine blk_drew ?_ | refine blk_alloc ?_ _)); exact BK276.out)) : gb277 ≠ gb276)); clear BK276; clear HB; have BK276 := n0_; have HB := n1_; have BK277 := n2_; have GW277 := n3_; have GE277 := n4_; have NB276_277 := n5_; have NB277_276 := n6_; clear n0_ n1_ n2_ n3_ n4_ n5_ n6_; clear hb hbox hg))
  go_loopg [0, 4] k (fun kq v0 v4 w' => ∃ (x0_1 : Int) (x4_1 : Int) (x278000_1 : Int) (x278001_1 : Int) (x278002_1 : Int) (x278003_1 : Int) (x278004_1 : Int) (x278005_1 : Int) (x278006_1 : Int) (x278007_1 : Int) (x278008_1 : Int) (x278009_1 : Int) (x278010_1 : Int), v0 = .int .u64 x0_1 ∧ v4 = .int .i64 x4_1 ∧ Aside0 (remontoirref01_Digits.l0 kq x0_1 x4_1 x278000_1 x278001_1 x278002_1 x278003_1 x278004_1 x278005_1 x278006_1 x278007_1 x278008_1 x278009_1 x278010_1 = some (r1, r2, r3, r4, r5, r6, r7, r8, r9, r10, r11)) ∧ Aside0 (kq ≤ k) ∧ Aside0 (w'.heap[gb276]? = some (.cells #[.int .i64 0, .int .i64 0, .int .i64 0, .int .i64 0, .int .i64 0, .int .i64 0, .int .i64 0, .int .i64 0, .int .i64 0, .int .i64 0, .int .i64 0] 24 (0, 0))) ∧ Aside0 (w'.heap[gb277]? = some (.cells #[.int .i64 x278000_1, .int .i64 x278001_1, .int .i64 x278002_1, .int .i64 x278003_1, .int .i64 x278004_1, .int .i64 x278005_1, .int .i64 x278006_1, .int .i64 x278007_1, .int .i64 x278008_1, .int .i64 x278009_1, .int .i64 x278010_1] 24 (0, 0))) ∧ Aside0 (Below w.heap.size w w'))
  case atStart => exact ⟨(a0), (0), (0), (0), (0), (0), (0), (0), (0), (0), (0), (0), (0), (by first | rfl | (simp; done) | (simp [*]; done) | (simp; decide +kernel)), (by first | rfl | (simp; done) | (simp [*]; done) | (simp; decide +kernel)), H', ⟨Nat.le_refl _⟩, ⟨by (with_reducible repeat (first | refine blk_drewN ?_ _ | refine blk_drew ?_ | refine blk_alloc ?_ _)); exact BK276.out⟩, ⟨by (with_reducible repeat (first | refine blk_drewN ?_ _ | refine blk_drew ?_ | refine blk_alloc ?_ _)); exact BK277.out⟩, ⟨by repeat (first | (with_reducible first | exact HB.out | apply below_alloc | apply pw_below_drewN | apply below_drew1 | refine below_set ?_ GE276.out | refine below_set ?_ GE277.out) | exact HB.out)⟩⟩
  case round =>
    clear H'
    try clear c1
    try clear p2
    obtain ⟨x0_1, x4_1, x278000_1, x278001_1, x278002_1, x278003_1, x278004_1, x278005_1, x278006_1, x278007_1, x278008_1, x278009_1, x278010_1, rfl, rfl, HA, HK1, BK276, BK277, HB⟩ := hrel
    cases gk with
    | zero => exact absurd HA.out (by simp [remontoirref01_Digits.l0])
    | succ k1 =>
      have H := HA.out
      clear HA
      simp only [remontoirref01_Digits.l0] at H
      by_cases c4 : x4_1 < 11
      · rw [if_pos c4] at H
        have c4b0 : decide (x4_1 < 11) = true := decide_eq_true c4
        clear c4
        by_cases c5 : x4_1 = 0
        · subst c5
          rw [if_pos rfl] at H
          have H' := Aside0.mk H
          clear H
          have hnb6 := NB277_276.out
          have hnc6 := NB276_277.out
          have hcz7_0 : wr.cell? ⟨gb277, 0, none⟩ = some (.int .i64 x278000_1) := (blk_cell BK277.out 0).trans rfl
          have hcz7_1 : wr.cell? ⟨gb277, 1, none⟩ = some (.int .i64 x278001_1) := (blk_cell BK277.out 1).trans rfl
          have hcz7_2 : wr.cell? ⟨gb277, 2, none⟩ = some (.int .i64 x278002_1) := (blk_cell BK277.out 2).trans rfl
          have hcz7_3 : wr.cell? ⟨gb277, 3, none⟩ = some (.int .i64 x278003_1) := (blk_cell BK277.out 3).trans rfl
          have hcz7_4 : wr.cell? ⟨gb277, 4, none⟩ = some (.int .i64 x278004_1) := (blk_cell BK277.out 4).trans rfl
          have hcz7_5 : wr.cell? ⟨gb277, 5, none⟩ = some (.int .i64 x278005_1) := (blk_cell BK277.out 5).trans rfl
          have hcz7_6 : wr.cell? ⟨gb277, 6, none⟩ = some (.int .i64 x278006_1) := (blk_cell BK277.out 6).trans rfl
          have hcz7_7 : wr.cell? ⟨gb277, 7, none⟩ = some (.int .i64 x278007_1) := (blk_cell BK277.out 7).trans rfl
          have hcz7_8 : wr.cell? ⟨gb277, 8, none⟩ = some (.int .i64 x278008_1) := (blk_cell BK277.out 8).trans rfl
          have hcz7_9 : wr.cell? ⟨gb277, 9, none⟩ = some (.int .i64 x278009_1) := (blk_cell BK277.out 9).trans rfl
          have hcz7_10 : wr.cell? ⟨gb277, 10, none⟩ = some (.int .i64 x278010_1) := (blk_cell BK277.out 10).trans rfl
          have hfz7_0 := blk_frozen BK277.out 0
          have hfz7_1 := blk_frozen BK277.out 1
          have hfz7_2 := blk_frozen BK277.out 2
          have hfz7_3 := blk_frozen BK277.out 3
          have hfz7_4 := blk_frozen BK277.out 4
          have hfz7_5 := blk_frozen BK277.out 5
          have hfz7_6 := blk_frozen BK277.out 6
          have hfz7_7 := blk_frozen BK277.out 7
          have hfz7_8 := blk_frozen BK277.out 8
          have hfz7_9 := blk_frozen BK277.out 9
          have hfz7_10 := blk_frozen BK277.out 10
          go_wp2
          go_roundg k1
          case measure => have := HK1.out; omega
          case rel => exact ⟨(IntKind.u64.wrap (Int.tdiv x0_1 64)), (wrap64 ((0 : Int) + 1)), (wrap64 (Int.tmod x0_1 64)), (x278001_1), (x278002_1), (x278003_1), (x278004_1), (x278005_1), (x278006_1), (x278007_1), (x278008_1), (x278009_1), (x278010_1), (by first | rfl | (simp; done) | (simp [*]; done) | (simp; decide +kernel)), (by first | rfl | (simp; done) | (simp [*]; done) | (simp; decide +kernel)), H', ⟨by have := HK1.out; omega⟩, ⟨by (with_reducible repeat (first | refine blk_drewN ?_ _ | refine blk_drew ?_ | refine blk_alloc ?_ _)); refine blk_far ?_ NB276_277.out _; (with_reducible repeat (first | refine blk_drewN ?_ _ | refine blk_drew ?_ | refine blk_alloc ?_ _)); exact BK276.out⟩, ⟨by (with_reducible repeat (first | refine blk_drewN ?_ _ | refine blk_drew ?_ | refine blk_alloc ?_ _)); refine blk_put (cs := #[.int .i64 x278000_1, .int .i64 x278001_1, .int .i64 x278002_1, .int .i64 x278003_1, .int .i64 x278004_1, .int .i64 x278005_1, .int .i64 x278006_1, .int .i64 x278007_1, .int .i64 x278008_1, .int .i64 x278009_1, .int .i64 x278010_1]) ?_ 0 _ rfl; (with_reducible repeat (first | refine blk_drewN ?_ _ | refine blk_drew ?_ | refine blk_alloc ?_ _)); exact BK277.out⟩, ⟨by repeat (first | (with_reducible first | exact HB.out | apply below_alloc | apply pw_below_drewN | apply below_drew1 | refine below_set ?_ GE276.out | refine below_set ?_ GE277.out) | exact HB.out)⟩⟩
        · rw [if_neg c5] at H
          clear c5
          by_cases c8 : x4_1 = 1
          · subst c8
            rw [if_pos rfl] at H
            have H' := Aside0.mk H
            clear H
            have hnb9 := NB277_276.out
            have hnc9 := NB276_277.out
            have hcz10_0 : wr.cell? ⟨gb277, 0, none⟩ = some (.int .i64 x278000_1) := (blk_cell BK277.out 0).trans rfl
            have hcz10_1 : wr.cell? ⟨gb277, 1, none⟩ = some (.int .i64 x278001_1) := (blk_cell BK277.out 1).trans rfl
            have hcz10_2 : wr.cell? ⟨gb277, 2, none⟩ = some (.int .i64 x278002_1) := (blk_cell BK277.out 2).trans rfl
            have hcz10_3 : wr.cell? ⟨gb277, 3, none⟩ = some (.int .i64 x278003_1) := (blk_cell BK277.out 3).trans rfl
            have hcz10_4 : wr.cell? ⟨gb277, 4, none⟩ = some (.int .i64 x278004_1) := (blk_cell BK277.out 4).trans rfl
            have hcz10_5 : wr.cell? ⟨gb277, 5, none⟩ = some (.int .i64 x278005_1) := (blk_cell BK277.out 5).trans rfl
            have hcz10_6 : wr.cell? ⟨gb277, 6, none⟩ = some (.int .i64 x278006_1) := (blk_cell BK277.out 6).trans rfl
            have hcz10_7 : wr.cell? ⟨gb277, 7, none⟩ = some (.int .i64 x278007_1) := (blk_cell BK277.out 7).trans rfl
            have hcz10_8 : wr.cell? ⟨gb277, 8, none⟩ = some (.int .i64 x278008_1) := (blk_cell BK277.out 8).trans rfl
            have hcz10_9 : wr.cell? ⟨gb277, 9, none⟩ = some (.int .i64 x278009_1) := (blk_cell BK277.out 9).trans rfl
            have hcz10_10 : wr.cell? ⟨gb277, 10, none⟩ = some (.int .i64 x278010_1) := (blk_cell BK277.out 10).trans rfl
            have hfz10_0 := blk_frozen BK277.out 0
            have hfz10_1 := blk_frozen BK277.out 1
            have hfz10_2 := blk_frozen BK277.out 2
            have hfz10_3 := blk_frozen BK277.out 3
            have hfz10_4 := blk_frozen BK277.out 4
            have hfz10_5 := blk_frozen BK277.out 5
            have hfz10_6 := blk_frozen BK277.out 6
            have hfz10_7 := blk_frozen BK277.out 7
            have hfz10_8 := blk_frozen BK277.out 8
            have hfz10_9 := blk_frozen BK277.out 9
            have hfz10_10 := blk_frozen BK277.out 10
            go_wp2
            go_roundg k1
            case measure => have := HK1.out; omega
            case rel => exact ⟨(IntKind.u64.wrap (Int.tdiv x0_1 64)), (wrap64 ((1 : Int) + 1)), (x278000_1), (wrap64 (Int.tmod x0_1 64)), (x278002_1), (x278003_1), (x278004_1), (x278005_1), (x278006_1), (x278007_1), (x278008_1), (x278009_1), (x278010_1), (by first | rfl | (simp; done) | (simp [*]; done) | (simp; decide +kernel)), (by first | rfl | (simp; done) | (simp [*]; done) | (simp; decide +kernel)), H', ⟨by have := HK1.out; omega⟩, ⟨by (with_reducible repeat (first | refine blk_drewN ?_ _ | refine blk_drew ?_ | refine blk_alloc ?_ _)); refine blk_far ?_ NB276_277.out _; (with_reducible repeat (first | refine blk_drewN ?_ _ | refine blk_drew ?_ | refine blk_alloc ?_ _)); exact BK276.out⟩, ⟨by (with_reducible repeat (first | refine blk_drewN ?_ _ | refine blk_drew ?_ | refine blk_alloc ?_ _)); refine blk_put (cs := #[.int .i64 x278000_1, .int .i64 x278001_1, .int .i64 x278002_1, .int .i64 x278003_1, .int .i64 x278004_1, .int .i64 x278005_1, .int .i64 x278006_1, .int .i64 x278007_1, .int .i64 x278008_1, .int .i64 x278009_1, .int .i64 x278010_1]) ?_ 1 _ rfl; (with_reducible repeat (first | refine blk_drewN ?_ _ | refine blk_drew ?_ | refine blk_alloc ?_ _)); exact BK277.out⟩, ⟨by repeat (first | (with_reducible first | exact HB.out | apply below_alloc | apply pw_below_drewN | apply below_drew1 | refine below_set ?_ GE276.out | refine below_set ?_ GE277.out) | exact HB.out)⟩⟩
          · rw [if_neg c8] at H
            clear c8
            by_cases c11 : x4_1 = 2
            · subst c11
              rw [if_pos rfl] at H
              have H' := Aside0.mk H
              clear H
              have hnb12 := NB277_276.out
              have hnc12 := NB276_277.out
              have hcz13_0 : wr.cell? ⟨gb277, 0, none⟩ = some (.int .i64 x278000_1) := (blk_cell BK277.out 0).trans rfl
              have hcz13_1 : wr.cell? ⟨gb277, 1, none⟩ = some (.int .i64 x278001_1) := (blk_cell BK277.out 1).trans rfl
              have hcz13_2 : wr.cell? ⟨gb277, 2, none⟩ = some (.int .i64 x278002_1) := (blk_cell BK277.out 2).trans rfl
              have hcz13_3 : wr.cell? ⟨gb277, 3, none⟩ = some (.int .i64 x278003_1) := (blk_cell BK277.out 3).trans rfl
              have hcz13_4 : wr.cell? ⟨gb277, 4, none⟩ = some (.int .i64 x278004_1) := (blk_cell BK277.out 4).trans rfl
              have hcz13_5 : wr.cell? ⟨gb277, 5, none⟩ = some (.int .i64 x278005_1) := (blk_cell BK277.out 5).trans rfl
              have hcz13_6 : wr.cell? ⟨gb277, 6, none⟩ = some (.int .i64 x278006_1) := (blk_cell BK277.out 6).trans rfl
              have hcz13_7 : wr.cell? ⟨gb277, 7, none⟩ = some (.int .i64 x278007_1) := (blk_cell BK277.out 7).trans rfl
              have hcz13_8 : wr.cell? ⟨gb277, 8, none⟩ = some (.int .i64 x278008_1) := (blk_cell BK277.out 8).trans rfl
              have hcz13_9 : wr.cell? ⟨gb277, 9, none⟩ = some (.int .i64 x278009_1) := (blk_cell BK277.out 9).trans rfl
              have hcz13_10 : wr.cell? ⟨gb277, 10, none⟩ = some (.int .i64 x278010_1) := (blk_cell BK277.out 10).trans rfl
              have hfz13_0 := blk_frozen BK277.out 0
              have hfz13_1 := blk_frozen BK277.out 1
              have hfz13_2 := blk_frozen BK277.out 2
              have hfz13_3 := blk_frozen BK277.out 3
              have hfz13_4 := blk_frozen BK277.out 4
              have hfz13_5 := blk_frozen BK277.out 5
              have hfz13_6 := blk_frozen BK277.out 6
              have hfz13_7 := blk_frozen BK277.out 7
              have hfz13_8 := blk_frozen BK277.out 8
              have hfz13_9 := blk_frozen BK277.out 9
              have hfz13_10 := blk_frozen BK277.out 10
              go_wp2
              go_roundg k1
              case measure => have := HK1.out; omega
              case rel => exact ⟨(IntKind.u64.wrap (Int.tdiv x0_1 64)), (wrap64 ((2 : Int) + 1)), (x278000_1), (x278001_1), (wrap64 (Int.tmod x0_1 64)), (x278003_1), (x278004_1), (x278005_1), (x278006_1), (x278007_1), (x278008_1), (x278009_1), (x278010_1), (by first | rfl | (simp; done) | (simp [*]; done) | (simp; decide +kernel)), (by first | rfl | (simp; done) | (simp [*]; done) | (simp; decide +kernel)), H', ⟨by have := HK1.out; omega⟩, ⟨by (with_reducible repeat (first | refine blk_drewN ?_ _ | refine blk_drew ?_ | refine blk_alloc ?_ _)); refine blk_far ?_ NB276_277.out _; (with_reducible repeat (first | refine blk_drewN ?_ _ | refine blk_drew ?_ | refine blk_alloc ?_ _)); exact BK276.out⟩, ⟨by (with_reducible repeat (first | refine blk_drewN ?_ _ | refine blk_drew ?_ | refine blk_alloc ?_ _)); refine blk_put (cs := #[.int .i64 x278000_1, .int .i64 x278001_1, .int .i64 x278002_1, .int .i64 x278003_1, .int .i64 x278004_1, .int .i64 x278005_1, .int .i64 x278006_1, .int .i64 x278007_1, .int .i64 x278008_1, .int .i64 x278009_1, .int .i64 x278010_1]) ?_ 2 _ rfl; (with_reducible repeat (first | refine blk_drewN ?_ _ | refine blk_drew ?_ | refine blk_alloc ?_ _)); exact BK277.out⟩, ⟨by repeat (first | (with_reducible first | exact HB.out | apply below_alloc | apply pw_below_drewN | apply below_drew1 | refine below_set ?_ GE276.out | refine below_set ?_ GE277.out) | exact HB.out)⟩⟩
            · rw [if_neg c11] at H
              clear c11
              by_cases c14 : x4_1 = 3
              · subst c14
                rw [if_pos rfl] at H
                have H' := Aside0.mk H
                clear H
                have hnb15 := NB277_276.out
                have hnc15 := NB276_277.out
                have hcz16_0 : wr.cell? ⟨gb277, 0, none⟩ = some (.int .i64 x278000_1) := (blk_cell BK277.out 0).trans rfl
                have hcz16_1 : wr.cell? ⟨gb277, 1, none⟩ = some (.int .i64 x278001_1) := (blk_cell BK277.out 1).trans rfl
                have hcz16_2 : wr.cell? ⟨gb277, 2, none⟩ = some (.int .i64 x278002_1) := (blk_cell BK277.out 2).trans rfl
                have hcz16_3 : wr.cell? ⟨gb277, 3, none⟩ = some (.int .i64 x278003_1) := (blk_cell BK277.out 3).trans rfl
                have hcz16_4 : wr.cell? ⟨gb277, 4, none⟩ = some (.int .i64 x278004_1) := (blk_cell BK277.out 4).trans rfl
                have hcz16_5 : wr.cell? ⟨gb277, 5, none⟩ = some (.int .i64 x278005_1) := (blk_cell BK277.out 5).trans rfl
                have hcz16_6 : wr.cell? ⟨gb277, 6, none⟩ = some (.int .i64 x278006_1) := (blk_cell BK277.out 6).trans rfl
                have hcz16_7 : wr.cell? ⟨gb277, 7, none⟩ = some (.int .i64 x278007_1) := (blk_cell BK277.out 7).trans rfl
                have hcz16_8 : wr.cell? ⟨gb277, 8, none⟩ = some (.int .i64 x278008_1) := (blk_cell BK277.out 8).trans rfl
                have hcz16_9 : wr.cell? ⟨gb277, 9, none⟩ = some (.int .i64 x278009_1) := (blk_cell BK277.out 9).trans rfl
                have hcz16_10 : wr.cell? ⟨gb277, 10, none⟩ = some (.int .i64 x278010_1) := (blk_cell BK277.out 10).trans rfl
                have hfz16_0 := blk_frozen BK277.out 0
                have hfz16_1 := blk_frozen BK277.out 1
                have hfz16_2 := blk_frozen BK277.out 2
                have hfz16_3 := blk_frozen BK277.out 3
                have hfz16_4 := blk_frozen BK277.out 4
                have hfz16_5 := blk_frozen BK277.out 5
                have hfz16_6 := blk_frozen BK277.out 6
                have hfz16_7 := blk_frozen BK277.out 7
                have hfz16_8 := blk_frozen BK277.out 8
                have hfz16_9 := blk_frozen BK277.out 9
                have hfz16_10 := blk_frozen BK277.out 10
                go_wp2
                go_roundg k1
                case measure => have := HK1.out; omega
                case rel => exact ⟨(IntKind.u64.wrap (Int.tdiv x0_1 64)), (wrap64 ((3 : Int) + 1)), (x278000_1), (x278001_1), (x278002_1), (wrap64 (Int.tmod x0_1 64)), (x278004_1), (x278005_1), (x278006_1), (x278007_1), (x278008_1), (x278009_1), (x278010_1), (by first | rfl | (simp; done) | (simp [*]; done) | (simp; decide +kernel)), (by first | rfl | (simp; done) | (simp [*]; done) | (simp; decide +kernel)), H', ⟨by have := HK1.out; omega⟩, ⟨by (with_reducible repeat (first | refine blk_drewN ?_ _ | refine blk_drew ?_ | refine blk_alloc ?_ _)); refine blk_far ?_ NB276_277.out _; (with_reducible repeat (first | refine blk_drewN ?_ _ | refine blk_drew ?_ | refine blk_alloc ?_ _)); exact BK276.out⟩, ⟨by (with_reducible repeat (first | refine blk_drewN ?_ _ | refine blk_drew ?_ | refine blk_alloc ?_ _)); refine blk_put (cs := #[.int .i64 x278000_1, .int .i64 x278001_1, .int .i64 x278002_1, .int .i64 x278003_1, .int .i64 x278004_1, .int .i64 x278005_1, .int .i64 x278006_1, .int .i64 x278007_1, .int .i64 x278008_1, .int .i64 x278009_1, .int .i64 x278010_1]) ?_ 3 _ rfl; (with_reducible repeat (first | refine blk_drewN ?_ _ | refine blk_drew ?_ | refine blk_alloc ?_ _)); exact BK277.out⟩, ⟨by repeat (first | (with_reducible first | exact HB.out | apply below_alloc | apply pw_below_drewN | apply below_drew1 | refine below_set ?_ GE276.out | refine below_set ?_ GE277.out) | exact HB.out)⟩⟩
              · rw [if_neg c14] at H
                clear c14
                by_cases c17 : x4_1 = 4
                · subst c17
                  rw [if_pos rfl] at H
                  have H' := Aside0.mk H
                  clear H
                  have hnb18 := NB277_276.out
                  have hnc18 := NB276_277.out
                  have hcz19_0 : wr.cell? ⟨gb277, 0, none⟩ = some (.int .i64 x278000_1) := (blk_cell BK277.out 0).trans rfl
                  have hcz19_1 : wr.cell? ⟨gb277, 1, none⟩ = some (.int .i64 x278001_1) := (blk_cell BK277.out 1).trans rfl
                  have hcz19_2 : wr.cell? ⟨gb277, 2, none⟩ = some (.int .i64 x278002_1) := (blk_cell BK277.out 2).trans rfl
                  have hcz19_3 : wr.cell? ⟨gb277, 3, none⟩ = some (.int .i64 x278003_1) := (blk_cell BK277.out 3).trans rfl
                  have hcz19_4 : wr.cell? ⟨gb277, 4, none⟩ = some (.int .i64 x278004_1) := (blk_cell BK277.out 4).trans rfl
                  have hcz19_5 : wr.cell? ⟨gb277, 5, none⟩ = some (.int .i64 x278005_1) := (blk_cell BK277.out 5).trans rfl
                  have hcz19_6 : wr.cell? ⟨gb277, 6, none⟩ = some (.int .i64 x278006_1) := (blk_cell BK277.out 6).trans rfl
                  have hcz19_7 : wr.cell? ⟨gb277, 7, none⟩ = some (.int .i64 x278007_1) := (blk_cell BK277.out 7).trans rfl
                  have hcz19_8 : wr.cell? ⟨gb277, 8, none⟩ = some (.int .i64 x278008_1) := (blk_cell BK277.out 8).trans rfl
                  have hcz19_9 : wr.cell? ⟨gb277, 9, none⟩ = some (.int .i64 x278009_1) := (blk_cell BK277.out 9).trans rfl
                  have hcz19_10 : wr.cell? ⟨gb277, 10, none⟩ = some (.int .i64 x278010_1) := (blk_cell BK277.out 10).trans rfl
                  have hfz19_0 := blk_frozen BK277.out 0
                  have hfz19_1 := blk_frozen BK277.out 1
                  have hfz19_2 := blk_frozen BK277.out 2
                  have hfz19_3 := blk_frozen BK277.out 3
                  have hfz19_4 := blk_frozen BK277.out 4
                  have hfz19_5 := blk_frozen BK277.out 5
                  have hfz19_6 := blk_frozen BK277.out 6
                  have hfz19_7 := blk_frozen BK277.out 7
                  have hfz19_8 := blk_frozen BK277.out 8
                  have hfz19_9 := blk_frozen BK277.out 9
                  have hfz19_10 := blk_frozen BK277.out 10
                  go_wp2
                  go_roundg k1
                  case measure => have := HK1.out; omega
                  case rel => exact ⟨(IntKind.u64.wrap (Int.tdiv x0_1 64)), (wrap64 ((4 : Int) + 1)), (x278000_1), (x278001_1), (x278002_1), (x278003_1), (wrap64 (Int.tmod x0_1 64)), (x278005_1), (x278006_1), (x278007_1), (x278008_1), (x278009_1), (x278010_1), (by first | rfl | (simp; done) | (simp [*]; done) | (simp; decide +kernel)), (by first | rfl | (simp; done) | (simp [*]; done) | (simp; decide +kernel)), H', ⟨by have := HK1.out; omega⟩, ⟨by (with_reducible repeat (first | refine blk_drewN ?_ _ | refine blk_drew ?_ | refine blk_alloc ?_ _)); refine blk_far ?_ NB276_277.out _; (with_reducible repeat (first | refine blk_drewN ?_ _ | refine blk_drew ?_ | refine blk_alloc ?_ _)); exact BK276.out⟩, ⟨by (with_reducible repeat (first | refine blk_drewN ?_ _ | refine blk_drew ?_ | refine blk_alloc ?_ _)); refine blk_put (cs := #[.int .i64 x278000_1, .int .i64 x278001_1, .int .i64 x278002_1, .int .i64 x278003_1, .int .i64 x278004_1, .int .i64 x278005_1, .int .i64 x278006_1, .int .i64 x278007_1, .int .i64 x278008_1, .int .i64 x278009_1, .int .i64 x278010_1]) ?_ 4 _ rfl; (with_reducible repeat (first | refine blk_drewN ?_ _ | refine blk_drew ?_ | refine blk_alloc ?_ _)); exact BK277.out⟩, ⟨by repeat (first | (with_reducible first | exact HB.out | apply below_alloc | apply pw_below_drewN | apply below_drew1 | refine below_set ?_ GE276.out | refine below_set ?_ GE277.out) | exact HB.out)⟩⟩
                · rw [if_neg c17] at H
                  clear c17
                  by_cases c20 : x4_1 = 5
                  · subst c20
                    rw [if_pos rfl] at H
                    have H' := Aside0.mk H
                    clear H
                    have hnb21 := NB277_276.out
                    have hnc21 := NB276_277.out
                    have hcz22_0 : wr.cell? ⟨gb277, 0, none⟩ = some (.int .i64 x278000_1) := (blk_cell BK277.out 0).trans rfl
                    have hcz22_1 : wr.cell? ⟨gb277, 1, none⟩ = some (.int .i64 x278001_1) := (blk_cell BK277.out 1).trans rfl
                    have hcz22_2 : wr.cell? ⟨gb277, 2, none⟩ = some (.int .i64 x278002_1) := (blk_cell BK277.out 2).trans rfl
                    have hcz22_3 : wr.cell? ⟨gb277, 3, none⟩ = some (.int .i64 x278003_1) := (blk_cell BK277.out 3).trans rfl
                    have hcz22_4 : wr.cell? ⟨gb277, 4, none⟩ = some (.int .i64 x278004_1) := (blk_cell BK277.out 4).trans rfl
                    have hcz22_5 : wr.cell? ⟨gb277, 5, none⟩ = some (.int .i64 x278005_1) := (blk_cell BK277.out 5).trans rfl
                    have hcz22_6 : wr.cell? ⟨gb277, 6, none⟩ = some (.int .i64 x278006_1) := (blk_cell BK277.out 6).trans rfl
                    have hcz22_7 : wr.cell? ⟨gb277, 7, none⟩ = some (.int .i64 x278007_1) := (blk_cell BK277.out 7).trans rfl
                    have hcz22_8 : wr.cell? ⟨gb277, 8, none⟩ = some (.int .i64 x278008_1) := (blk_cell BK277.out 8).trans rfl
                    have hcz22_9 : wr.cell? ⟨gb277, 9, none⟩ = some (.int .i64 x278009_1) := (blk_cell BK277.out 9).trans rfl
                    have hcz22_10 : wr.cell? ⟨gb277, 10, none⟩ = some (.int .i64 x278010_1) := (blk_cell BK277.out 10).trans rfl
                    have hfz22_0 := blk_frozen BK277.out 0
                    have hfz22_1 := blk_frozen BK277.out 1
                    have hfz22_2 := blk_frozen BK277.out 2
                    have hfz22_3 := blk_frozen BK277.out 3
                    have hfz22_4 := blk_frozen BK277.out 4
                    have hfz22_5 := blk_frozen BK277.out 5
                    have hfz22_6 := blk_frozen BK277.out 6
                    have hfz22_7 := blk_frozen BK277.out 7
                    have hfz22_8 := blk_frozen BK277.out 8
                    have hfz22_9 := blk_frozen BK277.out 9
                    have hfz22_10 := blk_frozen BK277.out 10
                    go_wp2
                    go_roundg k1
                    case measure => have := HK1.out; omega
                    case rel => exact ⟨(IntKind.u64.wrap (Int.tdiv x0_1 64)), (wrap64 ((5 : Int) + 1)), (x278000_1), (x278001_1), (x278002_1), (x278003_1), (x278004_1), (wrap64 (Int.tmod x0_1 64)), (x278006_1), (x278007_1), (x278008_1), (x278009_1), (x278010_1), (by first | rfl | (simp; done) | (simp [*]; done) | (simp; decide +kernel)), (by first | rfl | (simp; done) | (simp [*]; done) | (simp; decide +kernel)), H', ⟨by have := HK1.out; omega⟩, ⟨by (with_reducible repeat (first | refine blk_drewN ?_ _ | refine blk_drew ?_ | refine blk_alloc ?_ _)); refine blk_far ?_ NB276_277.out _; (with_reducible repeat (first | refine blk_drewN ?_ _ | refine blk_drew ?_ | refine blk_alloc ?_ _)); exact BK276.out⟩, ⟨by (with_reducible repeat (first | refine blk_drewN ?_ _ | refine blk_drew ?_ | refine blk_alloc ?_ _)); refine blk_put (cs := #[.int .i64 x278000_1, .int .i64 x278001_1, .int .i64 x278002_1, .int .i64 x278003_1, .int .i64 x278004_1, .int .i64 x278005_1, .int .i64 x278006_1, .int .i64 x278007_1, .int .i64 x278008_1, .int .i64 x278009_1, .int .i64 x278010_1]) ?_ 5 _ rfl; (with_reducible repeat (first | refine blk_drewN ?_ _ | refine blk_drew ?_ | refine blk_alloc ?_ _)); exact BK277.out⟩, ⟨by repeat (first | (with_reducible first | exact HB.out | apply below_alloc | apply pw_below_drewN | apply below_drew1 | refine below_set ?_ GE276.out | refine below_set ?_ GE277.out) | exact HB.out)⟩⟩
                  · rw [if_neg c20] at H
                    clear c20
                    by_cases c23 : x4_1 = 6
                    · subst c23
                      rw [if_pos rfl] at H
                      have H' := Aside0.mk H
                      clear H
                      have hnb24 := NB277_276.out
                      have hnc24 := NB276_277.out
                      have hcz25_0 : wr.cell? ⟨gb277, 0, none⟩ = some (.int .i64 x278000_1) := (blk_cell BK277.out 0).trans rfl
                      have hcz25_1 : wr.cell? ⟨gb277, 1, none⟩ = some (.int .i64 x278001_1) := (blk_cell BK277.out 1).trans rfl
                      have hcz25_2 : wr.cell? ⟨gb277, 2, none⟩ = some (.int .i64 x278002_1) := (blk_cell BK277.out 2).trans rfl
                      have hcz25_3 : wr.cell? ⟨gb277, 3, none⟩ = some (.int .i64 x278003_1) := (blk_cell BK277.out 3).trans rfl
                      have hcz25_4 : wr.cell? ⟨gb277, 4, none⟩ = some (.int .i64 x278004_1) := (blk_cell BK277.out 4).trans rfl
                      have hcz25_5 : wr.cell? ⟨gb277, 5, none⟩ = some (.int .i64 x278005_1) := (blk_cell BK277.out 5).trans rfl
                      have hcz25_6 : wr.cell? ⟨gb277, 6, none⟩ = some (.int .i64 x278006_1) := (blk_cell BK277.out 6).trans rfl
                      have hcz25_7 : wr.cell? ⟨gb277, 7, none⟩ = some (.int .i64 x278007_1) := (blk_cell BK277.out 7).trans rfl
                      have hcz25_8 : wr.cell? ⟨gb277, 8, none⟩ = some (.int .i64 x278008_1) := (blk_cell BK277.out 8).trans rfl
                      have hcz25_9 : wr.cell? ⟨gb277, 9, none⟩ = some (.int .i64 x278009_1) := (blk_cell BK277.out 9).trans rfl
                      have hcz25_10 : wr.cell? ⟨gb277, 10, none⟩ = some (.int .i64 x278010_1) := (blk_cell BK277.out 10).trans rfl
                      have hfz25_0 := blk_frozen BK277.out 0
                      have hfz25_1 := blk_frozen BK277.out 1
                      have hfz25_2 := blk_frozen BK277.out 2
                      have hfz25_3 := blk_frozen BK277.out 3
                      have hfz25_4 := blk_frozen BK277.out 4
                      have hfz25_5 := blk_frozen BK277.out 5
                      have hfz25_6 := blk_frozen BK277.out 6
                      have hfz25_7 := blk_frozen BK277.out 7
                      have hfz25_8 := blk_frozen BK277.out 8
                      have hfz25_9 := blk_frozen BK277.out 9
                      have hfz25_10 := blk_frozen BK277.out 10
                      go_wp2
                      go_roundg k1
                      case measure => have := HK1.out; omega
                      case rel => exact ⟨(IntKind.u64.wrap (Int.tdiv x0_1 64)), (wrap64 ((6 : Int) + 1)), (x278000_1), (x278001_1), (x278002_1), (x278003_1), (x278004_1), (x278005_1), (wrap64 (Int.tmod x0_1 64)), (x278007_1), (x278008_1), (x278009_1), (x278010_1), (by first | rfl | (simp; done) | (simp [*]; done) | (simp; decide +kernel)), (by first | rfl | (simp; done) | (simp [*]; done) | (simp; decide +kernel)), H', ⟨by have := HK1.out; omega⟩, ⟨by (with_reducible repeat (first | refine blk_drewN ?_ _ | refine blk_drew ?_ | refine blk_alloc ?_ _)); refine blk_far ?_ NB276_277.out _; (with_reducible repeat (first | refine blk_drewN ?_ _ | refine blk_drew ?_ | refine blk_alloc ?_ _)); exact BK276.out⟩, ⟨by (with_reducible repeat (first | refine blk_drewN ?_ _ | refine blk_drew ?_ | refine blk_alloc ?_ _)); refine blk_put (cs := #[.int .i64 x278000_1, .int .i64 x278001_1, .int .i64 x278002_1, .int .i64 x278003_1, .int .i64 x278004_1, .int .i64 x278005_1, .int .i64 x278006_1, .int .i64 x278007_1, .int .i64 x278008_1, .int .i64 x278009_1, .int .i64 x278010_1]) ?_ 6 _ rfl; (with_reducible repeat (first | refine blk_drewN ?_ _ | refine blk_drew ?_ | refine blk_alloc ?_ _)); exact BK277.out⟩, ⟨by repeat (first | (with_reducible first | exact HB.out | apply below_alloc | apply pw_below_drewN | apply below_drew1 | refine below_set ?_ GE276.out | refine below_set ?_ GE277.out) | exact HB.out)⟩⟩
                    · rw [if_neg c23] at H
                      clear c23
                      by_cases c26 : x4_1 = 7
                      · subst c26
                        rw [if_pos rfl] at H
                        have H' := Aside0.mk H
                        clear H
                        have hnb27 := NB277_276.out
                        have hnc27 := NB276_277.out
                        have hcz28_0 : wr.cell? ⟨gb277, 0, none⟩ = some (.int .i64 x278000_1) := (blk_cell BK277.out 0).trans rfl
                        have hcz28_1 : wr.cell? ⟨gb277, 1, none⟩ = some (.int .i64 x278001_1) := (blk_cell BK277.out 1).trans rfl
                        have hcz28_2 : wr.cell? ⟨gb277, 2, none⟩ = some (.int .i64 x278002_1) := (blk_cell BK277.out 2).trans rfl
                        have hcz28_3 : wr.cell? ⟨gb277, 3, none⟩ = some (.int .i64 x278003_1) := (blk_cell BK277.out 3).trans rfl
                        have hcz28_4 : wr.cell? ⟨gb277, 4, none⟩ = some (.int .i64 x278004_1) := (blk_cell BK277.out 4).trans rfl
                        have hcz28_5 : wr.cell? ⟨gb277, 5, none⟩ = some (.int .i64 x278005_1) := (blk_cell BK277.out 5).trans rfl
                        have hcz28_6 : wr.cell? ⟨gb277, 6, none⟩ = some (.int .i64 x278006_1) := (blk_cell BK277.out 6).trans rfl
                        have hcz28_7 : wr.cell? ⟨gb277, 7, none⟩ = some (.int .i64 x278007_1) := (blk_cell BK277.out 7).trans rfl
                        have hcz28_8 : wr.cell? ⟨gb277, 8, none⟩ = some (.int .i64 x278008_1) := (blk_cell BK277.out 8).trans rfl
                        have hcz28_9 : wr.cell? ⟨gb277, 9, none⟩ = some (.int .i64 x278009_1) := (blk_cell BK277.out 9).trans rfl
                        have hcz28_10 : wr.cell? ⟨gb277, 10, none⟩ = some (.int .i64 x278010_1) := (blk_cell BK277.out 10).trans rfl
                        have hfz28_0 := blk_frozen BK277.out 0
                        have hfz28_1 := blk_frozen BK277.out 1
                        have hfz28_2 := blk_frozen BK277.out 2
                        have hfz28_3 := blk_frozen BK277.out 3
                        have hfz28_4 := blk_frozen BK277.out 4
                        have hfz28_5 := blk_frozen BK277.out 5
                        have hfz28_6 := blk_frozen BK277.out 6
                        have hfz28_7 := blk_frozen BK277.out 7
                        have hfz28_8 := blk_frozen BK277.out 8
                        have hfz28_9 := blk_frozen BK277.out 9
                        have hfz28_10 := blk_frozen BK277.out 10
                        go_wp2
                        go_roundg k1
                        case measure => have := HK1.out; omega
                        case rel => exact ⟨(IntKind.u64.wrap (Int.tdiv x0_1 64)), (wrap64 ((7 : Int) + 1)), (x278000_1), (x278001_1), (x278002_1), (x278003_1), (x278004_1), (x278005_1), (x278006_1), (wrap64 (Int.tmod x0_1 64)), (x278008_1), (x278009_1), (x278010_1), (by first | rfl | (simp; done) | (simp [*]; done) | (simp; decide +kernel)), (by first | rfl | (simp; done) | (simp [*]; done) | (simp; decide +kernel)), H', ⟨by have := HK1.out; omega⟩, ⟨by (with_reducible repeat (first | refine blk_drewN ?_ _ | refine blk_drew ?_ | refine blk_alloc ?_ _)); refine blk_far ?_ NB276_277.out _; (with_reducible repeat (first | refine blk_drewN ?_ _ | refine blk_drew ?_ | refine blk_alloc ?_ _)); exact BK276.out⟩, ⟨by (with_reducible repeat (first | refine blk_drewN ?_ _ | refine blk_drew ?_ | refine blk_alloc ?_ _)); refine blk_put (cs := #[.int .i64 x278000_1, .int .i64 x278001_1, .int .i64 x278002_1, .int .i64 x278003_1, .int .i64 x278004_1, .int .i64 x278005_1, .int .i64 x278006_1, .int .i64 x278007_1, .int .i64 x278008_1, .int .i64 x278009_1, .int .i64 x278010_1]) ?_ 7 _ rfl; (with_reducible repeat (first | refine blk_drewN ?_ _ | refine blk_drew ?_ | refine blk_alloc ?_ _)); exact BK277.out⟩, ⟨by repeat (first | (with_reducible first | exact HB.out | apply below_alloc | apply pw_below_drewN | apply below_drew1 | refine below_set ?_ GE276.out | refine below_set ?_ GE277.out) | exact HB.out)⟩⟩
                      · rw [if_neg c26] at H
                        clear c26
                        by_cases c29 : x4_1 = 8
                        · subst c29
                          rw [if_pos rfl] at H
                          have H' := Aside0.mk H
                          clear H
                          have hnb30 := NB277_276.out
                          have hnc30 := NB276_277.out
                          have hcz31_0 : wr.cell? ⟨gb277, 0, none⟩ = some (.int .i64 x278000_1) := (blk_cell BK277.out 0).trans rfl
                          have hcz31_1 : wr.cell? ⟨gb277, 1, none⟩ = some (.int .i64 x278001_1) := (blk_cell BK277.out 1).trans rfl
                          have hcz31_2 : wr.cell? ⟨gb277, 2, none⟩ = some (.int .i64 x278002_1) := (blk_cell BK277.out 2).trans rfl
                          have hcz31_3 : wr.cell? ⟨gb277, 3, none⟩ = some (.int .i64 x278003_1) := (blk_cell BK277.out 3).trans rfl
                          have hcz31_4 : wr.cell? ⟨gb277, 4, none⟩ = some (.int .i64 x278004_1) := (blk_cell BK277.out 4).trans rfl
                          have hcz31_5 : wr.cell? ⟨gb277, 5, none⟩ = some (.int .i64 x278005_1) := (blk_cell BK277.out 5).trans rfl
                          have hcz31_6 : wr.cell? ⟨gb277, 6, none⟩ = some (.int .i64 x278006_1) := (blk_cell BK277.out 6).trans rfl
                          have hcz31_7 : wr.cell? ⟨gb277, 7, none⟩ = some (.int .i64 x278007_1) := (blk_cell BK277.out 7).trans rfl
                          have hcz31_8 : wr.cell? ⟨gb277, 8, none⟩ = some (.int .i64 x278008_1) := (blk_cell BK277.out 8).trans rfl
                          have hcz31_9 : wr.cell? ⟨gb277, 9, none⟩ = some (.int .i64 x278009_1) := (blk_cell BK277.out 9).trans rfl
                          have hcz31_10 : wr.cell? ⟨gb277, 10, none⟩ = some (.int .i64 x278010_1) := (blk_cell BK277.out 10).trans rfl
                          have hfz31_0 := blk_frozen BK277.out 0
                          have hfz31_1 := blk_frozen BK277.out 1
                          have hfz31_2 := blk_frozen BK277.out 2
                          have hfz31_3 := blk_frozen BK277.out 3
                          have hfz31_4 := blk_frozen BK277.out 4
                          have hfz31_5 := blk_frozen BK277.out 5
                          have hfz31_6 := blk_frozen BK277.out 6
                          have hfz31_7 := blk_frozen BK277.out 7
                          have hfz31_8 := blk_frozen BK277.out 8
                          have hfz31_9 := blk_frozen BK277.out 9
                          have hfz31_10 := blk_frozen BK277.out 10
                          go_wp2
                          go_roundg k1
                          case measure => have := HK1.out; omega
                          case rel => exact ⟨(IntKind.u64.wrap (Int.tdiv x0_1 64)), (wrap64 ((8 : Int) + 1)), (x278000_1), (x278001_1), (x278002_1), (x278003_1), (x278004_1), (x278005_1), (x278006_1), (x278007_1), (wrap64 (Int.tmod x0_1 64)), (x278009_1), (x278010_1), (by first | rfl | (simp; done) | (simp [*]; done) | (simp; decide +kernel)), (by first | rfl | (simp; done) | (simp [*]; done) | (simp; decide +kernel)), H', ⟨by have := HK1.out; omega⟩, ⟨by (with_reducible repeat (first | refine blk_drewN ?_ _ | refine blk_drew ?_ | refine blk_alloc ?_ _)); refine blk_far ?_ NB276_277.out _; (with_reducible repeat (first | refine blk_drewN ?_ _ | refine blk_drew ?_ | refine blk_alloc ?_ _)); exact BK276.out⟩, ⟨by (with_reducible repeat (first | refine blk_drewN ?_ _ | refine blk_drew ?_ | refine blk_alloc ?_ _)); refine blk_put (cs := #[.int .i64 x278000_1, .int .i64 x278001_1, .int .i64 x278002_1, .int .i64 x278003_1, .int .i64 x278004_1, .int .i64 x278005_1, .int .i64 x278006_1, .int .i64 x278007_1, .int .i64 x278008_1, .int .i64 x278009_1, .int .i64 x278010_1]) ?_ 8 _ rfl; (with_reducible repeat (first | refine blk_drewN ?_ _ | refine blk_drew ?_ | refine blk_alloc ?_ _)); exact BK277.out⟩, ⟨by repeat (first | (with_reducible first | exact HB.out | apply below_alloc | apply pw_below_drewN | apply below_drew1 | refine below_set ?_ GE276.out | refine below_set ?_ GE277.out) | exact HB.out)⟩⟩
                        · rw [if_neg c29] at H
                          clear c29
                          by_cases c32 : x4_1 = 9
                          · subst c32
                            rw [if_pos rfl] at H
                            have H' := Aside0.mk H
                            clear H
                            have hnb33 := NB277_276.out
                            have hnc33 := NB276_277.out
                            have hcz34_0 : wr.cell? ⟨gb277, 0, none⟩ = some (.int .i64 x278000_1) := (blk_cell BK277.out 0).trans rfl
                            have hcz34_1 : wr.cell? ⟨gb277, 1, none⟩ = some (.int .i64 x278001_1) := (blk_cell BK277.out 1).trans rfl
                            have hcz34_2 : wr.cell? ⟨gb277, 2, none⟩ = some (.int .i64 x278002_1) := (blk_cell BK277.out 2).trans rfl
                            have hcz34_3 : wr.cell? ⟨gb277, 3, none⟩ = some (.int .i64 x278003_1) := (blk_cell BK277.out 3).trans rfl
                            have hcz34_4 : wr.cell? ⟨gb277, 4, none⟩ = some (.int .i64 x278004_1) := (blk_cell BK277.out 4).trans rfl
                            have hcz34_5 : wr.cell? ⟨gb277, 5, none⟩ = some (.int .i64 x278005_1) := (blk_cell BK277.out 5).trans rfl
                            have hcz34_6 : wr.cell? ⟨gb277, 6, none⟩ = some (.int .i64 x278006_1) := (blk_cell BK277.out 6).trans rfl
                            have hcz34_7 : wr.cell? ⟨gb277, 7, none⟩ = some (.int .i64 x278007_1) := (blk_cell BK277.out 7).trans rfl
                            have hcz34_8 : wr.cell? ⟨gb277, 8, none⟩ = some (.int .i64 x278008_1) := (blk_cell BK277.out 8).trans rfl
                            have hcz34_9 : wr.cell? ⟨gb277, 9, none⟩ = some (.int .i64 x278009_1) := (blk_cell BK277.out 9).trans rfl
                            have hcz34_10 : wr.cell? ⟨gb277, 10, none⟩ = some (.int .i64 x278010_1) := (blk_cell BK277.out 10).trans rfl
                            have hfz34_0 := blk_frozen BK277.out 0
                            have hfz34_1 := blk_frozen BK277.out 1
                            have hfz34_2 := blk_frozen BK277.out 2
                            have hfz34_3 := blk_frozen BK277.out 3
                            have hfz34_4 := blk_frozen BK277.out 4
                            have hfz34_5 := blk_frozen BK277.out 5
                            have hfz34_6 := blk_frozen BK277.out 6
                            have hfz34_7 := blk_frozen BK277.out 7
                            have hfz34_8 := blk_frozen BK277.out 8
                            have hfz34_9 := blk_frozen BK277.out 9
                            have hfz34_10 := blk_frozen BK277.out 10
                            go_wp2
                            go_roundg k1
                            case measure => have := HK1.out; omega
                            case rel => exact ⟨(IntKind.u64.wrap (Int.tdiv x0_1 64)), (wrap64 ((9 : Int) + 1)), (x278000_1), (x278001_1), (x278002_1), (x278003_1), (x278004_1), (x278005_1), (x278006_1), (x278007_1), (x278008_1), (wrap64 (Int.tmod x0_1 64)), (x278010_1), (by first | rfl | (simp; done) | (simp [*]; done) | (simp; decide +kernel)), (by first | rfl | (simp; done) | (simp [*]; done) | (simp; decide +kernel)), H', ⟨by have := HK1.out; omega⟩, ⟨by (with_reducible repeat (first | refine blk_drewN ?_ _ | refine blk_drew ?_ | refine blk_alloc ?_ _)); refine blk_far ?_ NB276_277.out _; (with_reducible repeat (first | refine blk_drewN ?_ _ | refine blk_drew ?_ | refine blk_alloc ?_ _)); exact BK276.out⟩, ⟨by (with_reducible repeat (first | refine blk_drewN ?_ _ | refine blk_drew ?_ | refine blk_alloc ?_ _)); refine blk_put (cs := #[.int .i64 x278000_1, .int .i64 x278001_1, .int .i64 x278002_1, .int .i64 x278003_1, .int .i64 x278004_1, .int .i64 x278005_1, .int .i64 x278006_1, .int .i64 x278007_1, .int .i64 x278008_1, .int .i64 x278009_1, .int .i64 x278010_1]) ?_ 9 _ rfl; (with_reducible repeat (first | refine blk_drewN ?_ _ | refine blk_drew ?_ | refine blk_alloc ?_ _)); exact BK277.out⟩, ⟨by repeat (first | (with_reducible first | exact HB.out | apply below_alloc | apply pw_below_drewN | apply below_drew1 | refine below_set ?_ GE276.out | refine below_set ?_ GE277.out) | exact HB.out)⟩⟩
                          · rw [if_neg c32] at H
                            clear c32
                            by_cases c35 : x4_1 = 10
                            · subst c35
                              rw [if_pos rfl] at H
                              have H' := Aside0.mk H
                              clear H
                              have hnb36 := NB277_276.out
                              have hnc36 := NB276_277.out
                              have hcz37_0 : wr.cell? ⟨gb277, 0, none⟩ = some (.int .i64 x278000_1) := (blk_cell BK277.out 0).trans rfl
                              have hcz37_1 : wr.cell? ⟨gb277, 1, none⟩ = some (.int .i64 x278001_1) := (blk_cell BK277.out 1).trans rfl
                              have hcz37_2 : wr.cell? ⟨gb277, 2, none⟩ = some (.int .i64 x278002_1) := (blk_cell BK277.out 2).trans rfl
                              have hcz37_3 : wr.cell? ⟨gb277, 3, none⟩ = some (.int .i64 x278003_1) := (blk_cell BK277.out 3).trans rfl
                              have hcz37_4 : wr.cell? ⟨gb277, 4, none⟩ = some (.int .i64 x278004_1) := (blk_cell BK277.out 4).trans rfl
                              have hcz37_5 : wr.cell? ⟨gb277, 5, none⟩ = some (.int .i64 x278005_1) := (blk_cell BK277.out 5).trans rfl
                              have hcz37_6 : wr.cell? ⟨gb277, 6, none⟩ = some (.int .i64 x278006_1) := (blk_cell BK277.out 6).trans rfl
                              have hcz37_7 : wr.cell? ⟨gb277, 7, none⟩ = some (.int .i64 x278007_1) := (blk_cell BK277.out 7).trans rfl
                              have hcz37_8 : wr.cell? ⟨gb277, 8, none⟩ = some (.int .i64 x278008_1) := (blk_cell BK277.out 8).trans rfl
                              have hcz37_9 : wr.cell? ⟨gb277, 9, none⟩ = some (.int .i64 x278009_1) := (blk_cell BK277.out 9).trans rfl
                              have hcz37_10 : wr.cell? ⟨gb277, 10, none⟩ = some (.int .i64 x278010_1) := (blk_cell BK277.out 10).trans rfl
                              have hfz37_0 := blk_frozen BK277.out 0
                              have hfz37_1 := blk_frozen BK277.out 1
                              have hfz37_2 := blk_frozen BK277.out 2
                              have hfz37_3 := blk_frozen BK277.out 3
                              have hfz37_4 := blk_frozen BK277.out 4
                              have hfz37_5 := blk_frozen BK277.out 5
                              have hfz37_6 := blk_frozen BK277.out 6
                              have hfz37_7 := blk_frozen BK277.out 7
                              have hfz37_8 := blk_frozen BK277.out 8
                              have hfz37_9 := blk_frozen BK277.out 9
                              have hfz37_10 := blk_frozen BK277.out 10
                              go_wp2
                              go_roundg k1
                              case measure => have := HK1.out; omega
                              case rel => exact ⟨(IntKind.u64.wrap (Int.tdiv x0_1 64)), (wrap64 ((10 : Int) + 1)), (x278000_1), (x278001_1), (x278002_1), (x278003_1), (x278004_1), (x278005_1), (x278006_1), (x278007_1), (x278008_1), (x278009_1), (wrap64 (Int.tmod x0_1 64)), (by first | rfl | (simp; done) | (simp [*]; done) | (simp; decide +kernel)), (by first | rfl | (simp; done) | (simp [*]; done) | (simp; decide +kernel)), H', ⟨by have := HK1.out; omega⟩, ⟨by (with_reducible repeat (first | refine blk_drewN ?_ _ | refine blk_drew ?_ | refine blk_alloc ?_ _)); refine blk_far ?_ NB276_277.out _; (with_reducible repeat (first | refine blk_drewN ?_ _ | refine blk_drew ?_ | refine blk_alloc ?_ _)); exact BK276.out⟩, ⟨by (with_reducible repeat (first | refine blk_drewN ?_ _ | refine blk_drew ?_ | refine blk_alloc ?_ _)); refine blk_put (cs := #[.int .i64 x278000_1, .int .i64 x278001_1, .int .i64 x278002_1, .int .i64 x278003_1, .int .i64 x278004_1, .int .i64 x278005_1, .int .i64 x278006_1, .int .i64 x278007_1, .int .i64 x278008_1, .int .i64 x278009_1, .int .i64 x278010_1]) ?_ 10 _ rfl; (with_reducible repeat (first | refine blk_drewN ?_ _ | refine blk_drew ?_ | refine blk_alloc ?_ _)); exact BK277.out⟩, ⟨by repeat (first | (with_reducible first | exact HB.out | apply below_alloc | apply pw_below_drewN | apply below_drew1 | refine below_set ?_ GE276.out | refine below_set ?_ GE277.out) | exact HB.out)⟩⟩
                            · rw [if_neg c35] at H
                              clear c35
                              exact absurd H (by simp)
      · rw [if_neg c4] at H
        have c4b0 : decide (x4_1 < 11) = false := decide_eq_false c4
        clear c4
        simp only [Option.some.injEq, Prod.mk.injEq] at H
        obtain ⟨rfl, rfl, rfl, rfl, rfl, rfl, rfl, rfl, rfl, rfl, rfl⟩ := H
        have hnb38 := NB277_276.out
        have hnc38 := NB276_277.out
        have hcz39_0 : wr.cell? ⟨gb277, 0, none⟩ = some (.int .i64 x278000_1) := (blk_cell BK277.out 0).trans rfl
        have hcz39_1 : wr.cell? ⟨gb277, 1, none⟩ = some (.int .i64 x278001_1) := (blk_cell BK277.out 1).trans rfl
        have hcz39_2 : wr.cell? ⟨gb277, 2, none⟩ = some (.int .i64 x278002_1) := (blk_cell BK277.out 2).trans rfl
        have hcz39_3 : wr.cell? ⟨gb277, 3, none⟩ = some (.int .i64 x278003_1) := (blk_cell BK277.out 3).trans rfl
        have hcz39_4 : wr.cell? ⟨gb277, 4, none⟩ = some (.int .i64 x278004_1) := (blk_cell BK277.out 4).trans rfl
        have hcz39_5 : wr.cell? ⟨gb277, 5, none⟩ = some (.int .i64 x278005_1) := (blk_cell BK277.out 5).trans rfl
        have hcz39_6 : wr.cell? ⟨gb277, 6, none⟩ = some (.int .i64 x278006_1) := (blk_cell BK277.out 6).trans rfl
        have hcz39_7 : wr.cell? ⟨gb277, 7, none⟩ = some (.int .i64 x278007_1) := (blk_cell BK277.out 7).trans rfl
        have hcz39_8 : wr.cell? ⟨gb277, 8, none⟩ = some (.int .i64 x278008_1) := (blk_cell BK277.out 8).trans rfl
        have hcz39_9 : wr.cell? ⟨gb277, 9, none⟩ = some (.int .i64 x278009_1) := (blk_cell BK277.out 9).trans rfl
        have hcz39_10 : wr.cell? ⟨gb277, 10, none⟩ = some (.int .i64 x278010_1) := (blk_cell BK277.out 10).trans rfl
        have hfz39_0 := blk_frozen BK277.out 0
        have hfz39_1 := blk_frozen BK277.out 1
        have hfz39_2 := blk_frozen BK277.out 2
        have hfz39_3 := blk_frozen BK277.out 3
        have hfz39_4 := blk_frozen BK277.out 4
        have hfz39_5 := blk_frozen BK277.out 5
        have hfz39_6 := blk_frozen BK277.out 6
        have hfz39_7 := blk_frozen BK277.out 7
        have hfz39_8 := blk_frozen BK277.out 8
        have hfz39_9 := blk_frozen BK277.out 9
        have hfz39_10 := blk_frozen BK277.out 10
        have hcz40_0 : wr.cell? ⟨gb276, 0, none⟩ = some (.int .i64 0) := (blk_cell BK276.out 0).trans rfl
        have hcz40_1 : wr.cell? ⟨gb276, 1, none⟩ = some (.int .i64 0) := (blk_cell BK276.out 1).trans rfl
        have hcz40_2 : wr.cell? ⟨gb276, 2, none⟩ = some (.int .i64 0) := (blk_cell BK276.out 2).trans rfl
        have hcz40_3 : wr.cell? ⟨gb276, 3, none⟩ = some (.int .i64 0) := (blk_cell BK276.out 3).trans rfl
        have hcz40_4 : wr.cell? ⟨gb276, 4, none⟩ = some (.int .i64 0) := (blk_cell BK276.out 4).trans rfl
        have hcz40_5 : wr.cell? ⟨gb276, 5, none⟩ = some (.int .i64 0) := (blk_cell BK276.out 5).trans rfl
        have hcz40_6 : wr.cell? ⟨gb276, 6, none⟩ = some (.int .i64 0) := (blk_cell BK276.out 6).trans rfl
        have hcz40_7 : wr.cell? ⟨gb276, 7, none⟩ = some (.int .i64 0) := (blk_cell BK276.out 7).trans rfl
        have hcz40_8 : wr.cell? ⟨gb276, 8, none⟩ = some (.int .i64 0) := (blk_cell BK276.out 8).trans rfl
        have hcz40_9 : wr.cell? ⟨gb276, 9, none⟩ = some (.int .i64 0) := (blk_cell BK276.out 9).trans rfl
        have hcz40_10 : wr.cell? ⟨gb276, 10, none⟩ = some (.int .i64 0) := (blk_cell BK276.out 10).trans rfl
        have hfz40_0 := blk_frozen BK276.out 0
        have hfz40_1 := blk_frozen BK276.out 1
        have hfz40_2 := blk_frozen BK276.out 2
        have hfz40_3 := blk_frozen BK276.out 3
        have hfz40_4 := blk_frozen BK276.out 4
        have hfz40_5 := blk_frozen BK276.out 5
        have hfz40_6 := blk_frozen BK276.out 6
        have hfz40_7 := blk_frozen BK276.out 7
        have hfz40_8 := blk_frozen BK276.out 8
        have hfz40_9 := blk_frozen BK276.out 9
        have hfz40_10 := blk_frozen BK276.out 10
        go_wp2
        refine bodyPost_ret (results_cell_row rfl _ _ gb276 24 #[.int .i64 x278000_1, .int .i64 x278001_1, .int .i64 x278002_1, .int .i64 x278003_1, .int .i64 x278004_1, .int .i64 x278005_1, .int .i64 x278006_1, .int .i64 x278007_1, .int .i64 x278008_1, .int .i64 x278009_1, .int .i64 x278010_1] (0, 0) _ rfl (by (with_reducible repeat (first | refine blk_drewN ?_ _ | refine blk_drew ?_ | refine blk_alloc ?_ _)); refine blk_put (cs := #[.int .i64 x278000_1, .int .i64 x278001_1, .int .i64 x278002_1, .int .i64 x278003_1, .int .i64 x278004_1, .int .i64 x278005_1, .int .i64 x278006_1, .int .i64 x278007_1, .int .i64 x278008_1, .int .i64 x278009_1, .int .i64 0]) ?_ 10 _ rfl; (with_reducible repeat (first | refine blk_drewN ?_ _ | refine blk_drew ?_ | refine blk_alloc ?_ _)); refine blk_put (cs := #[.int .i64 x278000_1, .int .i64 x278001_1, .int .i64 x278002_1, .int .i64 x278003_1, .int .i64 x278004_1, .int .i64 x278005_1, .int .i64 x278006_1, .int .i64 x278007_1, .int .i64 x278008_1, .int .i64 0, .int .i64 0]) ?_ 9 _ rfl; (with_reducible repeat (first | refine blk_drewN ?_ _ | refine blk_drew ?_ | refine blk_alloc ?_ _)); refine blk_put (cs := #[.int .i64 x278000_1, .int .i64 x278001_1, .int .i64 x278002_1, .int .i64 x278003_1, .int .i64 x278004_1, .int .i64 x278005_1, .int .i64 x278006_1, .int .i64 x278007_1, .int .i64 0, .int .i64 0, .int .i64 0]) ?_ 8 _ rfl; (with_reducible repeat (first | refine blk_drewN ?_ _ | refine blk_drew ?_ | refine blk_alloc ?_ _)); refine blk_put (cs := #[.int .i64 x278000_1, .int .i64 x278001_1, .int .i64 x278002_1, .int .i64 x278003_1, .int .i64 x278004_1, .int .i64 x278005_1, .int .i64 x278006_1, .int .i64 0, .int .i64 0, .int .i64 0, .int .i64 0]) ?_ 7 _ rfl; (with_reducible repeat (first | refine blk_drewN ?_ _ | refine blk_drew ?_ | refine blk_alloc ?_ _)); refine blk_put (cs := #[.int .i64 x278000_1, .int .i64 x278001_1, .int .i64 x278002_1, .int .i64 x278003_1, .int .i64 x278004_1, .int .i64 x278005_1, .int .i64 0, .int .i64 0, .int .i64 0, .int .i64 0, .int .i64 0]) ?_ 6 _ rfl; (with_reducible repeat (first | refine blk_drewN ?_ _ | refine blk_drew ?_ | refine blk_alloc ?_ _)); refine blk_put (cs := #[.int .i64 x278000_1, .int .i64 x278001_1, .int .i64 x278002_1, .int .i64 x278003_1, .int .i64 x278004_1, .int .i64 0, .int .i64 0, .int .i64 0, .int .i64 0, .int .i64 0, .int .i64 0]) ?_ 5 _ rfl; (with_reducible repeat (first | refine blk_drewN ?_ _ | refine blk_drew ?_ | refine blk_alloc ?_ _)); refine blk_put (cs := #[.int .i64 x278000_1, .int .i64 x278001_1, .int .i64 x278002_1, .int .i64 x278003_1, .int .i64 0, .int .i64 0, .int .i64 0, .int .i64 0, .int .i64 0, .int .i64 0, .int .i64 0]) ?_ 4 _ rfl; (with_reducible repeat (first | refine blk_drewN ?_ _ | refine blk_drew ?_ | refine blk_alloc ?_ _)); refine blk_put (cs := #[.int .i64 x278000_1, .int .i64 x278001_1, .int .i64 x278002_1, .int .i64 0, .int .i64 0, .int .i64 0, .int .i64 0, .int .i64 0, .int .i64 0, .int .i64 0, .int .i64 0]) ?_ 3 _ rfl; (with_reducible repeat (first | refine blk_drewN ?_ _ | refine blk_drew ?_ | refine blk_alloc ?_ _)); refine blk_put (cs := #[.int .i64 x278000_1, .int .i64 x278001_1, .int .i64 0, .int .i64 0, .int .i64 0, .int .i64 0, .int .i64 0, .int .i64 0, .int .i64 0, .int .i64 0, .int .i64 0]) ?_ 2 _ rfl; (with_reducible repeat (first | refine blk_drewN ?_ _ | refine blk_drew ?_ | refine blk_alloc ?_ _)); refine blk_put (cs := #[.int .i64 x278000_1, .int .i64 0, .int .i64 0, .int .i64 0, .int .i64 0, .int .i64 0, .int .i64 0, .int .i64 0, .int .i64 0, .int .i64 0, .int .i64 0]) ?_ 1 _ rfl; (with_reducible repeat (first | refine blk_drewN ?_ _ | refine blk_drew ?_ | refine blk_alloc ?_ _)); refine blk_put (cs := #[.int .i64 0, .int .i64 0, .int .i64 0, .int .i64 0, .int .i64 0, .int .i64 0, .int .i64 0, .int .i64 0, .int .i64 0, .int .i64 0, .int .i64 0]) ?_ 0 _ rfl; (with_reducible repeat (first | refine blk_drewN ?_ _ | refine blk_drew ?_ | refine blk_alloc ?_ _)); exact BK276.out) Try.underlying24 rfl (by kernel_rfl)) rfl ?_
        exact ⟨by first | rfl | (simp [errW_none, errW_some] <;> rfl) | (simp [*, errW_none, errW_some] <;> rfl), by repeat (first | (with_reducible first | exact HB.out | apply below_alloc | apply pw_below_drewN | apply below_drew1 | refine below_set ?_ GE276.out | refine below_set ?_ GE277.out) | exact HB.out)⟩

end Go.Proofs.Ytfkknipkfcmiaaa.PAll
