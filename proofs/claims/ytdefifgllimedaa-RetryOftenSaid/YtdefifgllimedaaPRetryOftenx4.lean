-- PRINTED BY print.sh 35421559b90ae4d0a3588c463048766b98c2df88dd9212a6774a882060cdf62d: not written by this session
import Derived.Test.YtdefifgllimedaaPRetryOftenx0
import Derived.Test.YtdefifgllimedaaPRetryOftenx1
import Derived.Test.YtdefifgllimedaaPRetryOftenx2
import Derived.Test.YtdefifgllimedaaPRetryOftenx3
namespace Go.Proofs.Ytdefifgllimedaa.PRetryOften
open Go.RowKit Go.Proofs.YtdefifgllimedaaW.PrintWords Go.Proofs.YtdefifgllimedaaW.PrintLast Go.Proofs.YtdefifgllimedaaW.PrintMore
attribute [local go_sem] max2_int min2_int max_two min_two max_three min_three max_four min_four   -- for this text's walks alone
set_option linter.unusedVariables false
set_option linter.unusedSimpArgs false

attribute [local go_sem high] eqA23
/-! ### remontoirlaw11_RetryOften: function 5 -/
mutual
def remontoirlaw11_RetryOften.l0 : Nat → List Int → Int → Int → Int → Int → Int → Option (Bool)
  | 0, _, _, _, _, _, _ => none
  | k + 1, x1, x5, x7, x8, x136000, x136001 => if x8 < (x1.length : Int) then (remontoirlaw11_RetryOften.j1 k x1 x5 x7 x8 (decide (x8 < 100)) x136000 x136001) else (remontoirlaw11_RetryOften.j1 k x1 x5 x7 x8 false x136000 x136001)
def remontoirlaw11_RetryOften.j1 : Nat → List Int → Int → Int → Int → Bool → Int → Int → Option (Bool)
  | 0, _, _, _, _, _, _, _ => none
  | k + 1, x1, x5, x7, x8, x23, x136000, x136001 => if x23 = true then (if 0 ≤ x8 then (if x8 < (x1.length : Int) then (if (rd x1 x8) < 0 then (remontoirlaw11_RetryOften.j2 k x1 x5 x7 x8 (rd x1 x8) true x136000 x136001) else (remontoirlaw11_RetryOften.j2 k x1 x5 x7 x8 (rd x1 x8) (decide ((rd x1 x8) > 9)) x136000 x136001)) else (none)) else (none)) else ((remontoirlaw11_wakes.f k).bind fun t136 => (some t136))
def remontoirlaw11_RetryOften.j2 : Nat → List Int → Int → Int → Int → Int → Bool → Int → Int → Option (Bool)
  | 0, _, _, _, _, _, _, _, _ => none
  | k + 1, x1, x5, x7, x8, x9, x35, x136000, x136001 => if x35 = true then ((remontoirkeep_Mod.f x9 4).bind fun t138 => (remontoirlaw11_RetryOften.j3 k x1 x5 x7 x8 (wrap64 (1 + t138)) x136000 x136001)) else (remontoirlaw11_RetryOften.j3 k x1 x5 x7 x8 x9 x136000 x136001)
def remontoirlaw11_RetryOften.j3 : Nat → List Int → Int → Int → Int → Int → Int → Int → Option (Bool)
  | 0, _, _, _, _, _, _, _ => none
  | k + 1, x1, x5, x7, x8, x9, x136000, x136001 => (retry_Step.f k x5 x136000 x136001 x9).bind fun bt139 => (if bt139.2.2 = true then (if x136000 = 4 then (remontoirlaw11_RetryOften.j4 k x1 x5 x7 x8 x9 true bt139.1 bt139.2.1) else (if x136000 = 5 then (remontoirlaw11_RetryOften.j4 k x1 x5 x7 x8 x9 true bt139.1 bt139.2.1) else ((retry_Good.f k x5 bt139.1 bt139.2.1).bind fun t143 => (remontoirlaw11_RetryOften.j4 k x1 x5 x7 x8 x9 (!t143) bt139.1 bt139.2.1)))) else (if (!(bt139.1 == 0) || (!(bt139.2.1 == 0))) = true then (some false) else (remontoirlaw11_RetryOften.l0 k x1 x5 x7 (wrap64 (x8 + 1)) x136000 x136001)))
def remontoirlaw11_RetryOften.j4 : Nat → List Int → Int → Int → Int → Int → Bool → Int → Int → Option (Bool)
  | 0, _, _, _, _, _, _, _, _ => none
  | k + 1, x1, x5, x7, x8, x9, x64, x143000, x143001 => if x64 = true then (some false) else (if x9 = 1 then (if x143001 = (wrap64 (x7 + 1)) then (if (wrap64 (x7 + 1)) > (wrap64 (x5 + 1)) then (some false) else (if x143000 = 5 then (if (wrap64 (x7 + 1)) = (wrap64 (x5 + 1)) then (remontoirlaw11_RetryOften.l0 k x1 x5 (wrap64 (x7 + 1)) (wrap64 (x8 + 1)) x143000 x143001) else (some false)) else (remontoirlaw11_RetryOften.l0 k x1 x5 (wrap64 (x7 + 1)) (wrap64 (x8 + 1)) x143000 x143001))) else (some false)) else (if x143001 = x7 then (if x7 > (wrap64 (x5 + 1)) then (some false) else (if x143000 = 5 then (if x7 = (wrap64 (x5 + 1)) then (remontoirlaw11_RetryOften.l0 k x1 x5 x7 (wrap64 (x8 + 1)) x143000 x143001) else (some false)) else (remontoirlaw11_RetryOften.l0 k x1 x5 x7 (wrap64 (x8 + 1)) x143000 x143001))) else (some false)))
end
def remontoirlaw11_RetryOften.f (k : Nat) (a0 : Int) (l1 : List Int) : Option (Bool) := remontoirlaw11_RetryOften.l0 k l1 (Int.tmod (wrap64 (a0)) 10) 0 0 1 0
theorem remontoirlaw11_RetryOften.mono_l : ∀ k, (∀ y0 y1 y2 y3 y4 y5, LeO (remontoirlaw11_RetryOften.l0 k y0 y1 y2 y3 y4 y5) (remontoirlaw11_RetryOften.l0 (k + 1) y0 y1 y2 y3 y4 y5)) ∧ (∀ y0 y1 y2 y3 y4 y5 y6, LeO (remontoirlaw11_RetryOften.j1 k y0 y1 y2 y3 y4 y5 y6) (remontoirlaw11_RetryOften.j1 (k + 1) y0 y1 y2 y3 y4 y5 y6)) ∧ (∀ y0 y1 y2 y3 y4 y5 y6 y7, LeO (remontoirlaw11_RetryOften.j2 k y0 y1 y2 y3 y4 y5 y6 y7) (remontoirlaw11_RetryOften.j2 (k + 1) y0 y1 y2 y3 y4 y5 y6 y7)) ∧ (∀ y0 y1 y2 y3 y4 y5 y6, LeO (remontoirlaw11_RetryOften.j3 k y0 y1 y2 y3 y4 y5 y6) (remontoirlaw11_RetryOften.j3 (k + 1) y0 y1 y2 y3 y4 y5 y6)) ∧ (∀ y0 y1 y2 y3 y4 y5 y6 y7, LeO (remontoirlaw11_RetryOften.j4 k y0 y1 y2 y3 y4 y5 y6 y7) (remontoirlaw11_RetryOften.j4 (k + 1) y0 y1 y2 y3 y4 y5 y6 y7))
  | 0 => ⟨fun _ _ _ _ _ _ r h => by simp [remontoirlaw11_RetryOften.l0] at h, fun _ _ _ _ _ _ _ r h => by simp [remontoirlaw11_RetryOften.j1] at h, fun _ _ _ _ _ _ _ _ r h => by simp [remontoirlaw11_RetryOften.j2] at h, fun _ _ _ _ _ _ _ r h => by simp [remontoirlaw11_RetryOften.j3] at h, fun _ _ _ _ _ _ _ _ r h => by simp [remontoirlaw11_RetryOften.j4] at h⟩
  | k + 1 => by
    obtain ⟨ih0, ih1, ih2, ih3, ih4⟩ := remontoirlaw11_RetryOften.mono_l k
    refine ⟨?_, ?_, ?_, ?_, ?_⟩
    · intro y0 y1 y2 y3 y4 y5
      unfold remontoirlaw11_RetryOften.l0
      repeat' first
      | (with_reducible exact ih0 _ _ _ _ _ _)
      | (with_reducible exact ih1 _ _ _ _ _ _ _)
      | (with_reducible exact ih2 _ _ _ _ _ _ _ _)
      | (with_reducible exact ih3 _ _ _ _ _ _ _)
      | (with_reducible exact ih4 _ _ _ _ _ _ _ _)
      | (with_reducible exact remontoirlaw11_wakes.mono _)
      | (with_reducible exact retry_Good.mono _ _ _ _)
      | (with_reducible exact retry_Step.mono _ _ _ _ _)
      | (with_reducible exact LeO.refl _)
      | (with_reducible exact LeO.none _)
      | (with_reducible refine LeO.ite ?_ ?_)
      | (with_reducible refine LeO.bind ?_ (fun _ => ?_))
      | exact ih0 _ _ _ _ _ _
      | exact ih1 _ _ _ _ _ _ _
      | exact ih2 _ _ _ _ _ _ _ _
      | exact ih3 _ _ _ _ _ _ _
      | exact ih4 _ _ _ _ _ _ _ _
      | exact remontoirlaw11_wakes.mono _
      | exact retry_Good.mono _ _ _ _
      | exact retry_Step.mono _ _ _ _ _
      | exact LeO.none _
      | refine LeO.ite ?_ ?_
      | refine LeO.bind ?_ (fun _ => ?_)
    · intro y0 y1 y2 y3 y4 y5 y6
      unfold remontoirlaw11_RetryOften.j1
      repeat' first
      | (with_reducible exact ih0 _ _ _ _ _ _)
      | (with_reducible exact ih1 _ _ _ _ _ _ _)
      | (with_reducible exact ih2 _ _ _ _ _ _ _ _)
      | (with_reducible exact ih3 _ _ _ _ _ _ _)
      | (with_reducible exact ih4 _ _ _ _ _ _ _ _)
      | (with_reducible exact remontoirlaw11_wakes.mono _)
      | (with_reducible exact retry_Good.mono _ _ _ _)
      | (with_reducible exact retry_Step.mono _ _ _ _ _)
      | (with_reducible exact LeO.refl _)
      | (with_reducible exact LeO.none _)
      | (with_reducible refine LeO.ite ?_ ?_)
      | (with_reducible refine LeO.bind ?_ (fun _ => ?_))
      | exact ih0 _ _ _ _ _ _
      | exact ih1 _ _ _ _ _ _ _
      | exact ih2 _ _ _ _ _ _ _ _
      | exact ih3 _ _ _ _ _ _ _
      | exact ih4 _ _ _ _ _ _ _ _
      | exact remontoirlaw11_wakes.mono _
      | exact retry_Good.mono _ _ _ _
      | exact retry_Step.mono _ _ _ _ _
      | exact LeO.none _
      | refine LeO.ite ?_ ?_
      | refine LeO.bind ?_ (fun _ => ?_)
    · intro y0 y1 y2 y3 y4 y5 y6 y7
      unfold remontoirlaw11_RetryOften.j2
      repeat' first
      | (with_reducible exact ih0 _ _ _ _ _ _)
      | (with_reducible exact ih1 _ _ _ _ _ _ _)
      | (with_reducible exact ih2 _ _ _ _ _ _ _ _)
      | (with_reducible exact ih3 _ _ _ _ _ _ _)
      | (with_reducible exact ih4 _ _ _ _ _ _ _ _)
      | (with_reducible exact remontoirlaw11_wakes.mono _)
      | (with_reducible exact retry_Good.mono _ _ _ _)
      | (with_reducible exact retry_Step.mono _ _ _ _ _)
      | (with_reducible exact LeO.refl _)
      | (with_reducible exact LeO.none _)
      | (with_reducible refine LeO.ite ?_ ?_)
      | (with_reducible refine LeO.bind ?_ (fun _ => ?_))
      | exact ih0 _ _ _ _ _ _
      | exact ih1 _ _ _ _ _ _ _
      | exact ih2 _ _ _ _ _ _ _ _
      | exact ih3 _ _ _ _ _ _ _
      | exact ih4 _ _ _ _ _ _ _ _
      | exact remontoirlaw11_wakes.mono _
      | exact retry_Good.mono _ _ _ _
      | exact retry_Step.mono _ _ _ _ _
      | exact LeO.none _
      | refine LeO.ite ?_ ?_
      | refine LeO.bind ?_ (fun _ => ?_)
    · intro y0 y1 y2 y3 y4 y5 y6
      unfold remontoirlaw11_RetryOften.j3
      repeat' first
      | (with_reducible exact ih0 _ _ _ _ _ _)
      | (with_reducible exact ih1 _ _ _ _ _ _ _)
      | (with_reducible exact ih2 _ _ _ _ _ _ _ _)
      | (with_reducible exact ih3 _ _ _ _ _ _ _)
      | (with_reducible exact ih4 _ _ _ _ _ _ _ _)
      | (with_reducible exact remontoirlaw11_wakes.mono _)
      | (with_reducible exact retry_Good.mono _ _ _ _)
      | (with_reducible exact retry_Step.mono _ _ _ _ _)
      | (with_reducible exact LeO.refl _)
      | (with_reducible exact LeO.none _)
      | (with_reducible refine LeO.ite ?_ ?_)
      | (with_reducible refine LeO.bind ?_ (fun _ => ?_))
      | exact ih0 _ _ _ _ _ _
      | exact ih1 _ _ _ _ _ _ _
      | exact ih2 _ _ _ _ _ _ _ _
      | exact ih3 _ _ _ _ _ _ _
      | exact ih4 _ _ _ _ _ _ _ _
      | exact remontoirlaw11_wakes.mono _
      | exact retry_Good.mono _ _ _ _
      | exact retry_Step.mono _ _ _ _ _
      | exact LeO.none _
      | refine LeO.ite ?_ ?_
      | refine LeO.bind ?_ (fun _ => ?_)
    · intro y0 y1 y2 y3 y4 y5 y6 y7
      unfold remontoirlaw11_RetryOften.j4
      repeat' first
      | (with_reducible exact ih0 _ _ _ _ _ _)
      | (with_reducible exact ih1 _ _ _ _ _ _ _)
      | (with_reducible exact ih2 _ _ _ _ _ _ _ _)
      | (with_reducible exact ih3 _ _ _ _ _ _ _)
      | (with_reducible exact ih4 _ _ _ _ _ _ _ _)
      | (with_reducible exact remontoirlaw11_wakes.mono _)
      | (with_reducible exact retry_Good.mono _ _ _ _)
      | (with_reducible exact retry_Step.mono _ _ _ _ _)
      | (with_reducible exact LeO.refl _)
      | (with_reducible exact LeO.none _)
      | (with_reducible refine LeO.ite ?_ ?_)
      | (with_reducible refine LeO.bind ?_ (fun _ => ?_))
      | exact ih0 _ _ _ _ _ _
      | exact ih1 _ _ _ _ _ _ _
      | exact ih2 _ _ _ _ _ _ _ _
      | exact ih3 _ _ _ _ _ _ _
      | exact ih4 _ _ _ _ _ _ _ _
      | exact remontoirlaw11_wakes.mono _
      | exact retry_Good.mono _ _ _ _
      | exact retry_Step.mono _ _ _ _ _
      | exact LeO.none _
      | refine LeO.ite ?_ ?_
      | refine LeO.bind ?_ (fun _ => ?_)
theorem remontoirlaw11_RetryOften.mono : ∀ a0 a1 k, LeO (remontoirlaw11_RetryOften.f k a0 a1) (remontoirlaw11_RetryOften.f (k + 1) a0 a1) := by
  intro a0 a1 k
  obtain ⟨ih0, ih1, ih2, ih3, ih4⟩ := remontoirlaw11_RetryOften.mono_l k
  unfold remontoirlaw11_RetryOften.f
  repeat' first
      | (with_reducible exact ih0 _ _ _ _ _ _)
      | (with_reducible exact ih1 _ _ _ _ _ _ _)
      | (with_reducible exact ih2 _ _ _ _ _ _ _ _)
      | (with_reducible exact ih3 _ _ _ _ _ _ _)
      | (with_reducible exact ih4 _ _ _ _ _ _ _ _)
      | (with_reducible exact remontoirlaw11_wakes.mono _)
      | (with_reducible exact retry_Good.mono _ _ _ _)
      | (with_reducible exact retry_Step.mono _ _ _ _ _)
      | (with_reducible exact LeO.refl _)
      | (with_reducible exact LeO.none _)
      | (with_reducible refine LeO.ite ?_ ?_)
      | (with_reducible refine LeO.bind ?_ (fun _ => ?_))
      | exact ih0 _ _ _ _ _ _
      | exact ih1 _ _ _ _ _ _ _
      | exact ih2 _ _ _ _ _ _ _ _
      | exact ih3 _ _ _ _ _ _ _
      | exact ih4 _ _ _ _ _ _ _ _
      | exact remontoirlaw11_wakes.mono _
      | exact retry_Good.mono _ _ _ _
      | exact retry_Step.mono _ _ _ _ _
      | exact LeO.none _
      | refine LeO.ite ?_ ?_
      | refine LeO.bind ?_ (fun _ => ?_)
set_option maxHeartbeats 8000000 in
set_option maxRecDepth 100000 in
theorem remontoirlaw11_RetryOften.calls (k : Nat) (a0 : Int) (A1 : Option Addr) (c1 : Nat) (l1 : List Int) (r : Bool) (w : World) (hr1 : Kd.C (Kd.int .i64) w A1 l1.length l1) (hc1 : l1.length ≤ c1) (h : remontoirlaw11_RetryOften.f k a0 l1 = some r) :
    Calls Try.prog 5 #[.int .u8 a0, .slice A1 l1.length c1] w fun e w' => e = .returned (.bool r) ∧ Below w.heap.size w w' := by
  have hu23 := Try.underlying23
  have HR1 := Aside0.mk hr1
  have HC1 := Aside0.mk hc1
  clear hr1 hc1
  have HB := Aside0.mk (Below.refl w.heap.size w)
  have H : (remontoirlaw11_RetryOften.l0 k l1 (Int.tmod (wrap64 (a0)) 10) 0 0 1 0) = some r := h
  clear h
  have H' := Aside0.mk H
  clear H
  go_enter Try.func5, Try.ntmps5
  go_wp2_with (first | ((with_reducible refine gate_dst (N := 6) rfl ?_); refine box_event ?hg (N := 6) ?hd (cs := #[.int .i64 0, .int .i64 0]) (t := 23) ?hr ?_; (case hd => rfl); (case hg => rfl); (case hr => first | (go_simp; done) | (go_simp; rfl)); intro gb135 hg w3 hbox hb; have n0_ := Aside0.mk (below_step (by repeat (first | (with_reducible first | exact HB.out | apply below_alloc | apply pw_below_drewN | apply below_drew1) | exact HB.out)) hb); have n1_ := Aside0.mk (hbox); have n2_ := Aside0.mk ((by rw [hg]; exact (below_size (by repeat (first | (with_reducible first | exact HB.out | apply below_alloc | apply pw_below_drewN | apply below_drew1) | exact HB.out))) : w.heap.size ≤ gb135)); have n3_ := Aside0.mk ((by rw [hg]; exact (below_size (by repeat (first | (with_reducible first | exact HB.out | apply below_alloc | apply pw_below_drewN | apply below_drew1) | exact HB.out))) : w.heap.size ≤ gb135)); clear HB; have HB := n0_; have BK135 := n1_; have GW135 := n2_; have GE135 := n3_; clear n0_ n1_ n2_ n3_; clear hb hbox hg; have hcz4_0 : w3.cell? ⟨gb135, 0, none⟩ = some (.int .i64 0) := (blk_cell BK135.out 0).trans rfl; have hcz4_1 : w3.cell? ⟨gb135, 1, none⟩ = some (.int .i64 0) := (blk_cell BK135.out 1).trans rfl; have hfz4_0 := blk_frozen BK135.out 0; have hfz4_1 := blk_frozen BK135.out 1))
  go_loopg [7, 8] k (fun kq v7 v8 w' => ∃ (x7_1 : Int) (x8_1 : Int) (x136000_1 : Int) (x136001_1 : Int), v7 = .int .i64 x7_1 ∧ v8 = .int .i64 x8_1 ∧ Aside0 (remontoirlaw11_RetryOften.l0 kq l1 (Int.tmod (wrap64 (a0)) 10) x7_1 x8_1 x136000_1 x136001_1 = some r) ∧ Aside0 (kq ≤ k) ∧ Aside0 (w'.heap[gb135]? = some (.cells #[.int .i64 x136000_1, .int .i64 x136001_1] 23 (0, 0))) ∧ Aside0 (Below w.heap.size w w'))
  case atStart => exact ⟨(0), (0), (1), (0), (by first | rfl | (simp; done) | (simp [*]; done)), (by first | rfl | (simp; done) | (simp [*]; done)), H', ⟨Nat.le_refl _⟩, ⟨by (with_reducible repeat (first | refine blk_drewN ?_ _ | refine blk_drew ?_ | refine blk_alloc ?_ _)); refine blk_put (cs := #[.int .i64 1, .int .i64 0]) ?_ 1 _ rfl; (with_reducible repeat (first | refine blk_drewN ?_ _ | refine blk_drew ?_ | refine blk_alloc ?_ _)); refine blk_put (cs := #[.int .i64 0, .int .i64 0]) ?_ 0 _ rfl; (with_reducible repeat (first | refine blk_drewN ?_ _ | refine blk_drew ?_ | refine blk_alloc ?_ _)); exact BK135.out⟩, ⟨by repeat (first | (with_reducible first | exact HB.out | apply below_alloc | apply pw_below_drewN | apply below_drew1 | refine below_set ?_ GE135.out) | exact HB.out)⟩⟩
  case round =>
    clear H'
    try clear c1
    try clear p2
    try clear hcz4_0
    try clear hcz4_1
    try clear hfz4_0
    try clear hfz4_1
    obtain ⟨x7_1, x8_1, x136000_1, x136001_1, rfl, rfl, HA, HK1, BK135, HB⟩ := hrel
    cases gk with
    | zero => exact absurd HA.out (by simp [remontoirlaw11_RetryOften.l0])
    | succ k1 =>
      have H := HA.out
      clear HA
      simp only [remontoirlaw11_RetryOften.l0] at H
      have HC5 := Aside0.mk H
      clear H
      go_upto_region 4 with (fail)
      go_cut [23] (fun v23 wc => ∃ (kq : Nat) (x23_4 : Bool), v23 = .bool x23_4 ∧ Aside0 (remontoirlaw11_RetryOften.j1 kq l1 (Int.tmod (wrap64 (a0)) 10) x7_1 x8_1 x23_4 x136000_1 x136001_1 = some r) ∧ Aside0 (kq ≤ k1) ∧ Aside0 (wc.heap[gb135]? = some (.cells #[.int .i64 x136000_1, .int .i64 x136001_1] 23 (0, 0))) ∧ Aside0 (Below w.heap.size w wc))
      case first =>
        have H := HC5.out
        clear HC5
        by_cases c6 : x8_1 < (l1.length : Int)
        · rw [if_pos c6] at H
          have c6b0 : decide (x8_1 < (l1.length : Int)) = true := decide_eq_true c6
          clear c6
          (first | rw [c6b0] | (simp only [i64_w, i32_w]; rw [c6b0]) | skip)
          have H' := Aside0.mk H
          clear H
          go_wp2
          go_meet
          case rel => exact ⟨_, (decide (x8_1 < 100)), (by first | rfl | (simp; done) | (simp [*]; done)), H', ⟨by have := HK1.out; first | omega | exact Nat.le_refl _⟩, ⟨by (with_reducible repeat (first | refine blk_drewN ?_ _ | refine blk_drew ?_ | refine blk_alloc ?_ _)); exact BK135.out⟩, ⟨by repeat (first | (with_reducible first | exact HB.out | apply below_alloc | apply pw_below_drewN | apply below_drew1 | refine below_set ?_ GE135.out) | exact HB.out)⟩⟩
        · rw [if_neg c6] at H
          have c6b0 : decide (x8_1 < (l1.length : Int)) = false := decide_eq_false c6
          clear c6
          (first | rw [c6b0] | (simp only [i64_w, i32_w]; rw [c6b0]) | skip)
          have H' := Aside0.mk H
          clear H
          go_wp2
          go_meet
          case rel => exact ⟨_, (false), (by first | rfl | (simp; done) | (simp [*]; done)), H', ⟨by have := HK1.out; first | omega | exact Nat.le_refl _⟩, ⟨by (with_reducible repeat (first | refine blk_drewN ?_ _ | refine blk_drew ?_ | refine blk_alloc ?_ _)); exact BK135.out⟩, ⟨by repeat (first | (with_reducible first | exact HB.out | apply below_alloc | apply pw_below_drewN | apply below_drew1 | refine below_set ?_ GE135.out) | exact HB.out)⟩⟩
      case rest =>
        clear HC5
        try clear c1
        try clear p2
        try clear c5
        try clear c6
        try clear c6b0
        try clear p6
        try clear hcz4_0
        try clear hcz4_1
        try clear hfz4_0
        try clear hfz4_1
        try clear p2
        obtain ⟨kq, x23_4, rfl, HA, HJ4, BK135, HB⟩ := hcut
        cases kq with
        | zero => exact absurd HA.out (by simp [remontoirlaw11_RetryOften.j1])
        | succ kj4 =>
          have H := HA.out
          clear HA
          simp only [remontoirlaw11_RetryOften.j1] at H
          by_cases c7 : x23_4 = true
          · subst c7
            have H1 : (if 0 ≤ x8_1 then (if x8_1 < (l1.length : Int) then (if (rd l1 x8_1) < 0 then (remontoirlaw11_RetryOften.j2 kj4 l1 (Int.tmod (wrap64 (a0)) 10) x7_1 x8_1 (rd l1 x8_1) true x136000_1 x136001_1) else (remontoirlaw11_RetryOften.j2 kj4 l1 (Int.tmod (wrap64 (a0)) 10) x7_1 x8_1 (rd l1 x8_1) (decide ((rd l1 x8_1) > 9)) x136000_1 x136001_1)) else (none)) else (none)) = some r := by rw [if_pos rfl] at H; exact H
            clear H
            have H := H1
            clear H1
            by_cases c8 : 0 ≤ x8_1
            · rw [if_pos c8] at H
              have c8b0 : decide (0 ≤ x8_1) = true := decide_eq_true c8
              clear c8
              by_cases c9 : x8_1 < (l1.length : Int)
              · rw [if_pos c9] at H
                have c9b0 : decide (x8_1 < (l1.length : Int)) = true := decide_eq_true c9
                clear c9
                have HC10 := Aside0.mk H
                clear H
                have p137 : 0 ≤ (x8_1 : Int) := of_decide_eq_true (by first | (with_reducible assumption) | assumption)
                have q137 : x8_1 < (l1.length : Int) := of_decide_eq_true (by first | (with_reducible assumption) | assumption)
                obtain ⟨ad137, e137, hx137_0⟩ := Kd.at_int HR1.out x8_1 p137 q137
                cases e137
                replace hx137_0 := (HB.out.cell (World.block_lt_of_cell? w _ hx137_0)).trans hx137_0
                replace p137 := eq_true p137
                replace q137 := eq_true q137
                go_upto_region 7 with (fail)
                go_cut [35] (fun v35 wc => ∃ (kq : Nat) (x35_9 : Bool), v35 = .bool x35_9 ∧ Aside0 (remontoirlaw11_RetryOften.j2 kq l1 (Int.tmod (wrap64 (a0)) 10) x7_1 x8_1 (rd l1 x8_1) x35_9 x136000_1 x136001_1 = some r) ∧ Aside0 (kq ≤ kj4) ∧ Aside0 (wc.heap[gb135]? = some (.cells #[.int .i64 x136000_1, .int .i64 x136001_1] 23 (0, 0))) ∧ Aside0 (Below w.heap.size w wc))
                case first =>
                  have H := HC10.out
                  clear HC10
                  by_cases c11 : (rd l1 x8_1) < 0
                  · rw [if_pos c11] at H
                    have c11b0 : decide ((rd l1 x8_1) < 0) = true := decide_eq_true c11
                    clear c11
                    (first | rw [c11b0] | (simp only [i64_w, i32_w]; rw [c11b0]) | skip)
                    have H' := Aside0.mk H
                    clear H
                    go_wp2
                    go_meet
                    case rel => exact ⟨_, (true), (by first | rfl | (simp; done) | (simp [*]; done)), H', ⟨by have := HK1.out; have := HJ4.out; first | omega | exact Nat.le_refl _⟩, ⟨by (with_reducible repeat (first | refine blk_drewN ?_ _ | refine blk_drew ?_ | refine blk_alloc ?_ _)); exact BK135.out⟩, ⟨by repeat (first | (with_reducible first | exact HB.out | apply below_alloc | apply pw_below_drewN | apply below_drew1 | refine below_set ?_ GE135.out) | exact HB.out)⟩⟩
                  · rw [if_neg c11] at H
                    have c11b0 : decide ((rd l1 x8_1) < 0) = false := decide_eq_false c11
                    clear c11
                    (first | rw [c11b0] | (simp only [i64_w, i32_w]; rw [c11b0]) | skip)
                    have H' := Aside0.mk H
                    clear H
                    go_wp2
                    go_meet
                    case rel => exact ⟨_, (decide ((rd l1 x8_1) > 9)), (by first | rfl | (simp; done) | (simp [*]; done)), H', ⟨by have := HK1.out; have := HJ4.out; first | omega | exact Nat.le_refl _⟩, ⟨by (with_reducible repeat (first | refine blk_drewN ?_ _ | refine blk_drew ?_ | refine blk_alloc ?_ _)); exact BK135.out⟩, ⟨by repeat (first | (with_reducible first | exact HB.out | apply below_alloc | apply pw_below_drewN | apply below_drew1 | refine below_set ?_ GE135.out) | exact HB.out)⟩⟩
                case rest =>
                  clear HC10
                  try clear c1
                  try clear p1
                  try clear q1
                  try clear hx1
                  try clear p2
                  try clear c5
                  try clear c6
                  try clear c6b0
                  try clear p6
                  try clear c7
                  try clear c8
                  try clear c8b0
                  try clear c9
                  try clear c9b0
                  try clear c11
                  try clear c11b0
                  try clear hcz4_0
                  try clear hcz4_1
                  try clear hfz4_0
                  try clear hfz4_1
                  try clear hx137_0
                  try clear p137
                  try clear p2
                  try clear p6
                  try clear q137
                  obtain ⟨kq, x35_9, rfl, HA, HJ9, BK135, HB⟩ := hcut
                  cases kq with
                  | zero => exact absurd HA.out (by simp [remontoirlaw11_RetryOften.j2])
                  | succ kj9 =>
                    have H := HA.out
                    clear HA
                    simp only [remontoirlaw11_RetryOften.j2] at H
                    have HC12 := Aside0.mk H
                    clear H
                    go_upto_if 35 with (fail)
                    go_cut [9] (fun v9 wc => ∃ (kq : Nat) (x9_11 : Int), v9 = .int .i64 x9_11 ∧ Aside0 (remontoirlaw11_RetryOften.j3 kq l1 (Int.tmod (wrap64 (a0)) 10) x7_1 x8_1 x9_11 x136000_1 x136001_1 = some r) ∧ Aside0 (kq ≤ kj9) ∧ Aside0 (wc.heap[gb135]? = some (.cells #[.int .i64 x136000_1, .int .i64 x136001_1] 23 (0, 0))) ∧ Aside0 (Below w.heap.size w wc))
                    case first =>
                      have H := HC12.out
                      clear HC12
                      by_cases c13 : x35_9 = true
                      · subst c13
                        have H1 : ((remontoirkeep_Mod.f (rd l1 x8_1) 4).bind fun t138 => (remontoirlaw11_RetryOften.j3 kj9 l1 (Int.tmod (wrap64 (a0)) 10) x7_1 x8_1 (wrap64 (1 + t138)) x136000_1 x136001_1)) = some r := by rw [if_pos rfl] at H; exact H
                        clear H
                        have H := H1
                        clear H1
                        replace H := Option.bind_eq_some_iff.mp H
                        obtain ⟨t138, A140, H⟩ := H
                        replace H : (remontoirlaw11_RetryOften.j3 kj9 l1 (Int.tmod (wrap64 (a0)) 10) x7_1 x8_1 (wrap64 (1 + t138)) x136000_1 x136001_1) = some r := H
                        have A14 := Aside0.mk A140
                        clear A140
                        have H' := Aside0.mk H
                        clear H
                        go_wp2_with (first | ((with_reducible refine gate_callee (f := 17) rfl ?_); refine goesL_ (some 37) rfl rfl Try.func17 (by kernel_rfl) rfl #[.int .i64 (rd l1 x8_1), .int .i64 4] rfl (by (try simp only [List.map_toArray, List.map_cons, List.map_nil]); first | done | rfl | (simp only [List.length_drop, List.length_take]; rfl)) ?_; (with_reducible refine (remontoirkeep_Mod.calls (rd l1 x8_1) 4 t138 _ A14.out).mono ?_); rintro e w' ⟨rfl, ⟨nd, rfl⟩⟩; refine ⟨_, rfl, ?_⟩))
                        go_meet
                        case rel => exact ⟨_, (wrap64 (1 + t138)), (by first | rfl | (simp; done) | (simp [*]; done)), H', ⟨by have := HK1.out; have := HJ4.out; have := HJ9.out; first | omega | exact Nat.le_refl _⟩, ⟨by (with_reducible repeat (first | refine blk_drewN ?_ _ | refine blk_drew ?_ | refine blk_alloc ?_ _)); exact BK135.out⟩, ⟨by repeat (first | (with_reducible first | exact HB.out | apply below_alloc | apply pw_below_drewN | apply below_drew1 | refine below_set ?_ GE135.out) | exact HB.out)⟩⟩
                      · replace c13 := Bool.eq_false_iff.mpr c13
                        subst c13
                        have H1 : (remontoirlaw11_RetryOften.j3 kj9 l1 (Int.tmod (wrap64 (a0)) 10) x7_1 x8_1 (rd l1 x8_1) x136000_1 x136001_1) = some r := by rw [if_neg (show ¬ (false = true) by decide)] at H; exact H
                        clear H
                        have H := H1
                        clear H1
                        have H' := Aside0.mk H
                        clear H
                        go_wp2
                        go_meet
                        case rel => exact ⟨_, ((rd l1 x8_1)), (by first | rfl | (simp; done) | (simp [*]; done)), H', ⟨by have := HK1.out; have := HJ4.out; have := HJ9.out; first | omega | exact Nat.le_refl _⟩, ⟨by (with_reducible repeat (first | refine blk_drewN ?_ _ | refine blk_drew ?_ | refine blk_alloc ?_ _)); exact BK135.out⟩, ⟨by repeat (first | (with_reducible first | exact HB.out | apply below_alloc | apply pw_below_drewN | apply below_drew1 | refine below_set ?_ GE135.out) | exact HB.out)⟩⟩
                    case rest =>
                      clear HC12
                      try clear c1
                      try clear p1
                      try clear q1
                      try clear hx1
                      try clear p2
                      try clear c5
                      try clear c6
                      try clear c6b0
                      try clear p6
                      try clear c7
                      try clear c8
                      try clear c8b0
                      try clear c9
                      try clear c9b0
                      try clear c11
                      try clear c11b0
                      try clear c13
                      try clear p13
                      try clear q13
                      try clear hx13
                      try clear hcz4_0
                      try clear hcz4_1
                      try clear hfz4_0
                      try clear hfz4_1
                      try clear hx137_0
                      try clear p1
                      try clear p137
                      try clear p2
                      try clear p6
                      try clear q1
                      try clear q137
                      obtain ⟨kq, x9_11, rfl, HA, HJ11, BK135, HB⟩ := hcut
                      cases kq with
                      | zero => exact absurd HA.out (by simp [remontoirlaw11_RetryOften.j3])
                      | succ kj11 =>
                        have H := HA.out
                        clear HA
                        simp only [remontoirlaw11_RetryOften.j3] at H
                        replace H := Option.bind_eq_some_iff.mp H
                        obtain ⟨⟨t139, t140, t141⟩, A150, H⟩ := H
                        replace H : (if t141 = true then (if x136000_1 = 4 then (remontoirlaw11_RetryOften.j4 kj11 l1 (Int.tmod (wrap64 (a0)) 10) x7_1 x8_1 x9_11 true t139 t140) else (if x136000_1 = 5 then (remontoirlaw11_RetryOften.j4 kj11 l1 (Int.tmod (wrap64 (a0)) 10) x7_1 x8_1 x9_11 true t139 t140) else ((retry_Good.f kj11 (Int.tmod (wrap64 (a0)) 10) t139 t140).bind fun t143 => (remontoirlaw11_RetryOften.j4 kj11 l1 (Int.tmod (wrap64 (a0)) 10) x7_1 x8_1 x9_11 (!t143) t139 t140)))) else (if (!(t139 == 0) || (!(t140 == 0))) = true then (some false) else (remontoirlaw11_RetryOften.l0 kj11 l1 (Int.tmod (wrap64 (a0)) 10) x7_1 (wrap64 (x8_1 + 1)) x136000_1 x136001_1))) = some r := H
                        have A15 := Aside0.mk A150
                        clear A150
                        by_cases c16 : t141 = true
                        · subst c16
                          have H1 : (if x136000_1 = 4 then (remontoirlaw11_RetryOften.j4 kj11 l1 (Int.tmod (wrap64 (a0)) 10) x7_1 x8_1 x9_11 true t139 t140) else (if x136000_1 = 5 then (remontoirlaw11_RetryOften.j4 kj11 l1 (Int.tmod (wrap64 (a0)) 10) x7_1 x8_1 x9_11 true t139 t140) else ((retry_Good.f kj11 (Int.tmod (wrap64 (a0)) 10) t139 t140).bind fun t143 => (remontoirlaw11_RetryOften.j4 kj11 l1 (Int.tmod (wrap64 (a0)) 10) x7_1 x8_1 x9_11 (!t143) t139 t140)))) = some r := by rw [if_pos rfl] at H; exact H
                          clear H
                          have H := H1
                          clear H1
                          have HC17 := Aside0.mk H
                          clear H
                          have hcz18_0 : wc.cell? ⟨gb135, 0, none⟩ = some (.int .i64 x136000_1) := (blk_cell BK135.out 0).trans rfl
                          have hcz18_1 : wc.cell? ⟨gb135, 1, none⟩ = some (.int .i64 x136001_1) := (blk_cell BK135.out 1).trans rfl
                          have hfz18_0 := blk_frozen BK135.out 0
                          have hfz18_1 := blk_frozen BK135.out 1
                          go_upto_region 13 with (first | ((with_reducible refine gate_callee (f := 8) rfl ?_); refine goesL_ (some 43) rfl rfl Try.func8 (by kernel_rfl) rfl #[.int .i64 (Int.tmod (wrap64 (a0)) 10), .agg #[.int .i64 x136000_1, .int .i64 x136001_1], .int .i64 x9_11] rfl (by (try simp only [List.map_toArray, List.map_cons, List.map_nil]); first | done | rfl | (simp only [List.length_drop, List.length_take]; rfl)) ?_; (with_reducible refine (retry_Step.calls kj11 (Int.tmod (wrap64 (a0)) 10) x136000_1 x136001_1 x9_11 t139 t140 true _ A15.out).mono ?_); rintro e w19 ⟨rfl, hb⟩; refine ⟨_, rfl, ?_⟩; have n0_ := Aside0.mk (blk_below (g := gb135) (o := .cells #[.int .i64 x136000_1, .int .i64 x136001_1] 23 (0, 0)) (by (with_reducible repeat (first | refine blk_drewN ?_ _ | refine blk_drew ?_ | refine blk_alloc ?_ _)); exact BK135.out) hb); have n1_ := Aside0.mk (below_step (by repeat (first | (with_reducible first | exact HB.out | apply below_alloc | apply pw_below_drewN | apply below_drew1 | refine below_set ?_ GE135.out) | exact HB.out)) hb); clear BK135; clear HB; have BK135 := n0_; have HB := n1_; clear n0_ n1_; (try clear hb); (try clear hb2); (try clear hk); (try clear hi)) | ((with_reducible refine gate_dst (N := 10) rfl ?_); refine box_event ?hg (N := 10) ?hd (cs := #[.int .i64 0, .int .i64 0]) (t := 23) ?hr ?_; (case hd => rfl); (case hg => rfl); (case hr => first | (go_simp; done) | (go_simp; rfl)); intro gb142 hg w20 hbox hb; have n0_ := Aside0.mk (blk_below (g := gb135) (o := .cells #[.int .i64 x136000_1, .int .i64 x136001_1] 23 (0, 0)) (by (with_reducible repeat (first | refine blk_drewN ?_ _ | refine blk_drew ?_ | refine blk_alloc ?_ _)); exact BK135.out) hb); have n1_ := Aside0.mk (below_step (by repeat (first | (with_reducible first | exact HB.out | apply below_alloc | apply pw_below_drewN | apply below_drew1 | refine below_set ?_ GE135.out) | exact HB.out)) hb); have n2_ := Aside0.mk (hbox); have n3_ := Aside0.mk ((by rw [hg]; exact (below_size (by repeat (first | (with_reducible first | exact HB.out | apply below_alloc | apply pw_below_drewN | apply below_drew1 | refine below_set ?_ GE135.out) | exact HB.out))) : w.heap.size ≤ gb142)); have n4_ := Aside0.mk ((by rw [hg]; exact (below_size (by repeat (first | (with_reducible first | exact HB.out | apply below_alloc | apply pw_below_drewN | apply below_drew1 | refine below_set ?_ GE135.out) | exact HB.out))) : w.heap.size ≤ gb142)); have n5_ := Aside0.mk ((by rw [hg]; exact Nat.ne_of_lt (blk_lt (g := gb135) (o := .cells #[.int .i64 x136000_1, .int .i64 x136001_1] 23 (0, 0)) (by (with_reducible repeat (first | refine blk_drewN ?_ _ | refine blk_drew ?_ | refine blk_alloc ?_ _)); exact BK135.out)) : gb135 ≠ gb142)); have n6_ := Aside0.mk ((by rw [hg]; exact Nat.ne_of_gt (blk_lt (g := gb135) (o := .cells #[.int .i64 x136000_1, .int .i64 x136001_1] 23 (0, 0)) (by (with_reducible repeat (first | refine blk_drewN ?_ _ | refine blk_drew ?_ | refine blk_alloc ?_ _)); exact BK135.out)) : gb142 ≠ gb135)); clear BK135; clear HB; have BK135 := n0_; have HB := n1_; have BK142 := n2_; have GW142 := n3_; have GE142 := n4_; have NB135_142 := n5_; have NB142_135 := n6_; clear n0_ n1_ n2_ n3_ n4_ n5_ n6_; clear hb hbox hg; have hnb21 := NB142_135.out; have hnc21 := NB135_142.out; have hcz22_0 : w20.cell? ⟨gb142, 0, none⟩ = some (.int .i64 0) := (blk_cell BK142.out 0).trans rfl; have hcz22_1 : w20.cell? ⟨gb142, 1, none⟩ = some (.int .i64 0) := (blk_cell BK142.out 1).trans rfl; have hfz22_0 := blk_frozen BK142.out 0; have hfz22_1 := blk_frozen BK142.out 1))
                          (try simp only [Act.put, List.setIfInBounds_toArray, List.set_cons_zero, List.set_cons_succ])
                          go_cut [64] (fun v64 wc => ∃ (kq : Nat) (x64_16 : Bool), v64 = .bool x64_16 ∧ Aside0 (remontoirlaw11_RetryOften.j4 kq l1 (Int.tmod (wrap64 (a0)) 10) x7_1 x8_1 x9_11 x64_16 t139 t140 = some r) ∧ Aside0 (kq ≤ kj11) ∧ Aside0 (wc.heap[gb135]? = some (.cells #[.int .i64 x136000_1, .int .i64 x136001_1] 23 (0, 0))) ∧ Aside0 (wc.heap[gb142]? = some (.cells #[.int .i64 t139, .int .i64 t140] 23 (0, 0))) ∧ Aside0 (Below w.heap.size w wc))
                          case first =>
                            have H := HC17.out
                            clear HC17
                            by_cases c23 : x136000_1 = 4
                            · rw [if_pos c23] at H
                              have c23b0 : (x136000_1 == 4) = true := beq_iff_eq.mpr c23
                              have c23b1 : (x136000_1 != 4) = false := bne_eq_false_iff_eq.mpr c23
                              clear c23
                              (first | rw [c23b0] | (simp only [i64_w, i32_w]; rw [c23b0]) | skip)
                              have H' := Aside0.mk H
                              clear H
                              have hnb24 := NB135_142.out
                              have hnc24 := NB142_135.out
                              have hcz25_0 : w20.cell? ⟨gb135, 0, none⟩ = some (.int .i64 x136000_1) := (blk_cell BK135.out 0).trans rfl
                              have hcz25_1 : w20.cell? ⟨gb135, 1, none⟩ = some (.int .i64 x136001_1) := (blk_cell BK135.out 1).trans rfl
                              have hfz25_0 := blk_frozen BK135.out 0
                              have hfz25_1 := blk_frozen BK135.out 1
                              go_wp2
                              go_meet
                              case rel => exact ⟨_, (true), (by first | rfl | (simp; done) | (simp [*]; done)), H', ⟨by have := HK1.out; have := HJ4.out; have := HJ9.out; have := HJ11.out; first | omega | exact Nat.le_refl _⟩, ⟨by (with_reducible repeat (first | refine blk_drewN ?_ _ | refine blk_drew ?_ | refine blk_alloc ?_ _)); refine blk_far ?_ NB135_142.out _; (with_reducible repeat (first | refine blk_drewN ?_ _ | refine blk_drew ?_ | refine blk_alloc ?_ _)); refine blk_far ?_ NB135_142.out _; (with_reducible repeat (first | refine blk_drewN ?_ _ | refine blk_drew ?_ | refine blk_alloc ?_ _)); exact BK135.out⟩, ⟨by (with_reducible repeat (first | refine blk_drewN ?_ _ | refine blk_drew ?_ | refine blk_alloc ?_ _)); refine blk_put (cs := #[.int .i64 t139, .int .i64 0]) ?_ 1 _ rfl; (with_reducible repeat (first | refine blk_drewN ?_ _ | refine blk_drew ?_ | refine blk_alloc ?_ _)); refine blk_put (cs := #[.int .i64 0, .int .i64 0]) ?_ 0 _ rfl; (with_reducible repeat (first | refine blk_drewN ?_ _ | refine blk_drew ?_ | refine blk_alloc ?_ _)); exact BK142.out⟩, ⟨by repeat (first | (with_reducible first | exact HB.out | apply below_alloc | apply pw_below_drewN | apply below_drew1 | refine below_set ?_ GE135.out | refine below_set ?_ GE142.out) | exact HB.out)⟩⟩
                            · rw [if_neg c23] at H
                              have c23b0 : (x136000_1 == 4) = false := beq_eq_false_iff_ne.mpr c23
                              have c23b1 : (x136000_1 != 4) = true := bne_iff_ne.mpr c23
                              (first | rw [c23b0] | (simp only [i64_w, i32_w]; rw [c23b0]) | skip)
                              by_cases c26 : x136000_1 = 5
                              · rw [if_pos c26] at H
                                have c26b0 : (x136000_1 == 5) = true := beq_iff_eq.mpr c26
                                have c26b1 : (x136000_1 != 5) = false := bne_eq_false_iff_eq.mpr c26
                                clear c26
                                have H' := Aside0.mk H
                                clear H
                                have hnb27 := NB135_142.out
                                have hnc27 := NB142_135.out
                                have hcz28_0 : w20.cell? ⟨gb135, 0, none⟩ = some (.int .i64 x136000_1) := (blk_cell BK135.out 0).trans rfl
                                have hcz28_1 : w20.cell? ⟨gb135, 1, none⟩ = some (.int .i64 x136001_1) := (blk_cell BK135.out 1).trans rfl
                                have hfz28_0 := blk_frozen BK135.out 0
                                have hfz28_1 := blk_frozen BK135.out 1
                                go_wp2
                                go_meet
                                case rel => exact ⟨_, (true), (by first | rfl | (simp; done) | (simp [*]; done)), H', ⟨by have := HK1.out; have := HJ4.out; have := HJ9.out; have := HJ11.out; first | omega | exact Nat.le_refl _⟩, ⟨by (with_reducible repeat (first | refine blk_drewN ?_ _ | refine blk_drew ?_ | refine blk_alloc ?_ _)); refine blk_far ?_ NB135_142.out _; (with_reducible repeat (first | refine blk_drewN ?_ _ | refine blk_drew ?_ | refine blk_alloc ?_ _)); refine blk_far ?_ NB135_142.out _; (with_reducible repeat (first | refine blk_drewN ?_ _ | refine blk_drew ?_ | refine blk_alloc ?_ _)); exact BK135.out⟩, ⟨by (with_reducible repeat (first | refine blk_drewN ?_ _ | refine blk_drew ?_ | refine blk_alloc ?_ _)); refine blk_put (cs := #[.int .i64 t139, .int .i64 0]) ?_ 1 _ rfl; (with_reducible repeat (first | refine blk_drewN ?_ _ | refine blk_drew ?_ | refine blk_alloc ?_ _)); refine blk_put (cs := #[.int .i64 0, .int .i64 0]) ?_ 0 _ rfl; (with_reducible repeat (first | refine blk_drewN ?_ _ | refine blk_drew ?_ | refine blk_alloc ?_ _)); exact BK142.out⟩, ⟨by repeat (first | (with_reducible first | exact HB.out | apply below_alloc | apply pw_below_drewN | apply below_drew1 | refine below_set ?_ GE135.out | refine below_set ?_ GE142.out) | exact HB.out)⟩⟩
                              · rw [if_neg c26] at H
                                have c26b0 : (x136000_1 == 5) = false := beq_eq_false_iff_ne.mpr c26
                                have c26b1 : (x136000_1 != 5) = true := bne_iff_ne.mpr c26
                                replace H := Option.bind_eq_some_iff.mp H
                                obtain ⟨t143, A290, H⟩ := H
                                replace H : (remontoirlaw11_RetryOften.j4 kj11 l1 (Int.tmod (wrap64 (a0)) 10) x7_1 x8_1 x9_11 (!t143) t139 t140) = some r := H
                                have A29 := Aside0.mk A290
                                clear A290
                                have H' := Aside0.mk H
                                clear H
                                have hnb30 := NB135_142.out
                                have hnc30 := NB142_135.out
                                have hcz31_0 : w20.cell? ⟨gb135, 0, none⟩ = some (.int .i64 x136000_1) := (blk_cell BK135.out 0).trans rfl
                                have hcz31_1 : w20.cell? ⟨gb135, 1, none⟩ = some (.int .i64 x136001_1) := (blk_cell BK135.out 1).trans rfl
                                have hfz31_0 := blk_frozen BK135.out 0
                                have hfz31_1 := blk_frozen BK135.out 1
                                have hcz32_0 : w20.cell? ⟨gb142, 0, none⟩ = some (.int .i64 0) := (blk_cell BK142.out 0).trans rfl
                                have hcz32_1 : w20.cell? ⟨gb142, 1, none⟩ = some (.int .i64 0) := (blk_cell BK142.out 1).trans rfl
                                have hfz32_0 := blk_frozen BK142.out 0
                                have hfz32_1 := blk_frozen BK142.out 1
                                go_wp2_with (first | (go_at_call 10; (with_reducible refine (retry_Good.calls kj11 (Int.tmod (wrap64 (a0)) 10) t139 t140 t143 _ A29.out).mono ?_); rintro e w33 ⟨rfl, hb⟩; have n0_ := Aside0.mk (blk_below (g := gb135) (o := .cells #[.int .i64 x136000_1, .int .i64 x136001_1] 23 (0, 0)) (by (with_reducible repeat (first | refine blk_drewN ?_ _ | refine blk_drew ?_ | refine blk_alloc ?_ _)); refine blk_far ?_ NB135_142.out _; (with_reducible repeat (first | refine blk_drewN ?_ _ | refine blk_drew ?_ | refine blk_alloc ?_ _)); refine blk_far ?_ NB135_142.out _; (with_reducible repeat (first | refine blk_drewN ?_ _ | refine blk_drew ?_ | refine blk_alloc ?_ _)); exact BK135.out) hb); have n1_ := Aside0.mk (blk_below (g := gb142) (o := .cells #[.int .i64 t139, .int .i64 t140] 23 (0, 0)) (by (with_reducible repeat (first | refine blk_drewN ?_ _ | refine blk_drew ?_ | refine blk_alloc ?_ _)); refine blk_put (cs := #[.int .i64 t139, .int .i64 0]) ?_ 1 _ rfl; (with_reducible repeat (first | refine blk_drewN ?_ _ | refine blk_drew ?_ | refine blk_alloc ?_ _)); refine blk_put (cs := #[.int .i64 0, .int .i64 0]) ?_ 0 _ rfl; (with_reducible repeat (first | refine blk_drewN ?_ _ | refine blk_drew ?_ | refine blk_alloc ?_ _)); exact BK142.out) hb); have n2_ := Aside0.mk (below_step (by repeat (first | (with_reducible first | exact HB.out | apply below_alloc | apply pw_below_drewN | apply below_drew1 | refine below_set ?_ GE135.out | refine below_set ?_ GE142.out) | exact HB.out)) hb); clear BK135; clear BK142; clear HB; have BK135 := n0_; have BK142 := n1_; have HB := n2_; clear n0_ n1_ n2_; (try clear hb); (try clear hb2); (try clear hk); (try clear hi)))
                                go_meet
                                case rel => exact ⟨_, (!t143), (by first | rfl | (simp; done) | (simp [*]; done)), H', ⟨by have := HK1.out; have := HJ4.out; have := HJ9.out; have := HJ11.out; first | omega | exact Nat.le_refl _⟩, ⟨by (with_reducible repeat (first | refine blk_drewN ?_ _ | refine blk_drew ?_ | refine blk_alloc ?_ _)); exact BK135.out⟩, ⟨by (with_reducible repeat (first | refine blk_drewN ?_ _ | refine blk_drew ?_ | refine blk_alloc ?_ _)); exact BK142.out⟩, ⟨by repeat (first | (with_reducible first | exact HB.out | apply below_alloc | apply pw_below_drewN | apply below_drew1 | refine below_set ?_ GE135.out | refine below_set ?_ GE142.out) | exact HB.out)⟩⟩
                          case rest =>
                            clear HC17
                            try clear c1
                            try clear p1
                            try clear q1
                            try clear hx1
                            try clear c2
                            try clear p2
                            try clear c3
                            try clear c5
                            try clear c6
                            try clear c6b0
                            try clear p6
                            try clear c7
                            try clear c8
                            try clear c8b0
                            try clear c9
                            try clear c9b0
                            try clear c11
                            try clear c11b0
                            try clear c13
                            try clear p13
                            try clear q13
                            try clear hx13
                            try clear c16
                            try clear c17
                            try clear c21
                            try clear c23
                            try clear c23b0
                            try clear c23b1
                            try clear c24
                            try clear c26
                            try clear c26b0
                            try clear c26b1
                            try clear c27
                            try clear c30
                            try clear hcz18_0
                            try clear hcz18_1
                            try clear hcz22_0
                            try clear hcz22_1
                            try clear hcz25_0
                            try clear hcz25_1
                            try clear hcz28_0
                            try clear hcz28_1
                            try clear hcz31_0
                            try clear hcz31_1
                            try clear hcz32_0
                            try clear hcz32_1
                            try clear hcz4_0
                            try clear hcz4_1
                            try clear hfz18_0
                            try clear hfz18_1
                            try clear hfz22_0
                            try clear hfz22_1
                            try clear hfz25_0
                            try clear hfz25_1
                            try clear hfz28_0
                            try clear hfz28_1
                            try clear hfz31_0
                            try clear hfz31_1
                            try clear hfz32_0
                            try clear hfz32_1
                            try clear hfz4_0
                            try clear hfz4_1
                            try clear hx137_0
                            try clear p1
                            try clear p13
                            try clear p137
                            try clear p2
                            try clear p6
                            try clear q1
                            try clear q13
                            try clear q137
                            obtain ⟨kq, x64_16, rfl, HA, HJ16, BK135, BK142, HB⟩ := hcut
                            cases kq with
                            | zero => exact absurd HA.out (by simp [remontoirlaw11_RetryOften.j4])
                            | succ kj16 =>
                              have H := HA.out
                              clear HA
                              simp only [remontoirlaw11_RetryOften.j4] at H
                              by_cases c34 : x64_16 = true
                              · subst c34
                                have H1 : (some false) = some r := by rw [if_pos rfl] at H; exact H
                                clear H
                                have H := H1
                                clear H1
                                obtain rfl := Option.some.inj H
                                go_wp2
                                go_ret
                                exact ⟨by first | rfl | (simp [errW_none, errW_some] <;> rfl) | (simp [*, errW_none, errW_some] <;> rfl), by repeat (first | (with_reducible first | exact HB.out | apply below_alloc | apply pw_below_drewN | apply below_drew1 | refine below_set ?_ GE135.out | refine below_set ?_ GE142.out) | exact HB.out)⟩
                              · replace c34 := Bool.eq_false_iff.mpr c34
                                subst c34
                                have H1 : (if x9_11 = 1 then (if t140 = (wrap64 (x7_1 + 1)) then (if (wrap64 (x7_1 + 1)) > (wrap64 ((Int.tmod (wrap64 (a0)) 10) + 1)) then (some false) else (if t139 = 5 then (if (wrap64 (x7_1 + 1)) = (wrap64 ((Int.tmod (wrap64 (a0)) 10) + 1)) then (remontoirlaw11_RetryOften.l0 kj16 l1 (Int.tmod (wrap64 (a0)) 10) (wrap64 (x7_1 + 1)) (wrap64 (x8_1 + 1)) t139 t140) else (some false)) else (remontoirlaw11_RetryOften.l0 kj16 l1 (Int.tmod (wrap64 (a0)) 10) (wrap64 (x7_1 + 1)) (wrap64 (x8_1 + 1)) t139 t140))) else (some false)) else (if t140 = x7_1 then (if x7_1 > (wrap64 ((Int.tmod (wrap64 (a0)) 10) + 1)) then (some false) else (if t139 = 5 then (if x7_1 = (wrap64 ((Int.tmod (wrap64 (a0)) 10) + 1)) then (remontoirlaw11_RetryOften.l0 kj16 l1 (Int.tmod (wrap64 (a0)) 10) x7_1 (wrap64 (x8_1 + 1)) t139 t140) else (some false)) else (remontoirlaw11_RetryOften.l0 kj16 l1 (Int.tmod (wrap64 (a0)) 10) x7_1 (wrap64 (x8_1 + 1)) t139 t140))) else (some false))) = some r := by rw [if_neg (show ¬ (false = true) by decide)] at H; exact H
                                clear H
                                have H := H1
                                clear H1
                                by_cases c35 : x9_11 = 1
                                · rw [if_pos c35] at H
                                  have c35b0 : (x9_11 == 1) = true := beq_iff_eq.mpr c35
                                  have c35b1 : (x9_11 != 1) = false := bne_eq_false_iff_eq.mpr c35
                                  clear c35
                                  by_cases c36 : t140 = (wrap64 (x7_1 + 1))
                                  · rw [if_pos c36] at H
                                    have c36b0 : (t140 == (wrap64 (x7_1 + 1))) = true := beq_iff_eq.mpr c36
                                    have c36b1 : (t140 != (wrap64 (x7_1 + 1))) = false := bne_eq_false_iff_eq.mpr c36
                                    clear c36
                                    by_cases c37 : (wrap64 (x7_1 + 1)) > (wrap64 ((Int.tmod (wrap64 (a0)) 10) + 1))
                                    · rw [if_pos c37] at H
                                      have c37b0 : decide ((wrap64 ((Int.tmod (wrap64 (a0)) 10) + 1)) < (wrap64 (x7_1 + 1))) = true := decide_eq_true c37
                                      clear c37
                                      obtain rfl := Option.some.inj H
                                      have hnb38 := NB142_135.out
                                      have hnc38 := NB135_142.out
                                      have hcz39_0 : wc.cell? ⟨gb142, 0, none⟩ = some (.int .i64 t139) := (blk_cell BK142.out 0).trans rfl
                                      have hcz39_1 : wc.cell? ⟨gb142, 1, none⟩ = some (.int .i64 t140) := (blk_cell BK142.out 1).trans rfl
                                      have hfz39_0 := blk_frozen BK142.out 0
                                      have hfz39_1 := blk_frozen BK142.out 1
                                      go_wp2
                                      go_ret
                                      exact ⟨by first | rfl | (simp [errW_none, errW_some] <;> rfl) | (simp [*, errW_none, errW_some] <;> rfl), by repeat (first | (with_reducible first | exact HB.out | apply below_alloc | apply pw_below_drewN | apply below_drew1 | refine below_set ?_ GE135.out | refine below_set ?_ GE142.out) | exact HB.out)⟩
                                    · rw [if_neg c37] at H
                                      have c37b0 : decide ((wrap64 ((Int.tmod (wrap64 (a0)) 10) + 1)) < (wrap64 (x7_1 + 1))) = false := decide_eq_false c37
                                      clear c37
                                      by_cases c40 : t139 = 5
                                      · rw [if_pos c40] at H
                                        have c40b0 : (t139 == 5) = true := beq_iff_eq.mpr c40
                                        have c40b1 : (t139 != 5) = false := bne_eq_false_iff_eq.mpr c40
                                        clear c40
                                        by_cases c41 : (wrap64 (x7_1 + 1)) = (wrap64 ((Int.tmod (wrap64 (a0)) 10) + 1))
                                        · rw [if_pos c41] at H
                                          have c41b0 : ((wrap64 (x7_1 + 1)) == (wrap64 ((Int.tmod (wrap64 (a0)) 10) + 1))) = true := beq_iff_eq.mpr c41
                                          have c41b1 : ((wrap64 (x7_1 + 1)) != (wrap64 ((Int.tmod (wrap64 (a0)) 10) + 1))) = false := bne_eq_false_iff_eq.mpr c41
                                          clear c41
                                          have H' := Aside0.mk H
                                          clear H
                                          have hnb42 := NB142_135.out
                                          have hnc42 := NB135_142.out
                                          have hcz43_0 : wc.cell? ⟨gb142, 0, none⟩ = some (.int .i64 t139) := (blk_cell BK142.out 0).trans rfl
                                          have hcz43_1 : wc.cell? ⟨gb142, 1, none⟩ = some (.int .i64 t140) := (blk_cell BK142.out 1).trans rfl
                                          have hfz43_0 := blk_frozen BK142.out 0
                                          have hfz43_1 := blk_frozen BK142.out 1
                                          have hcz44_0 : wc.cell? ⟨gb135, 0, none⟩ = some (.int .i64 x136000_1) := (blk_cell BK135.out 0).trans rfl
                                          have hcz44_1 : wc.cell? ⟨gb135, 1, none⟩ = some (.int .i64 x136001_1) := (blk_cell BK135.out 1).trans rfl
                                          have hfz44_0 := blk_frozen BK135.out 0
                                          have hfz44_1 := blk_frozen BK135.out 1
                                          go_wp2
                                          go_roundg kj16
                                          case measure => have := HK1.out; have := HJ4.out; have := HJ9.out; have := HJ11.out; have := HJ16.out; omega
                                          case rel => exact ⟨(wrap64 (x7_1 + 1)), (wrap64 (x8_1 + 1)), (t139), (t140), (by first | rfl | (simp; done) | (simp [*]; done)), (by first | rfl | (simp; done) | (simp [*]; done)), H', ⟨by have := HK1.out; have := HJ4.out; have := HJ9.out; have := HJ11.out; have := HJ16.out; omega⟩, ⟨by (with_reducible repeat (first | refine blk_drewN ?_ _ | refine blk_drew ?_ | refine blk_alloc ?_ _)); refine blk_put (cs := #[.int .i64 t139, .int .i64 x136001_1]) ?_ 1 _ rfl; (with_reducible repeat (first | refine blk_drewN ?_ _ | refine blk_drew ?_ | refine blk_alloc ?_ _)); refine blk_put (cs := #[.int .i64 x136000_1, .int .i64 x136001_1]) ?_ 0 _ rfl; (with_reducible repeat (first | refine blk_drewN ?_ _ | refine blk_drew ?_ | refine blk_alloc ?_ _)); exact BK135.out⟩, ⟨by repeat (first | (with_reducible first | exact HB.out | apply below_alloc | apply pw_below_drewN | apply below_drew1 | refine below_set ?_ GE135.out | refine below_set ?_ GE142.out) | exact HB.out)⟩⟩
                                        · rw [if_neg c41] at H
                                          have c41b0 : ((wrap64 (x7_1 + 1)) == (wrap64 ((Int.tmod (wrap64 (a0)) 10) + 1))) = false := beq_eq_false_iff_ne.mpr c41
                                          have c41b1 : ((wrap64 (x7_1 + 1)) != (wrap64 ((Int.tmod (wrap64 (a0)) 10) + 1))) = true := bne_iff_ne.mpr c41
                                          obtain rfl := Option.some.inj H
                                          have hnb45 := NB142_135.out
                                          have hnc45 := NB135_142.out
                                          have hcz46_0 : wc.cell? ⟨gb142, 0, none⟩ = some (.int .i64 t139) := (blk_cell BK142.out 0).trans rfl
                                          have hcz46_1 : wc.cell? ⟨gb142, 1, none⟩ = some (.int .i64 t140) := (blk_cell BK142.out 1).trans rfl
                                          have hfz46_0 := blk_frozen BK142.out 0
                                          have hfz46_1 := blk_frozen BK142.out 1
                                          go_wp2
                                          go_ret
                                          exact ⟨by first | rfl | (simp [errW_none, errW_some] <;> rfl) | (simp [*, errW_none, errW_some] <;> rfl), by repeat (first | (with_reducible first | exact HB.out | apply below_alloc | apply pw_below_drewN | apply below_drew1 | refine below_set ?_ GE135.out | refine below_set ?_ GE142.out) | exact HB.out)⟩
                                      · rw [if_neg c40] at H
                                        have c40b0 : (t139 == 5) = false := beq_eq_false_iff_ne.mpr c40
                                        have c40b1 : (t139 != 5) = true := bne_iff_ne.mpr c40
                                        have H' := Aside0.mk H
                                        clear H
                                        have hnb47 := NB142_135.out
                                        have hnc47 := NB135_142.out
                                        have hcz48_0 : wc.cell? ⟨gb142, 0, none⟩ = some (.int .i64 t139) := (blk_cell BK142.out 0).trans rfl
                                        have hcz48_1 : wc.cell? ⟨gb142, 1, none⟩ = some (.int .i64 t140) := (blk_cell BK142.out 1).trans rfl
                                        have hfz48_0 := blk_frozen BK142.out 0
                                        have hfz48_1 := blk_frozen BK142.out 1
                                        have hcz49_0 : wc.cell? ⟨gb135, 0, none⟩ = some (.int .i64 x136000_1) := (blk_cell BK135.out 0).trans rfl
                                        have hcz49_1 : wc.cell? ⟨gb135, 1, none⟩ = some (.int .i64 x136001_1) := (blk_cell BK135.out 1).trans rfl
                                        have hfz49_0 := blk_frozen BK135.out 0
                                        have hfz49_1 := blk_frozen BK135.out 1
                                        go_wp2
                                        go_roundg kj16
                                        case measure => have := HK1.out; have := HJ4.out; have := HJ9.out; have := HJ11.out; have := HJ16.out; omega
                                        case rel => exact ⟨(wrap64 (x7_1 + 1)), (wrap64 (x8_1 + 1)), (t139), (t140), (by first | rfl | (simp; done) | (simp [*]; done)), (by first | rfl | (simp; done) | (simp [*]; done)), H', ⟨by have := HK1.out; have := HJ4.out; have := HJ9.out; have := HJ11.out; have := HJ16.out; omega⟩, ⟨by (with_reducible repeat (first | refine blk_drewN ?_ _ | refine blk_drew ?_ | refine blk_alloc ?_ _)); refine blk_put (cs := #[.int .i64 t139, .int .i64 x136001_1]) ?_ 1 _ rfl; (with_reducible repeat (first | refine blk_drewN ?_ _ | refine blk_drew ?_ | refine blk_alloc ?_ _)); refine blk_put (cs := #[.int .i64 x136000_1, .int .i64 x136001_1]) ?_ 0 _ rfl; (with_reducible repeat (first | refine blk_drewN ?_ _ | refine blk_drew ?_ | refine blk_alloc ?_ _)); exact BK135.out⟩, ⟨by repeat (first | (with_reducible first | exact HB.out | apply below_alloc | apply pw_below_drewN | apply below_drew1 | refine below_set ?_ GE135.out | refine below_set ?_ GE142.out) | exact HB.out)⟩⟩
                                  · rw [if_neg c36] at H
                                    have c36b0 : (t140 == (wrap64 (x7_1 + 1))) = false := beq_eq_false_iff_ne.mpr c36
                                    have c36b1 : (t140 != (wrap64 (x7_1 + 1))) = true := bne_iff_ne.mpr c36
                                    obtain rfl := Option.some.inj H
                                    have hnb50 := NB142_135.out
                                    have hnc50 := NB135_142.out
                                    have hcz51_0 : wc.cell? ⟨gb142, 0, none⟩ = some (.int .i64 t139) := (blk_cell BK142.out 0).trans rfl
                                    have hcz51_1 : wc.cell? ⟨gb142, 1, none⟩ = some (.int .i64 t140) := (blk_cell BK142.out 1).trans rfl
                                    have hfz51_0 := blk_frozen BK142.out 0
                                    have hfz51_1 := blk_frozen BK142.out 1
                                    go_wp2
                                    go_ret
                                    exact ⟨by first | rfl | (simp [errW_none, errW_some] <;> rfl) | (simp [*, errW_none, errW_some] <;> rfl), by repeat (first | (with_reducible first | exact HB.out | apply below_alloc | apply pw_below_drewN | apply below_drew1 | refine below_set ?_ GE135.out | refine below_set ?_ GE142.out) | exact HB.out)⟩
                                · rw [if_neg c35] at H
                                  have c35b0 : (x9_11 == 1) = false := beq_eq_false_iff_ne.mpr c35
                                  have c35b1 : (x9_11 != 1) = true := bne_iff_ne.mpr c35
                                  by_cases c52 : t140 = x7_1
                                  · rw [if_pos c52] at H
                                    have c52b0 : (t140 == x7_1) = true := beq_iff_eq.mpr c52
                                    have c52b1 : (t140 != x7_1) = false := bne_eq_false_iff_eq.mpr c52
                                    clear c52
                                    by_cases c53 : x7_1 > (wrap64 ((Int.tmod (wrap64 (a0)) 10) + 1))
                                    · rw [if_pos c53] at H
                                      have c53b0 : decide ((wrap64 ((Int.tmod (wrap64 (a0)) 10) + 1)) < x7_1) = true := decide_eq_true c53
                                      clear c53
                                      obtain rfl := Option.some.inj H
                                      have hnb54 := NB142_135.out
                                      have hnc54 := NB135_142.out
                                      have hcz55_0 : wc.cell? ⟨gb142, 0, none⟩ = some (.int .i64 t139) := (blk_cell BK142.out 0).trans rfl
                                      have hcz55_1 : wc.cell? ⟨gb142, 1, none⟩ = some (.int .i64 t140) := (blk_cell BK142.out 1).trans rfl
                                      have hfz55_0 := blk_frozen BK142.out 0
                                      have hfz55_1 := blk_frozen BK142.out 1
                                      go_wp2
                                      go_ret
                                      exact ⟨by first | rfl | (simp [errW_none, errW_some] <;> rfl) | (simp [*, errW_none, errW_some] <;> rfl), by repeat (first | (with_reducible first | exact HB.out | apply below_alloc | apply pw_below_drewN | apply below_drew1 | refine below_set ?_ GE135.out | refine below_set ?_ GE142.out) | exact HB.out)⟩
                                    · rw [if_neg c53] at H
                                      have c53b0 : decide ((wrap64 ((Int.tmod (wrap64 (a0)) 10) + 1)) < x7_1) = false := decide_eq_false c53
                                      clear c53
                                      by_cases c56 : t139 = 5
                                      · rw [if_pos c56] at H
                                        have c56b0 : (t139 == 5) = true := beq_iff_eq.mpr c56
                                        have c56b1 : (t139 != 5) = false := bne_eq_false_iff_eq.mpr c56
                                        clear c56
                                        by_cases c57 : x7_1 = (wrap64 ((Int.tmod (wrap64 (a0)) 10) + 1))
                                        · rw [if_pos c57] at H
                                          have c57b0 : (x7_1 == (wrap64 ((Int.tmod (wrap64 (a0)) 10) + 1))) = true := beq_iff_eq.mpr c57
                                          have c57b1 : (x7_1 != (wrap64 ((Int.tmod (wrap64 (a0)) 10) + 1))) = false := bne_eq_false_iff_eq.mpr c57
                                          clear c57
                                          have H' := Aside0.mk H
                                          clear H
                                          have hnb58 := NB142_135.out
                                          have hnc58 := NB135_142.out
                                          have hcz59_0 : wc.cell? ⟨gb142, 0, none⟩ = some (.int .i64 t139) := (blk_cell BK142.out 0).trans rfl
                                          have hcz59_1 : wc.cell? ⟨gb142, 1, none⟩ = some (.int .i64 t140) := (blk_cell BK142.out 1).trans rfl
                                          have hfz59_0 := blk_frozen BK142.out 0
                                          have hfz59_1 := blk_frozen BK142.out 1
                                          have hcz60_0 : wc.cell? ⟨gb135, 0, none⟩ = some (.int .i64 x136000_1) := (blk_cell BK135.out 0).trans rfl
                                          have hcz60_1 : wc.cell? ⟨gb135, 1, none⟩ = some (.int .i64 x136001_1) := (blk_cell BK135.out 1).trans rfl
                                          have hfz60_0 := blk_frozen BK135.out 0
                                          have hfz60_1 := blk_frozen BK135.out 1
                                          go_wp2
                                          go_roundg kj16
                                          case measure => have := HK1.out; have := HJ4.out; have := HJ9.out; have := HJ11.out; have := HJ16.out; omega
                                          case rel => exact ⟨(x7_1), (wrap64 (x8_1 + 1)), (t139), (t140), (by first | rfl | (simp; done) | (simp [*]; done)), (by first | rfl | (simp; done) | (simp [*]; done)), H', ⟨by have := HK1.out; have := HJ4.out; have := HJ9.out; have := HJ11.out; have := HJ16.out; omega⟩, ⟨by (with_reducible repeat (first | refine blk_drewN ?_ _ | refine blk_drew ?_ | refine blk_alloc ?_ _)); refine blk_put (cs := #[.int .i64 t139, .int .i64 x136001_1]) ?_ 1 _ rfl; (with_reducible repeat (first | refine blk_drewN ?_ _ | refine blk_drew ?_ | refine blk_alloc ?_ _)); refine blk_put (cs := #[.int .i64 x136000_1, .int .i64 x136001_1]) ?_ 0 _ rfl; (with_reducible repeat (first | refine blk_drewN ?_ _ | refine blk_drew ?_ | refine blk_alloc ?_ _)); exact BK135.out⟩, ⟨by repeat (first | (with_reducible first | exact HB.out | apply below_alloc | apply pw_below_drewN | apply below_drew1 | refine below_set ?_ GE135.out | refine below_set ?_ GE142.out) | exact HB.out)⟩⟩
                                        · rw [if_neg c57] at H
                                          have c57b0 : (x7_1 == (wrap64 ((Int.tmod (wrap64 (a0)) 10) + 1))) = false := beq_eq_false_iff_ne.mpr c57
                                          have c57b1 : (x7_1 != (wrap64 ((Int.tmod (wrap64 (a0)) 10) + 1))) = true := bne_iff_ne.mpr c57
                                          obtain rfl := Option.some.inj H
                                          have hnb61 := NB142_135.out
                                          have hnc61 := NB135_142.out
                                          have hcz62_0 : wc.cell? ⟨gb142, 0, none⟩ = some (.int .i64 t139) := (blk_cell BK142.out 0).trans rfl
                                          have hcz62_1 : wc.cell? ⟨gb142, 1, none⟩ = some (.int .i64 t140) := (blk_cell BK142.out 1).trans rfl
                                          have hfz62_0 := blk_frozen BK142.out 0
                                          have hfz62_1 := blk_frozen BK142.out 1
                                          go_wp2
                                          go_ret
                                          exact ⟨by first | rfl | (simp [errW_none, errW_some] <;> rfl) | (simp [*, errW_none, errW_some] <;> rfl), by repeat (first | (with_reducible first | exact HB.out | apply below_alloc | apply pw_below_drewN | apply below_drew1 | refine below_set ?_ GE135.out | refine below_set ?_ GE142.out) | exact HB.out)⟩
                                      · rw [if_neg c56] at H
                                        have c56b0 : (t139 == 5) = false := beq_eq_false_iff_ne.mpr c56
                                        have c56b1 : (t139 != 5) = true := bne_iff_ne.mpr c56
                                        have H' := Aside0.mk H
                                        clear H
                                        have hnb63 := NB142_135.out
                                        have hnc63 := NB135_142.out
                                        have hcz64_0 : wc.cell? ⟨gb142, 0, none⟩ = some (.int .i64 t139) := (blk_cell BK142.out 0).trans rfl
                                        have hcz64_1 : wc.cell? ⟨gb142, 1, none⟩ = some (.int .i64 t140) := (blk_cell BK142.out 1).trans rfl
                                        have hfz64_0 := blk_frozen BK142.out 0
                                        have hfz64_1 := blk_frozen BK142.out 1
                                        have hcz65_0 : wc.cell? ⟨gb135, 0, none⟩ = some (.int .i64 x136000_1) := (blk_cell BK135.out 0).trans rfl
                                        have hcz65_1 : wc.cell? ⟨gb135, 1, none⟩ = some (.int .i64 x136001_1) := (blk_cell BK135.out 1).trans rfl
                                        have hfz65_0 := blk_frozen BK135.out 0
                                        have hfz65_1 := blk_frozen BK135.out 1
                                        go_wp2
                                        go_roundg kj16
                                        case measure => have := HK1.out; have := HJ4.out; have := HJ9.out; have := HJ11.out; have := HJ16.out; omega
                                        case rel => exact ⟨(x7_1), (wrap64 (x8_1 + 1)), (t139), (t140), (by first | rfl | (simp; done) | (simp [*]; done)), (by first | rfl | (simp; done) | (simp [*]; done)), H', ⟨by have := HK1.out; have := HJ4.out; have := HJ9.out; have := HJ11.out; have := HJ16.out; omega⟩, ⟨by (with_reducible repeat (first | refine blk_drewN ?_ _ | refine blk_drew ?_ | refine blk_alloc ?_ _)); refine blk_put (cs := #[.int .i64 t139, .int .i64 x136001_1]) ?_ 1 _ rfl; (with_reducible repeat (first | refine blk_drewN ?_ _ | refine blk_drew ?_ | refine blk_alloc ?_ _)); refine blk_put (cs := #[.int .i64 x136000_1, .int .i64 x136001_1]) ?_ 0 _ rfl; (with_reducible repeat (first | refine blk_drewN ?_ _ | refine blk_drew ?_ | refine blk_alloc ?_ _)); exact BK135.out⟩, ⟨by repeat (first | (with_reducible first | exact HB.out | apply below_alloc | apply pw_below_drewN | apply below_drew1 | refine below_set ?_ GE135.out | refine below_set ?_ GE142.out) | exact HB.out)⟩⟩
                                  · rw [if_neg c52] at H
                                    have c52b0 : (t140 == x7_1) = false := beq_eq_false_iff_ne.mpr c52
                                    have c52b1 : (t140 != x7_1) = true := bne_iff_ne.mpr c52
                                    obtain rfl := Option.some.inj H
                                    have hnb66 := NB142_135.out
                                    have hnc66 := NB135_142.out
                                    have hcz67_0 : wc.cell? ⟨gb142, 0, none⟩ = some (.int .i64 t139) := (blk_cell BK142.out 0).trans rfl
                                    have hcz67_1 : wc.cell? ⟨gb142, 1, none⟩ = some (.int .i64 t140) := (blk_cell BK142.out 1).trans rfl
                                    have hfz67_0 := blk_frozen BK142.out 0
                                    have hfz67_1 := blk_frozen BK142.out 1
                                    go_wp2
                                    go_ret
                                    exact ⟨by first | rfl | (simp [errW_none, errW_some] <;> rfl) | (simp [*, errW_none, errW_some] <;> rfl), by repeat (first | (with_reducible first | exact HB.out | apply below_alloc | apply pw_below_drewN | apply below_drew1 | refine below_set ?_ GE135.out | refine below_set ?_ GE142.out) | exact HB.out)⟩
                        · replace c16 := Bool.eq_false_iff.mpr c16
                          subst c16
                          have H1 : (if (!(t139 == 0) || (!(t140 == 0))) = true then (some false) else (remontoirlaw11_RetryOften.l0 kj11 l1 (Int.tmod (wrap64 (a0)) 10) x7_1 (wrap64 (x8_1 + 1)) x136000_1 x136001_1)) = some r := by rw [if_neg (show ¬ (false = true) by decide)] at H; exact H
                          clear H
                          have H := H1
                          clear H1
                          by_cases c68 : (!(t139 == 0) || (!(t140 == 0))) = true
                          · rw [if_pos c68] at H
                            have c68b0 : (!(t139 == 0) || (!(t140 == 0))) = true := c68
                            clear c68
                            obtain rfl := Option.some.inj H
                            have hcz69_0 : wc.cell? ⟨gb135, 0, none⟩ = some (.int .i64 x136000_1) := (blk_cell BK135.out 0).trans rfl
                            have hcz69_1 : wc.cell? ⟨gb135, 1, none⟩ = some (.int .i64 x136001_1) := (blk_cell BK135.out 1).trans rfl
                            have hfz69_0 := blk_frozen BK135.out 0
                            have hfz69_1 := blk_frozen BK135.out 1
                            go_wp2_with (first | ((with_reducible refine gate_callee (f := 8) rfl ?_); refine goesL_ (some 43) rfl rfl Try.func8 (by kernel_rfl) rfl #[.int .i64 (Int.tmod (wrap64 (a0)) 10), .agg #[.int .i64 x136000_1, .int .i64 x136001_1], .int .i64 x9_11] rfl (by (try simp only [List.map_toArray, List.map_cons, List.map_nil]); first | done | rfl | (simp only [List.length_drop, List.length_take]; rfl)) ?_; (with_reducible refine (retry_Step.calls kj11 (Int.tmod (wrap64 (a0)) 10) x136000_1 x136001_1 x9_11 t139 t140 false _ A15.out).mono ?_); rintro e w70 ⟨rfl, hb⟩; refine ⟨_, rfl, ?_⟩; have n0_ := Aside0.mk (blk_below (g := gb135) (o := .cells #[.int .i64 x136000_1, .int .i64 x136001_1] 23 (0, 0)) (by (with_reducible repeat (first | refine blk_drewN ?_ _ | refine blk_drew ?_ | refine blk_alloc ?_ _)); exact BK135.out) hb); have n1_ := Aside0.mk (below_step (by repeat (first | (with_reducible first | exact HB.out | apply below_alloc | apply pw_below_drewN | apply below_drew1 | refine below_set ?_ GE135.out) | exact HB.out)) hb); clear BK135; clear HB; have BK135 := n0_; have HB := n1_; clear n0_ n1_; (try clear hb); (try clear hb2); (try clear hk); (try clear hi)) | ((with_reducible refine gate_dst (N := 10) rfl ?_); refine box_event ?hg (N := 10) ?hd (cs := #[.int .i64 0, .int .i64 0]) (t := 23) ?hr ?_; (case hd => rfl); (case hg => rfl); (case hr => first | (go_simp; done) | (go_simp; rfl)); intro gb142 hg w71 hbox hb; have n0_ := Aside0.mk (blk_below (g := gb135) (o := .cells #[.int .i64 x136000_1, .int .i64 x136001_1] 23 (0, 0)) (by (with_reducible repeat (first | refine blk_drewN ?_ _ | refine blk_drew ?_ | refine blk_alloc ?_ _)); exact BK135.out) hb); have n1_ := Aside0.mk (below_step (by repeat (first | (with_reducible first | exact HB.out | apply below_alloc | apply pw_below_drewN | apply below_drew1 | refine below_set ?_ GE135.out) | exact HB.out)) hb); have n2_ := Aside0.mk (hbox); have n3_ := Aside0.mk ((by rw [hg]; exact (below_size (by repeat (first | (with_reducible first | exact HB.out | apply below_alloc | apply pw_below_drewN | apply below_drew1 | refine below_set ?_ GE135.out) | exact HB.out))) : w.heap.size ≤ gb142)); have n4_ := Aside0.mk ((by rw [hg]; exact (below_size (by repeat (first | (with_reducible first | exact HB.out | apply below_alloc | apply pw_below_drewN | apply below_drew1 | refine below_set ?_ GE135.out) | exact HB.out))) : w.heap.size ≤ gb142)); have n5_ := Aside0.mk ((by rw [hg]; exact Nat.ne_of_lt (blk_lt (g := gb135) (o := .cells #[.int .i64 x136000_1, .int .i64 x136001_1] 23 (0, 0)) (by (with_reducible repeat (first | refine blk_drewN ?_ _ | refine blk_drew ?_ | refine blk_alloc ?_ _)); exact BK135.out)) : gb135 ≠ gb142)); have n6_ := Aside0.mk ((by rw [hg]; exact Nat.ne_of_gt (blk_lt (g := gb135) (o := .cells #[.int .i64 x136000_1, .int .i64 x136001_1] 23 (0, 0)) (by (with_reducible repeat (first | refine blk_drewN ?_ _ | refine blk_drew ?_ | refine blk_alloc ?_ _)); exact BK135.out)) : gb142 ≠ gb135)); clear BK135; clear HB; have BK135 := n0_; have HB := n1_; have BK142 := n2_; have GW142 := n3_; have GE142 := n4_; have NB135_142 := n5_; have NB142_135 := n6_; clear n0_ n1_ n2_ n3_ n4_ n5_ n6_; clear hb hbox hg; have hnb72 := NB142_135.out; have hnc72 := NB135_142.out; have hcz73_0 : w71.cell? ⟨gb142, 0, none⟩ = some (.int .i64 0) := (blk_cell BK142.out 0).trans rfl; have hcz73_1 : w71.cell? ⟨gb142, 1, none⟩ = some (.int .i64 0) := (blk_cell BK142.out 1).trans rfl; have hfz73_0 := blk_frozen BK142.out 0; have hfz73_1 := blk_frozen BK142.out 1))
                            go_ret
                            exact ⟨by first | rfl | (simp [errW_none, errW_some] <;> rfl) | (simp [*, errW_none, errW_some] <;> rfl), by repeat (first | (with_reducible first | exact HB.out | apply below_alloc | apply pw_below_drewN | apply below_drew1 | refine below_set ?_ GE135.out | refine below_set ?_ GE142.out) | exact HB.out)⟩
                          · rw [if_neg c68] at H
                            have c68b0 : (!(t139 == 0) || (!(t140 == 0))) = false := by simpa using c68
                            clear c68
                            have H' := Aside0.mk H
                            clear H
                            have hcz74_0 : wc.cell? ⟨gb135, 0, none⟩ = some (.int .i64 x136000_1) := (blk_cell BK135.out 0).trans rfl
                            have hcz74_1 : wc.cell? ⟨gb135, 1, none⟩ = some (.int .i64 x136001_1) := (blk_cell BK135.out 1).trans rfl
                            have hfz74_0 := blk_frozen BK135.out 0
                            have hfz74_1 := blk_frozen BK135.out 1
                            go_wp2_with (first | ((with_reducible refine gate_callee (f := 8) rfl ?_); refine goesL_ (some 43) rfl rfl Try.func8 (by kernel_rfl) rfl #[.int .i64 (Int.tmod (wrap64 (a0)) 10), .agg #[.int .i64 x136000_1, .int .i64 x136001_1], .int .i64 x9_11] rfl (by (try simp only [List.map_toArray, List.map_cons, List.map_nil]); first | done | rfl | (simp only [List.length_drop, List.length_take]; rfl)) ?_; (with_reducible refine (retry_Step.calls kj11 (Int.tmod (wrap64 (a0)) 10) x136000_1 x136001_1 x9_11 t139 t140 false _ A15.out).mono ?_); rintro e w75 ⟨rfl, hb⟩; refine ⟨_, rfl, ?_⟩; have n0_ := Aside0.mk (blk_below (g := gb135) (o := .cells #[.int .i64 x136000_1, .int .i64 x136001_1] 23 (0, 0)) (by (with_reducible repeat (first | refine blk_drewN ?_ _ | refine blk_drew ?_ | refine blk_alloc ?_ _)); exact BK135.out) hb); have n1_ := Aside0.mk (below_step (by repeat (first | (with_reducible first | exact HB.out | apply below_alloc | apply pw_below_drewN | apply below_drew1 | refine below_set ?_ GE135.out) | exact HB.out)) hb); clear BK135; clear HB; have BK135 := n0_; have HB := n1_; clear n0_ n1_; (try clear hb); (try clear hb2); (try clear hk); (try clear hi)) | ((with_reducible refine gate_dst (N := 10) rfl ?_); refine box_event ?hg (N := 10) ?hd (cs := #[.int .i64 0, .int .i64 0]) (t := 23) ?hr ?_; (case hd => rfl); (case hg => rfl); (case hr => first | (go_simp; done) | (go_simp; rfl)); intro gb142 hg w76 hbox hb; have n0_ := Aside0.mk (blk_below (g := gb135) (o := .cells #[.int .i64 x136000_1, .int .i64 x136001_1] 23 (0, 0)) (by (with_reducible repeat (first | refine blk_drewN ?_ _ | refine blk_drew ?_ | refine blk_alloc ?_ _)); exact BK135.out) hb); have n1_ := Aside0.mk (below_step (by repeat (first | (with_reducible first | exact HB.out | apply below_alloc | apply pw_below_drewN | apply below_drew1 | refine below_set ?_ GE135.out) | exact HB.out)) hb); have n2_ := Aside0.mk (hbox); have n3_ := Aside0.mk ((by rw [hg]; exact (below_size (by repeat (first | (with_reducible first | exact HB.out | apply below_alloc | apply pw_below_drewN | apply below_drew1 | refine below_set ?_ GE135.out) | exact HB.out))) : w.heap.size ≤ gb142)); have n4_ := Aside0.mk ((by rw [hg]; exact (below_size (by repeat (first | (with_reducible first | exact HB.out | apply below_alloc | apply pw_below_drewN | apply below_drew1 | refine below_set ?_ GE135.out) | exact HB.out))) : w.heap.size ≤ gb142)); have n5_ := Aside0.mk ((by rw [hg]; exact Nat.ne_of_lt (blk_lt (g := gb135) (o := .cells #[.int .i64 x136000_1, .int .i64 x136001_1] 23 (0, 0)) (by (with_reducible repeat (first | refine blk_drewN ?_ _ | refine blk_drew ?_ | refine blk_alloc ?_ _)); exact BK135.out)) : gb135 ≠ gb142)); have n6_ := Aside0.mk ((by rw [hg]; exact Nat.ne_of_gt (blk_lt (g := gb135) (o := .cells #[.int .i64 x136000_1, .int .i64 x136001_1] 23 (0, 0)) (by (with_reducible repeat (first | refine blk_drewN ?_ _ | refine blk_drew ?_ | refine blk_alloc ?_ _)); exact BK135.out)) : gb142 ≠ gb135)); clear BK135; clear HB; have BK135 := n0_; have HB := n1_; have BK142 := n2_; have GW142 := n3_; have GE142 := n4_; have NB135_142 := n5_; have NB142_135 := n6_; clear n0_ n1_ n2_ n3_ n4_ n5_ n6_; clear hb hbox hg; have hnb77 := NB142_135.out; have hnc77 := NB135_142.out; have hcz78_0 : w76.cell? ⟨gb142, 0, none⟩ = some (.int .i64 0) := (blk_cell BK142.out 0).trans rfl; have hcz78_1 : w76.cell? ⟨gb142, 1, none⟩ = some (.int .i64 0) := (blk_cell BK142.out 1).trans rfl; have hfz78_0 := blk_frozen BK142.out 0; have hfz78_1 := blk_frozen BK142.out 1))
                            go_roundg kj11
                            case measure => have := HK1.out; have := HJ4.out; have := HJ9.out; have := HJ11.out; omega
                            case rel => exact ⟨(x7_1), (wrap64 (x8_1 + 1)), (x136000_1), (x136001_1), (by first | rfl | (simp; done) | (simp [*]; done)), (by first | rfl | (simp; done) | (simp [*]; done)), H', ⟨by have := HK1.out; have := HJ4.out; have := HJ9.out; have := HJ11.out; omega⟩, ⟨by (with_reducible repeat (first | refine blk_drewN ?_ _ | refine blk_drew ?_ | refine blk_alloc ?_ _)); refine blk_far ?_ NB135_142.out _; (with_reducible repeat (first | refine blk_drewN ?_ _ | refine blk_drew ?_ | refine blk_alloc ?_ _)); refine blk_far ?_ NB135_142.out _; (with_reducible repeat (first | refine blk_drewN ?_ _ | refine blk_drew ?_ | refine blk_alloc ?_ _)); exact BK135.out⟩, ⟨by repeat (first | (with_reducible first | exact HB.out | apply below_alloc | apply pw_below_drewN | apply below_drew1 | refine below_set ?_ GE135.out | refine below_set ?_ GE142.out) | exact HB.out)⟩⟩
              · rw [if_neg c9] at H
                exact absurd H (by simp)
            · rw [if_neg c8] at H
              exact absurd H (by simp)
          · replace c7 := Bool.eq_false_iff.mpr c7
            subst c7
            have H1 : ((remontoirlaw11_wakes.f kj4).bind fun t136 => (some t136)) = some r := by rw [if_neg (show ¬ (false = true) by decide)] at H; exact H
            clear H
            have H := H1
            clear H1
            replace H := Option.bind_eq_some_iff.mp H
            obtain ⟨t136, A790, H⟩ := H
            replace H : (some t136) = some r := H
            have A79 := Aside0.mk A790
            clear A790
            obtain rfl := Option.some.inj H
            go_wp2_with (first | ((with_reducible refine gate_callee (f := 14) rfl ?_); refine goesL_ (some 91) rfl rfl Try.func14 (by kernel_rfl) rfl #[] rfl (by (try simp only [List.map_toArray, List.map_cons, List.map_nil]); first | done | rfl | (simp only [List.length_drop, List.length_take]; rfl)) ?_; (with_reducible refine (remontoirlaw11_wakes.calls kj4  t136 _ A79.out).mono ?_); rintro e w80 ⟨rfl, hb⟩; refine ⟨_, rfl, ?_⟩; have n0_ := Aside0.mk (blk_below (g := gb135) (o := .cells #[.int .i64 x136000_1, .int .i64 x136001_1] 23 (0, 0)) (by (with_reducible repeat (first | refine blk_drewN ?_ _ | refine blk_drew ?_ | refine blk_alloc ?_ _)); exact BK135.out) hb); have n1_ := Aside0.mk (below_step (by repeat (first | (with_reducible first | exact HB.out | apply below_alloc | apply pw_below_drewN | apply below_drew1 | refine below_set ?_ GE135.out) | exact HB.out)) hb); clear BK135; clear HB; have BK135 := n0_; have HB := n1_; clear n0_ n1_; (try clear hb); (try clear hb2); (try clear hk); (try clear hi)))
            go_ret
            exact ⟨by first | rfl | (simp [errW_none, errW_some] <;> rfl) | (simp [*, errW_none, errW_some] <;> rfl), by repeat (first | (with_reducible first | exact HB.out | apply below_alloc | apply pw_below_drewN | apply below_drew1 | refine below_set ?_ GE135.out) | exact HB.out)⟩

/-- THE ONE PURE STATEMENT of remontoirlaw11_RetryOften: yours. -/
def remontoirlaw11_RetryOften.Pure : Prop := ∀ (a0 : Int) (l1 : List Int), (Lit.int .u8 a0).wf = true → l1.length ≤ maxLen → l1.length * 8 ≤ 140737488351232 → (∀ x ∈ l1, (Lit.int .i64 x).wf = true) → ∃ k, remontoirlaw11_RetryOften.f k a0 l1 = some true
theorem remontoirlaw11_RetryOften.walk (P : remontoirlaw11_RetryOften.Pure) (a0 : Int) (a1 : Option Addr) (len1 cap1 : Nat) (z1 : List Int) (w : World) (w0 : (Lit.int .u8 a0).wf = true) (w1 : (a1 = none ∧ len1 = 0 ∧ cap1 = 0 ∧ z1 = []) ∨ ∃ x, a1 = some x ∧ len1 ≤ cap1 ∧ cap1 ≤ maxLen ∧ z1.length = cap1 ∧ (∀ i, i < z1.length → w.cell? (x.add i) = some (.int .i64 (z1.getD i 0))) ∧ ∀ n ∈ z1, (Lit.int .i64 n).wf = true) (y1 : len1 * 8 ≤ 140737488351232) :
    Calls Try.prog 5 #[.int .u8 a0, .slice a1 len1 cap1] w fun e w' => e = .returned (.bool true) ∧ Below w.heap.size w w' := by
  obtain ⟨l1, rfl, hr1, hm1, hw1, hc1⟩ := ReadsInt.ofRowC w1
  obtain ⟨k, h⟩ := P a0 l1 w0 hm1 y1 hw1
  refine (remontoirlaw11_RetryOften.calls k a0 _ _ l1 true w (Kd.C_of_reads (d := (0 : Int)) (h1 := fun _ => rfl) hr1) hc1 h).mono ?_
  rintro e w' ⟨rfl, hd⟩
  exact ⟨rfl, hd⟩

end Go.Proofs.Ytdefifgllimedaa.PRetryOften
