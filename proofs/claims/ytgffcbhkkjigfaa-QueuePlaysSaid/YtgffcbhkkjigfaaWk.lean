/- wakes and QueueNone as calls: true. Conditions: none. -/
import Derived.Test.YtgffcbhkkjigfaaQi
namespace Go.Proofs.Ytgffcbhkkjigfaa.Ln
open Go.RowKit Go.Proofs.Ytgffcbhkkjigfaa.PBase Go.Proofs.Ytgffcbhkkjigfaa.Cat Go.Proofs.Ytgffcbhkkjigfaa.Heap Go.Proofs.YtgffcbhkkjigfaaW.PrintWords Go.Proofs.YtgffcbhkkjigfaaW.PrintLast Go.Proofs.YtgffcbhkkjigfaaW.PrintMore
attribute [local go_sem high] eqA32
set_option maxHeartbeats 4000000 in
set_option maxRecDepth 100000 in
theorem wakes_calls (W : World) : Calls Try.prog 14 #[] W fun e w' => e = .returned (.bool true) ∧ Below W.heap.size W w' := by
  have hk8 := True.intro
  go_enter Try.func14, Try.ntmps14
  go_wp2_with (first
    | (go_at_call 8; clear hk8; refine (new_I 2 3 W.heap.size _ (Nat.le_refl _) (by decide)).mono ?_; rintro e w1 ⟨B, rfl, hb1, h1⟩)
    | (go_at_call 8; refine (new_bad 0 3 _ (by decide)).mono ?_; rintro e w10 ⟨rfl, hb10⟩)
    | (go_at_call 12; refine (put_I h1 1 7 (by decide) 0 [⟨1, 7, 0⟩] (by kernel_rfl) (by kernel_rfl)).mono ?_; rintro e w2 ⟨rfl, h2, f2⟩; clear h1)
    | (go_at_call 12; refine (put_I h2 2 0 (by decide) 0 [⟨2, 0, 0⟩, ⟨1, 7, 0⟩] (by kernel_rfl) (by kernel_rfl)).mono ?_; rintro e w3 ⟨rfl, h3, f3⟩; clear h2)
    | (go_at_call 12; refine (put_I h3 2 0 (by decide) 8 [⟨2, 0, 0⟩, ⟨1, 7, 0⟩] (by kernel_rfl) (by kernel_rfl)).mono ?_; rintro e w4 ⟨rfl, h4, f4⟩; clear h3)
    | (go_at_call 12; refine (put_I h4 3 8 (by decide) 1 [⟨2, 0, 0⟩, ⟨1, 7, 0⟩] (by kernel_rfl) (by kernel_rfl)).mono ?_; rintro e w5 ⟨rfl, h5, f5⟩; clear h4)
    | (go_at_call 10; refine (take_I h5 (by decide) (by decide) 1 (by kernel_rfl) ⟨2, 0, 0⟩ (by kernel_rfl) [⟨1, 7, 0⟩] (by kernel_rfl)).mono ?_; rintro e w6 ⟨rfl, h6, f6⟩; clear h5)
    | (go_at_call 15; refine (count_I (h6.step (below_alloc (Below.refl _ _) _))).mono ?_; rintro e w7 ⟨rfl, h7, f7⟩; clear h6)
    | (go_at_call 11; refine (len_I h7 1 rfl).mono ?_; rintro e w8 ⟨rfl, h8, f8⟩; clear h7))
  go_ret
  exact ⟨rfl, ((((((((((Fr.of_b (X := fun _ => False) hb1).trans f2).trans f3).trans f4).trans f5).trans f6).trans (Fr.of_b (below_alloc (Below.refl _ _) _))).trans f7).trans f8).trans (Fr.of_b hb10)).below (Nat.le_refl _) (fun k h => h.1)⟩
theorem take_nil_I (W : World) : Calls Try.prog 10 #[.pointer none] W fun e w' => e = .returned (.tuple #[.agg #[.int .i64 0, .int .i64 0, .int .i64 0], .int .i64 1]) ∧ Below W.heap.size W w' := take_nil W
set_option maxHeartbeats 4000000 in
set_option maxRecDepth 100000 in
theorem none_bad (W : World) (a r id : Int) (h : ¬ ((1 ≤ a ∧ a ≤ 1000) ∧ 0 ≤ r ∧ r ≤ 1000)) : Calls Try.prog 7 #[.int .i64 a, .int .i64 r, .int .i64 id] W fun e w' => e = .returned (.bool true) ∧ Below W.heap.size W w' := by
  have HH := Aside0.mk h
  by_cases c1 : a < 1
  · clear h
    go_enter Try.func7, Try.ntmps7
    go_wp2_with (first
      | (go_at_call 10; refine (take_nil_I _).mono ?_; rintro e w1 ⟨rfl, h1⟩)
      | (go_at_call 12; refine (put_nil _ _ _).mono ?_; rintro e w2 ⟨rfl, h2⟩; have hx := Aside0.mk (blk_below (blk_new w1 (.cells #[.int .i64 0, .int .i64 0, .int .i64 0] 32)) h2); have hs0 := (blk_cell hx.out 0).trans rfl; have hs1 := (blk_cell hx.out 1).trans rfl; have hs2 := (blk_cell hx.out 2).trans rfl)
      | (go_at_call 22; refine (drop_nil _ _).mono ?_; rintro e w3 ⟨rfl, h3⟩)
      | (go_at_call 17; refine (list_nil _).mono ?_; rintro e w4 ⟨rfl, h4⟩)
      | (go_at_call 11; refine (qlen_nil _).mono ?_; rintro e w5 ⟨rfl, h5⟩)
      | (go_at_call 15; refine (count_nil _).mono ?_; rintro e w6 ⟨rfl, h6⟩)
      | (go_at_call 8; refine (new_bad _ _ _ HH.out).mono ?_; rintro e w7 ⟨rfl, h7⟩)
      | (go_at_call 14; refine (wakes_calls _).mono ?_; rintro e w8 ⟨rfl, h8⟩))
    go_ret
    exact ⟨rfl, below_step (below_step (below_step (below_step (below_step (below_step (below_step (below_alloc h1 _) h2) h3) h4) h5) h6) h7) h8⟩
  by_cases c2 : 1000 < a
  · clear h
    go_enter Try.func7, Try.ntmps7
    go_wp2_with (first
      | (go_at_call 10; refine (take_nil_I _).mono ?_; rintro e w1 ⟨rfl, h1⟩)
      | (go_at_call 12; refine (put_nil _ _ _).mono ?_; rintro e w2 ⟨rfl, h2⟩; have hx := Aside0.mk (blk_below (blk_new w1 (.cells #[.int .i64 0, .int .i64 0, .int .i64 0] 32)) h2); have hs0 := (blk_cell hx.out 0).trans rfl; have hs1 := (blk_cell hx.out 1).trans rfl; have hs2 := (blk_cell hx.out 2).trans rfl)
      | (go_at_call 22; refine (drop_nil _ _).mono ?_; rintro e w3 ⟨rfl, h3⟩)
      | (go_at_call 17; refine (list_nil _).mono ?_; rintro e w4 ⟨rfl, h4⟩)
      | (go_at_call 11; refine (qlen_nil _).mono ?_; rintro e w5 ⟨rfl, h5⟩)
      | (go_at_call 15; refine (count_nil _).mono ?_; rintro e w6 ⟨rfl, h6⟩)
      | (go_at_call 8; refine (new_bad _ _ _ HH.out).mono ?_; rintro e w7 ⟨rfl, h7⟩)
      | (go_at_call 14; refine (wakes_calls _).mono ?_; rintro e w8 ⟨rfl, h8⟩))
    go_ret
    exact ⟨rfl, below_step (below_step (below_step (below_step (below_step (below_step (below_step (below_alloc h1 _) h2) h3) h4) h5) h6) h7) h8⟩
  by_cases c3 : r < 0
  · clear h
    go_enter Try.func7, Try.ntmps7
    go_wp2_with (first
      | (go_at_call 10; refine (take_nil_I _).mono ?_; rintro e w1 ⟨rfl, h1⟩)
      | (go_at_call 12; refine (put_nil _ _ _).mono ?_; rintro e w2 ⟨rfl, h2⟩; have hx := Aside0.mk (blk_below (blk_new w1 (.cells #[.int .i64 0, .int .i64 0, .int .i64 0] 32)) h2); have hs0 := (blk_cell hx.out 0).trans rfl; have hs1 := (blk_cell hx.out 1).trans rfl; have hs2 := (blk_cell hx.out 2).trans rfl)
      | (go_at_call 22; refine (drop_nil _ _).mono ?_; rintro e w3 ⟨rfl, h3⟩)
      | (go_at_call 17; refine (list_nil _).mono ?_; rintro e w4 ⟨rfl, h4⟩)
      | (go_at_call 11; refine (qlen_nil _).mono ?_; rintro e w5 ⟨rfl, h5⟩)
      | (go_at_call 15; refine (count_nil _).mono ?_; rintro e w6 ⟨rfl, h6⟩)
      | (go_at_call 8; refine (new_bad _ _ _ HH.out).mono ?_; rintro e w7 ⟨rfl, h7⟩)
      | (go_at_call 14; refine (wakes_calls _).mono ?_; rintro e w8 ⟨rfl, h8⟩))
    go_ret
    exact ⟨rfl, below_step (below_step (below_step (below_step (below_step (below_step (below_step (below_alloc h1 _) h2) h3) h4) h5) h6) h7) h8⟩
  have c4 : 1000 < r := by omega
  clear h
  go_enter Try.func7, Try.ntmps7
  go_wp2_with (first
    | (go_at_call 10; refine (take_nil_I _).mono ?_; rintro e w1 ⟨rfl, h1⟩)
    | (go_at_call 12; refine (put_nil _ _ _).mono ?_; rintro e w2 ⟨rfl, h2⟩; have hx := Aside0.mk (blk_below (blk_new w1 (.cells #[.int .i64 0, .int .i64 0, .int .i64 0] 32)) h2); have hs0 := (blk_cell hx.out 0).trans rfl; have hs1 := (blk_cell hx.out 1).trans rfl; have hs2 := (blk_cell hx.out 2).trans rfl)
    | (go_at_call 22; refine (drop_nil _ _).mono ?_; rintro e w3 ⟨rfl, h3⟩)
    | (go_at_call 17; refine (list_nil _).mono ?_; rintro e w4 ⟨rfl, h4⟩)
    | (go_at_call 11; refine (qlen_nil _).mono ?_; rintro e w5 ⟨rfl, h5⟩)
    | (go_at_call 15; refine (count_nil _).mono ?_; rintro e w6 ⟨rfl, h6⟩)
    | (go_at_call 8; refine (new_bad _ _ _ HH.out).mono ?_; rintro e w7 ⟨rfl, h7⟩)
    | (go_at_call 14; refine (wakes_calls _).mono ?_; rintro e w8 ⟨rfl, h8⟩))
  go_ret
  exact ⟨rfl, below_step (below_step (below_step (below_step (below_step (below_step (below_step (below_alloc h1 _) h2) h3) h4) h5) h6) h7) h8⟩
theorem place_nil (id : Int) : place [] id = -1 := rfl
set_option maxHeartbeats 4000000 in
set_option maxRecDepth 100000 in
theorem none_good (W : World) (a r id : Int) (h : (1 ≤ a ∧ a ≤ 1000) ∧ 0 ≤ r ∧ r ≤ 1000) : Calls Try.prog 7 #[.int .i64 a, .int .i64 r, .int .i64 id] W fun e w' => e = .returned (.bool true) ∧ Below W.heap.size W w' := by
  have HH := Aside0.mk h
  clear h
  have k1 := True.intro
  have k2 := True.intro
  have k3 := True.intro
  have k4 := True.intro
  go_enter Try.func7, Try.ntmps7
  go_wp2_with (first
    | (go_at_call 10; clear k1; refine (take_nil_I _).mono ?_; rintro e w1 ⟨rfl, h1⟩)
    | (go_at_call 12; refine (put_nil _ _ _).mono ?_; rintro e w2 ⟨rfl, h2⟩; have hx := Aside0.mk (blk_below (blk_new w1 (.cells #[.int .i64 0, .int .i64 0, .int .i64 0] 32)) h2); have hs0 := (blk_cell hx.out 0).trans rfl; have hs1 := (blk_cell hx.out 1).trans rfl; have hs2 := (blk_cell hx.out 2).trans rfl)
    | (go_at_call 22; clear k2; refine (drop_nil _ _).mono ?_; rintro e w3 ⟨rfl, h3⟩)
    | (go_at_call 17; clear k3; refine (list_nil _).mono ?_; rintro e w4 ⟨rfl, h4⟩)
    | (go_at_call 11; refine (qlen_nil _).mono ?_; rintro e w5 ⟨rfl, h5⟩)
    | (go_at_call 15; clear k4; refine (count_nil _).mono ?_; rintro e w6 ⟨rfl, h6⟩)
    | (go_at_call 8; have hbW := Aside0.mk (below_step (below_step (below_step (below_step (below_step (below_alloc h1 _) h2) h3) h4) h5) h6); refine (new_I a r W.heap.size _ hbW.out.size HH.out).mono ?_; rintro e w7 ⟨B, rfl, h7, q7⟩; clear h1 h2 h3 h4 h5 h6)
    | (go_at_call 10; refine (empty_I q7).mono ?_; rintro e v1 ⟨rfl, q1, f1⟩)
    | (go_at_call 15; refine (count_I (q1.step (below_alloc (Below.refl _ _) _))).mono ?_; rintro e v2 ⟨rfl, q2, f2⟩)
    | (go_at_call 22; refine (drop_I q2 id (by decide) false [] rfl rfl).mono ?_; rintro e v3 ⟨rfl, q3, f3⟩)
    | (go_at_call 17; refine (list_I q3 (by decide)).mono ?_; rintro e v4 ⟨u, M, rfl, hM, _, hR, hb4⟩; obtain rfl := hM.eq_nil; obtain ⟨A, c, rfl⟩ := Kd.R_slice hR)
    | (go_at_call 14; refine (wakes_calls _).mono ?_; rintro e w8 ⟨rfl, h8⟩))
  go_ret
  refine ⟨rfl, ?_⟩
  have e1 : Fr (KX W.heap.size (fun _ => False)) W w7 := Fr.of_b (below_step hbW.out h7)
  exact (((((((e1.trans f1).trans (Fr.of_b (below_alloc (Below.refl _ _) _))).trans f2).trans f3).trans (Fr.of_b hb4)).trans (Fr.of_b h8))).below (Nat.le_refl _) (fun k h => h.1)
theorem none_calls (W : World) (a r id : Int) : Calls Try.prog 7 #[.int .i64 a, .int .i64 r, .int .i64 id] W fun e w' => e = .returned (.bool true) ∧ Below W.heap.size W w' := by
  by_cases h : (1 ≤ a ∧ a ≤ 1000) ∧ 0 ≤ r ∧ r ≤ 1000
  · exact none_good W a r id h
  · exact none_bad W a r id h
end Go.Proofs.Ytgffcbhkkjigfaa.Ln
