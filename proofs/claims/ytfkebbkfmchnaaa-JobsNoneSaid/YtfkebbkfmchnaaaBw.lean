/- The chapter's examples as a call: true. Conditions: none. -/
import Derived.Test.YtfkebbkfmchnaaaBe
set_option linter.unusedVariables false
namespace Go.Proofs.Ytfkebbkfmchnaaa.Bk
open Go.RowKit Go.Maps Go.Proofs.Ytfkebbkfmchnaaa.PBase Go.Proofs.Ytfkebbkfmchnaaa.Cat Go.Proofs.Ytfkebbkfmchnaaa.Heap Go.Proofs.Ytfkebbkfmchnaaa.Ln Go.Proofs.Ytfkebbkfmchnaaa.Lst Go.Proofs.Ytfkebbkfmchnaaa.Mq Go.Proofs.YtfkebbkfmchnaaaW.PrintWords Go.Proofs.YtfkebbkfmchnaaaW.PrintLast Go.Proofs.YtfkebbkfmchnaaaW.PrintMore
theorem eqA44 (d : Nat) (w : World) (x0 y0 : Int) (x1 y1 : Int) :
    (Op.equalIn (d + 2) 44 (.agg #[.int .i64 x0, .int .i64 x1]) (.agg #[.int .i64 y0, .int .i64 y1])).run Try.prog w = .ok (x0 == y0 && (x1 == y1)) w := by
  refine eqA_of Try.underlying44 (by kernel_rfl) ?_
  refine eqf_cons (by rfl) (by go_simp; rfl) (by go_simp; rfl) (by go_simp) ?_
  exact eqf_last (by rfl) (by go_simp; rfl) (by go_simp; rfl) (by go_simp)
theorem eqA33 (d : Nat) (w : World) (x0 y0 : Int) (x1 y1 : Int) (x2 y2 : Int) (x3 y3 : Int) (x4 y4 : Int) (x5 y5 : Int) :
    (Op.equalIn (d + 2) 33 (.agg #[.int .i64 x0, .int .i64 x1, .int .i64 x2, .int .i64 x3, .int .i64 x4, .int .u64 x5]) (.agg #[.int .i64 y0, .int .i64 y1, .int .i64 y2, .int .i64 y3, .int .i64 y4, .int .u64 y5])).run Try.prog w = .ok (x0 == y0 && (x1 == y1 && (x2 == y2 && (x3 == y3 && (x4 == y4 && (x5 == y5)))))) w := by
  refine eqA_of Try.underlying33 (by kernel_rfl) ?_
  refine eqf_cons (by rfl) (by go_simp; rfl) (by go_simp; rfl) (by go_simp) ?_
  refine eqf_cons (by rfl) (by go_simp; rfl) (by go_simp; rfl) (by go_simp) ?_
  refine eqf_cons (by rfl) (by go_simp; rfl) (by go_simp; rfl) (by go_simp) ?_
  refine eqf_cons (by rfl) (by go_simp; rfl) (by go_simp; rfl) (by go_simp) ?_
  refine eqf_cons (by rfl) (by go_simp; rfl) (by go_simp; rfl) (by go_simp) ?_
  exact eqf_last (by rfl) (by go_simp; rfl) (by go_simp; rfl) (by go_simp)
attribute [local go_sem high] eqA33 eqA44
set_option maxHeartbeats 4000000 in
set_option maxRecDepth 100000 in
theorem bnew_bad (ag rm tr : Int) (W : World) (h1 : 1 ≤ ag ∧ ag ≤ 1000) (h2 : 0 ≤ rm ∧ rm ≤ 1000) (h3 : tr < 0) : Calls Try.prog 8 #[.int .i64 ag, .int .i64 rm, .int .i64 tr] W fun e w' => e = .returned (.pointer none) ∧ Below W.heap.size W w' := by
  have hq := new_I ag rm W.heap.size W (Nat.le_refl _) ⟨h1, h2⟩
  clear h1 h2
  go_enter Try.func8, Try.ntmps8
  go_wp2_with (first
    | (go_at_call 33; refine hq.mono ?_; clear hq; rintro e w1 ⟨B, rfl, hb1, hq1⟩))
  go_ret
  exact ⟨rfl, hb1⟩
def B1 : Book := ⟨2, 3, 0, 0, [⟨1, 0, 0⟩], [⟨1, 0, 1, 0⟩], []⟩
def B2 : Book := ⟨2, 3, 0, 1, [], [⟨1, 0, 2, 1⟩], [⟨1, 1, 9⟩]⟩
def B3 : Book := ⟨2, 3, 0, 1, [], [], []⟩
set_option maxHeartbeats 8000000 in
set_option maxRecDepth 100000 in
theorem wakes12 (W : World) : Calls Try.prog 16 #[] W fun e w' => e = .returned (.bool true) ∧ Below W.heap.size W w' := by
  have q1 := True.intro
  go_enter Try.func16, Try.ntmps16
  go_upto_region 4 with (first
    | (go_at_call 8; refine (bnew_good 2 3 0 W.heap.size _ (Nat.le_refl _) (by decide) (by decide) (by decide)).mono ?_; rintro e w1 ⟨G, rfl, hb1, h1⟩)
    | (go_at_call 9; clear q1; refine (add_B h1.out 1 0 (by decide) 0 (by kernel_rfl) B1 (by kernel_rfl)).mono ?_; rintro e w2 ⟨rfl, h2⟩)
    | (go_at_call 9; refine (add_B h2.out.1 1 0 (by decide) 8 (by kernel_rfl) B1 (by kernel_rfl)).mono ?_; rintro e w3 ⟨rfl, h3⟩))
  have hF3 := Aside0.mk ((Fr.of_b (X := fun _ => False) hb1).trans (h2.out.2.trans h3.out.2))
  have h3 := Aside0.mk h3.out.1
  clear h1 h2 hb1
  have hft := fetch_yes h3.out 9 (by decide) (by decide) 0 (by kernel_rfl) 1 rfl
  rw [show fetchB B1 9 = B2 from by kernel_rfl, show (fetchJ B1).f0 = 1 from by kernel_rfl, show (0 : Int) + 1 = 1 from rfl] at hft
  go_upto_region 5 with (go_at_call 12; refine hft.mono ?_; clear hft; rintro e w4 ⟨rfl, h4⟩)
  generalize hw5 : w4.alloc (.cells #[.int .i64 1, .int .i64 1, .int .i64 0, .int .i64 0, .int .i64 1, .int .u64 9] 33) = w5
  have hb5 : Below w4.heap.size w4 w5 := by rw [← hw5]; exact below_alloc (Below.refl _ _) _
  have hx5 : w5.heap[w4.heap.size]? = some (.cells #[.int .i64 1, .int .i64 1, .int .i64 0, .int .i64 0, .int .i64 1, .int .u64 9] 33 (0, 0)) := by rw [← hw5]; exact blk_new _ _
  have h5 := h4.out.1.more (Y := fun k => k = w4.heap.size) hb5 (fun k hk => ⟨Nat.le_of_eq hk.symm, by rw [hk]; exact blk_lt hx5⟩)
  have hF5 := Aside0.mk (hF3.out.trans (h4.out.2.trans (Fr.of_below hb5)))
  have hfl := fail_yes h5 1 (by decide) ⟨1, 1, 9⟩ (by kernel_rfl)
  rw [show failB B2 ⟨1, 1, 9⟩ = B3 from by kernel_rfl, show decide (B2.tr < usedOf B2 (⟨1, 1, 9⟩ : Gr).j) = true from by kernel_rfl] at hfl
  have hx5 := Aside0.mk hx5
  clear hw5 hb5 h4 h5
  go_upto_region 6 with (go_at_call 14; refine hfl.mono ?_; clear hfl; rintro e w6 ⟨rfl, h6⟩)
  have han := answer_no h6.out.1 1 (by decide) (by kernel_rfl)
  have hx6 := Aside0.mk ((h6.out.2.blk w4.heap.size (blk_lt hx5.out) (fun e => e.2 (.inr rfl))).trans hx5.out)
  have hF6 := Aside0.mk (hF5.out.trans (h6.out.2.weak (kx_sub (fun k hk => .inl hk))))
  have h6 := Aside0.mk h6.out.1
  clear hF5 hF3 h3
  go_upto_region 7 with (go_at_call 13; refine han.mono ?_; clear han; rintro e w7 ⟨rfl, hb7⟩)
  have hx7 := blk_below hx6.out hb7
  have z0 := (blk_cell hx7 0).trans rfl
  have z1 := (blk_cell hx7 1).trans rfl
  have z2 := (blk_cell hx7 2).trans rfl
  have z3 := (blk_cell hx7 3).trans rfl
  have z4 := (blk_cell hx7 4).trans rfl
  have z5 := (blk_cell hx7 5).trans rfl
  have hop := open_B (h6.out.step hb7)
  rw [show ((B3.Js.length : Nat) : Int) = 0 from rfl] at hop
  have hF7 := Aside0.mk (hF6.out.trans (Fr.of_below hb7))
  clear hx7 hb7 h6 hF6
  go_wp2_with (first
    | (go_at_call 11; refine hop.mono ?_; clear hop; rintro e w8 ⟨rfl, hb8⟩)
    | (go_at_call 8; refine (bnew_bad 2 3 (-1) _ (by decide) (by decide) (by decide)).mono ?_; rintro e w9 ⟨rfl, hb9⟩))
  go_ret
  exact ⟨rfl, (hF7.out.trans (Fr.of_below (below_step hb8 hb9))).below (Nat.le_refl _) (fun k h => h.1)⟩
end Go.Proofs.Ytfkebbkfmchnaaa.Bk
