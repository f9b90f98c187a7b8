/- JobsNone as a call: true. Conditions: none. -/
import Derived.Test.YtfkebbkfmchnaaaBw
import Derived.Test.YtfkebbkfmchnaaaOpen
set_option linter.unusedVariables false
namespace Go.Proofs.Ytfkebbkfmchnaaa.CallJobsNone
open Go.RowKit Go.Maps Go.Proofs.Ytfkebbkfmchnaaa.PBase Go.Proofs.Ytfkebbkfmchnaaa.Cat Go.Proofs.Ytfkebbkfmchnaaa.Heap Go.Proofs.Ytfkebbkfmchnaaa.Ln Go.Proofs.Ytfkebbkfmchnaaa.Lst Go.Proofs.Ytfkebbkfmchnaaa.Mq Go.Proofs.Ytfkebbkfmchnaaa.Bk Go.Proofs.YtfkebbkfmchnaaaW.PrintWords Go.Proofs.YtfkebbkfmchnaaaW.PrintLast Go.Proofs.YtfkebbkfmchnaaaW.PrintMore
attribute [local go_sem high] eqA33 eqA44
set_option maxHeartbeats 8000000 in
set_option maxRecDepth 100000 in
theorem calls (W : World) (a0 : Int) (w0 : (Lit.int .i64 a0).wf = true) (a1 : Int) (w1 : (Lit.int .i64 a1).wf = true) (a2 : Int) (w2 : (Lit.int .u64 a2).wf = true) :
    Calls Try.prog 7 #[.int .i64 a0, .int .i64 a1, .int .u64 a2] W fun e w' => e = .returned (.bool true) ∧ Below W.heap.size W w' := by
  have H0 := Aside0.mk w0
  have H1 := Aside0.mk w1
  clear w0 w1 w2
  go_enter Try.func7, Try.ntmps7
  go_upto_region 3 with (go_at_call 12; refine (fetch_nil _ _).mono ?_; rintro e w1 ⟨rfl, hb1⟩)
  generalize hw2 : w1.alloc (.cells #[.int .i64 0, .int .i64 0, .int .i64 0, .int .i64 0, .int .i64 0, .int .u64 0] 33) = w2
  have hb2 : Below w1.heap.size w1 w2 := by rw [← hw2]; exact below_alloc (Below.refl _ _) _
  have hl2 : w2.heap[w1.heap.size]? = some (.cells #[.int .i64 0, .int .i64 0, .int .i64 0, .int .i64 0, .int .i64 0, .int .u64 0] 33 (0, 0)) := by rw [← hw2]; exact blk_new _ _
  have hW2 := Aside0.mk (below_step hb1 hb2)
  have hl2 := Aside0.mk hl2
  clear hw2 hb2 hb1
  go_upto_region 4 with (go_at_call 13; refine (answer_nil _ _).mono ?_; rintro e w3 ⟨rfl, hb3⟩)
  go_upto_region 5 with (go_at_call 14; refine (fail_nil _ _).mono ?_; rintro e w4 ⟨rfl, hb4⟩)
  go_upto_region 6 with (go_at_call 18; refine (state_nil _ _).mono ?_; rintro e w5 ⟨rfl, hb5⟩)
  have hb35 := below_step (below_step hb3 hb4) hb5
  have hl5 := Aside0.mk (blk_below hl2.out hb35)
  have hW5 := Aside0.mk (below_step hW2.out hb35)
  clear hb3 hb4 hb5 hl2 hW2 hb35
  generalize hw6 : w5.alloc (.cells #[.int .i64 0, .int .i64 0] 44) = w6
  have hb6 : Below w5.heap.size w5 w6 := by rw [← hw6]; exact below_alloc (Below.refl _ _) _
  have ht6 : w6.heap[w5.heap.size]? = some (.cells #[.int .i64 0, .int .i64 0] 44 (0, 0)) := by rw [← hw6]; exact blk_new _ _
  have hl6 := Aside0.mk (blk_below hl5.out hb6)
  have ht6 := Aside0.mk ht6
  have hW6 := Aside0.mk (below_step hW5.out hb6)
  clear hw6 hb6 hl5 hW5
  go_upto_region 7 with (go_at_call 20; refine (lease_nil _ _).mono ?_; rintro e w7 ⟨rfl, hb7⟩)
  generalize hw8 : w7.alloc (.cells #[.int .i64 0, .int .i64 0, .int .i64 0, .int .i64 0, .int .i64 0, .int .u64 0] 33) = w8
  have hb8 : Below w7.heap.size w7 w8 := by rw [← hw8]; exact below_alloc (Below.refl _ _) _
  have hx8 : w8.heap[w7.heap.size]? = some (.cells #[.int .i64 0, .int .i64 0, .int .i64 0, .int .i64 0, .int .i64 0, .int .u64 0] 33 (0, 0)) := by rw [← hw8]; exact blk_new _ _
  have hb68 := below_step hb7 hb8
  have hl8 := Aside0.mk (blk_below hl6.out hb68)
  have ht8 := Aside0.mk (blk_below ht6.out hb68)
  have hx8 := Aside0.mk hx8
  have hW8 := Aside0.mk (below_step hW6.out hb68)
  clear hw8 hb7 hb8 hb68 hl6 ht6 hW6
  go_upto_region 9 with (first
    | (go_at_call 9; refine (add_nil _ _ _).mono ?_; rintro e w9 ⟨rfl, hb9⟩; have l9 := blk_below hl8.out hb9; have l90 := (blk_cell l9 0).trans rfl; have l91 := (blk_cell l9 1).trans rfl; have l92 := (blk_cell l9 2).trans rfl; have l93 := (blk_cell l9 3).trans rfl; have l94 := (blk_cell l9 4).trans rfl; have l95 := (blk_cell l9 5).trans rfl)
    | (go_at_call 15; refine (rested_nil _ _).mono ?_; rintro e w10 ⟨rfl, hb10⟩)
    | (go_at_call 17; refine (bdrop_nil _ _).mono ?_; rintro e w11 ⟨rfl, hb11⟩; have hb811 := below_step (below_step hb9 hb10) hb11; have t11 := blk_below ht8.out hb811; have t0 := (blk_cell t11 0).trans rfl; have t1 := (blk_cell t11 1).trans rfl; have x11 := blk_below hx8.out hb811; have xc0 := (blk_cell x11 0).trans rfl; have xc1 := (blk_cell x11 1).trans rfl; have xc2 := (blk_cell x11 2).trans rfl; have xc3 := (blk_cell x11 3).trans rfl; have xc4 := (blk_cell x11 4).trans rfl; have xc5 := (blk_cell x11 5).trans rfl)
    | (go_at_call 11; refine (open_nil _).mono ?_; rintro e w12 ⟨rfl, hb12⟩)
    | (go_at_call 31; refine (waits_nil _).mono ?_; rintro e w13 ⟨rfl, hb13⟩)
    | (go_at_call 32; refine (bcount_nil _).mono ?_; rintro e w14 ⟨rfl, hb14⟩))
  have hW14 := Aside0.mk (below_step (below_step (below_step (below_step hW8.out hb811) hb12) hb13) hb14)
  clear hb9 l9 hb10 hb11 hb811 t11 t0 t1 x11 hb12 hb13 hb14 hl8 ht8 hx8 hW8 l90 xc0 l91 xc1 l92 xc2 l93 xc3 l94 xc4 l95 xc5
  go_upto_region 12 with (go_at_call 8; refine (bnew_good 5 5 5 W.heap.size _ hW14.out.size (by decide) (by decide) (by decide)).mono ?_; rintro e w15 ⟨G, rfl, hb15, h15⟩)
  have hF15 := Aside0.mk (Fr.of_b (N := W.heap.size) (X := fun _ => False) (below_step hW14.out hb15))
  clear hb15 hW14
  go_upto_region 13 with (go_at_call 12; refine (fetch_no h15.out a2 rfl).mono ?_; rintro e w16 ⟨rfl, h16⟩)
  have hF16 := Aside0.mk ((hF15.out.trans h16.out.2).trans (Fr.of_below (below_alloc (Below.refl w16.heap.size w16) (.cells #[.int .i64 0, .int .i64 0, .int .i64 0, .int .i64 0, .int .i64 0, .int .u64 0] 33))))
  have h17 := Aside0.mk (h16.out.1.step (below_alloc (Below.refl w16.heap.size w16) (.cells #[.int .i64 0, .int .i64 0, .int .i64 0, .int .i64 0, .int .i64 0, .int .u64 0] 33)))
  clear h16 hF15 h15
  generalize w16.alloc (.cells #[.int .i64 0, .int .i64 0, .int .i64 0, .int .i64 0, .int .i64 0, .int .u64 0] 33) = w17 at hF16 h17 ⊢
  go_upto_region 14 with (go_at_call 13; refine (answer_no h17.out a0 H0.out rfl).mono ?_; rintro e w18 ⟨rfl, hb18⟩)
  have h18 := Aside0.mk (h17.out.step hb18)
  go_upto_region 15 with (go_at_call 14; refine (fail_no h18.out a0 H0.out rfl).mono ?_; rintro e w19 ⟨rfl, hb19⟩)
  have h19 := Aside0.mk (h18.out.step hb19)
  go_upto_region 16 with (go_at_call 18; refine (state_B h19.out a1 H1.out none rfl 0 0 rfl rfl false rfl).mono ?_; rintro e w20 ⟨rfl, hb20⟩)
  have hb21 : Below w20.heap.size w20 (w20.alloc (.cells #[.int .i64 0, .int .i64 0] 44)) := below_alloc (Below.refl _ _) _
  have h21 := Aside0.mk ((h19.out.step hb20).step hb21)
  have hF21 := Aside0.mk (hF16.out.trans (Fr.of_below (below_step (below_step (below_step hb18 hb19) hb20) hb21)))
  clear h17 h18 h19 hb18 hb19 hb20 hb21 hF16
  go_wp2_with (first
    | (go_at_call 15; refine (rested_no h21.out a1 H1.out (fun j hj => nomatch hj)).mono ?_; rintro e w22 ⟨rfl, hb22⟩; have h22 := Aside0.mk (h21.out.step hb22))
    | (go_at_call 17; refine (bdrop_no h22.out a1 H1.out (fun h => nomatch h)).mono ?_; rintro e w23 ⟨rfl, hb23⟩)
    | (go_at_call 16; refine (wakes12 _).mono ?_; rintro e w24 ⟨rfl, hb24⟩))
  go_ret
  exact ⟨rfl, (hF21.out.trans (Fr.of_below (below_step (below_step hb22 hb23) hb24))).below (Nat.le_refl _) (fun k h => h.1)⟩
end Go.Proofs.Ytfkebbkfmchnaaa.CallJobsNone
