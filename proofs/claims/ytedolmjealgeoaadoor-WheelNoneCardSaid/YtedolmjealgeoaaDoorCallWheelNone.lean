/- WheelNone as a call: true. Conditions: the library's table as its initialiser lays it. -/
import Derived.Test.YtedolmjealgeoaaDoorGf
import Derived.Test.YtedolmjealgeoaaDoorGe
import Derived.OpenShut
set_option linter.unusedVariables false
namespace Go.Proofs.YtedolmjealgeoaaDoor.CallWheelNone
open Go.RowKit Go.Maps Go.Proofs.YtedolmjealgeoaaDoor.PBase Go.Proofs.YtedolmjealgeoaaDoor.Tz Go.Proofs.YtedolmjealgeoaaDoor.Cat Go.Proofs.YtedolmjealgeoaaDoor.Rg Go.Proofs.YtedolmjealgeoaaDoor.Tk Go.Proofs.YtedolmjealgeoaaDoor.Wh Go.Proofs.YtedolmjealgeoaaDoorW.PrintWords Go.Proofs.YtedolmjealgeoaaDoorW.PrintLast Go.Proofs.YtedolmjealgeoaaDoorW.PrintMore
theorem load_nil2 (W : World) : Calls Tryd.prog 40 #[.pointer none] W fun e w' => e = .returned (.agg #[.int .i64 0, .int .i64 0, .int .i64 0, .int .i64 0, .int .i64 0, .int .i64 0, .int .i64 0]) ∧ Below W.heap.size W w' := load_nil W
theorem field64 (r : Int) (b : Bool) (w : World) : (Instr.field 64 (.agg #[.int .u64 r, .bool b]) 1).run Tryd.prog w = .ok (.bool b) w := by
  simp [Instr.field, run_underlying Tryd.underlying64, part, asAgg, go_sem]
theorem U_of {a : Int} (h : (Lit.int .u64 a).wf = true) : U a := by
  have h2 := Go.bounds_u64 h
  unfold U
  omega
set_option maxHeartbeats 8000000 in
set_option maxRecDepth 100000 in
theorem calls (W : World) (hT : TabOk W) (a0 : Int) (w0 : (Lit.int .i64 a0).wf = true) (a1 : Int) (w1 : (Lit.int .u64 a1).wf = true) (a2 : Int) (w2 : (Lit.int .u64 a2).wf = true) :
    Calls Tryd.prog 11 #[.int .i64 a0, .int .u64 a1, .int .u64 a2] W fun e w' => e = .returned (.bool true) ∧ Below W.heap.size W w' := by
  have HT := Aside0.mk hT
  have HU := Aside0.mk (And.intro (U_of w1) (U_of w2))
  have HW := Aside0.mk w0
  have o4 : (FloatKind.f64.format.order 0 0 == some .eq) = true := by decide +kernel
  clear hT w0 w1 w2
  go_enter Tryd.func11, Tryd.ntmps11
  go_upto_region 8 with (first
    | (go_at_call 31; refine (cancel_nil _ a0).mono ?_; rintro e x1 ⟨rfl, b1⟩)
    | (go_at_call 48; refine (at_nil _ a0).mono ?_; rintro e x2 ⟨rfl, b2⟩)
    | (go_at_call 46; refine (place_nil _ a0).mono ?_; rintro e x3 ⟨rfl, b3⟩)
    | (go_at_call 38; refine (Wh.first_nil _).mono ?_; rintro e x4 ⟨rfl, b4⟩; have g4 := blk_new x4 (.cells #[.int .i64 0, .int .u64 0] 31); have d4 := below_alloc (Below.refl x4.heap.size x4) (.cells #[.int .i64 0, .int .u64 0] 31))
    | (go_at_call 39; refine (pop_nil _ a1).mono ?_; rintro e x5 ⟨rfl, b5⟩; have g5 := blk_new x5 (.cells #[.int .i64 0, .int .u64 0] 31); have d5 := below_alloc (Below.refl x5.heap.size x5) (.cells #[.int .i64 0, .int .u64 0] 31))
    | (go_at_call 32; refine (adv_nil _ a2).mono ?_; rintro e x6 ⟨rfl, b6⟩))
  have hb := Aside0.mk (below_step (below_step (below_step (below_step b1 b2) b3) (below_step b4 d4)) (below_step (below_step b5 d5) b6))
  have G4 := Aside0.mk (blk_below (blk_below (blk_below g4 b5) d5) b6)
  have G5 := Aside0.mk (blk_below g5 b6)
  clear b1 b2 b3 b4 d4 b5 d5 b6 g4 g5
  generalize x4.heap.size = n4 at G4 ⊢
  generalize x5.heap.size = n5 at G5 ⊢
  have h74 := eq74 0 0 0 0 0 0 0
  have g74 := guard74
  go_upto_region 10 with (first
    | (go_at_call 36; refine (insert_nil _ a0 a1).mono ?_; rintro e x7 ⟨rfl, b7⟩; have p0 : x7.cell? ⟨n4, 0, none⟩ = some (.int .i64 0) := (blk_cell (blk_below G4.out b7) 0).trans rfl; have p1 : x7.cell? ⟨n4, 1, none⟩ = some (.int .u64 0) := (blk_cell (blk_below G4.out b7) 1).trans rfl; have p2 : x7.cell? ⟨n5, 0, none⟩ = some (.int .i64 0) := (blk_cell (blk_below G5.out b7) 0).trans rfl; have p3 : x7.cell? ⟨n5, 1, none⟩ = some (.int .u64 0) := (blk_cell (blk_below G5.out b7) 1).trans rfl)
    | (go_at_call 34; refine (now_nil _).mono ?_; rintro e x8 ⟨rfl, b8⟩)
    | (go_at_call 37; refine (Wh.len_nil _).mono ?_; rintro e x9 ⟨rfl, b9⟩)
    | (go_at_call 40; refine (load_nil2 _).mono ?_; rintro e x10 ⟨rfl, b10⟩))
  have hbx := Aside0.mk (below_step (below_step (below_step (below_step hb.out b7) b8) b9) b10)
  clear p0 p1 p2 p3 b7 b8 b9 b10 h74
  have hT10 := HT.out.below hbx.out
  have hW10 := Aside0.mk hbx.out.size
  go_upto_region 13 with (go_at_call 35; refine (new_J _ hT10 HU.out.1).mono ?_; rintro e x11 ⟨B, rfl, hJ, b11⟩)
  have hbx := Aside0.mk (below_step hbx.out b11)
  clear hT10 b11
  go_upto_region 15 with (first
    | (go_at_call 38; have hq := Wh.first_J hJ.out (Nat.zero_le _) none (by simp [psort]); refine hq.mono ?_; clear hq; rintro e x12 ⟨rfl, b12⟩; have d12 := below_alloc (Below.refl x12.heap.size x12) (.cells #[.int .i64 0, .int .u64 0] 31))
    | (go_at_call 46; have hq := place_J (hJ.out.step (below_step b12 d12)) a0 HW.out none rfl; refine hq.mono ?_; clear hq; rintro e x13 ⟨rfl, b13⟩))
  have hJ3 := Aside0.mk (hJ.out.step (below_step (below_step b12 d12) b13))
  have hb3 := Aside0.mk (below_step (below_step (below_step hbx.out b12) d12) b13)
  have hN := Aside0.mk hJ.out.base_le
  clear b12 d12 b13 hJ
  by_cases ho : a1 + a2 < 18446744073709551616
  · have hs := rsum HU.out.1 HU.out.2
    rw [if_pos ho] at hs
    have HS := Aside0.mk hs
    have hU : U (a1 + a2) := by
      have h1 := HU.out.1
      have h2 := HU.out.2
      unfold U at *
      omega
    have HA := Aside0.mk (adv_J hJ3.out (Nat.zero_le _) HU.out.2 (t := a1 + a2) rfl hU)
    clear hs ho
    go_upto_region 16 with (go_at_call 32; refine HA.out.mono ?_; rintro e x14 ⟨v, rfl, hg⟩)
    have hR := hg.out.1
    rw [show dueT [] (a1 + a2) = [] by simp [dueT, psort]] at hR
    obtain ⟨A, c, rfl, _, _⟩ := Kd.R_reads hR
    have hJ4 := Aside0.mk (hg.out.2.1.sub (Y := fun _ => False) (fun _ h => h.elim))
    have hf4 := Aside0.mk hg.out.2.2
    clear hR hg
    have hlz : (restT [] (a1 + a2)).length = 0 := by simp [restT, psort]
    have hfi := field64
    go_wp2_with (first
      | (go_at_call 33; refine (remontoirref01_Sum.calls a1 a2 _ _ _ HS.out).mono ?_; rintro e x15 ⟨rfl, b15⟩)
      | (go_at_call 37; have hq := Wh.len_J (hJ4.out.step b15); rw [hlz] at hq; refine hq.mono ?_; clear hq; rintro e x16 ⟨rfl, b16⟩)
      | (go_at_call 30; refine (wakes6 _ (((hJ4.out.step b15).step b16).tb.tab)).mono ?_; rintro e x17 ⟨rfl, b17⟩))
    go_ret
    exact ⟨rfl, (((Fr.of_b0 hb3.out).trans (hf4.out.weak (fun k hk => Nat.le_trans hW10.out hk.1))).trans (Fr.of_below (below_step (below_step b15 b16) b17))).below (Nat.le_refl _) (fun k h => h)⟩
  · have hs := rsum HU.out.1 HU.out.2
    rw [if_neg ho] at hs
    have HS := Aside0.mk hs
    have HA := Aside0.mk (advo_J hJ3.out HU.out.2 ho)
    clear hs ho
    have hfi := field64
    go_wp2_with (first
      | (go_at_call 32; refine HA.out.mono ?_; rintro e x14 ⟨rfl, b14⟩)
      | (go_at_call 33; refine (remontoirref01_Sum.calls a1 a2 _ _ _ HS.out).mono ?_; rintro e x15 ⟨rfl, b15⟩)
      | (go_at_call 37; have hq := Wh.len_J ((hJ3.out.step b14).step b15); refine hq.mono ?_; clear hq; rintro e x16 ⟨rfl, b16⟩)
      | (go_at_call 30; refine (wakes6 _ ((((hJ3.out.step b14).step b15).step b16).tb.tab)).mono ?_; rintro e x17 ⟨rfl, b17⟩))
    go_ret
    exact ⟨rfl, ((Fr.of_b0 hb3.out).trans (Fr.of_below (below_step (below_step (below_step b14 b15) b16) b17))).below (Nat.le_refl _) (fun k h => h)⟩
end Go.Proofs.YtedolmjealgeoaaDoor.CallWheelNone
