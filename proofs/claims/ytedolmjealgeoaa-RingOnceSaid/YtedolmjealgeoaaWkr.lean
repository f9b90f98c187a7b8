/- Layer 5: the chapter's examples; RingNone. Conditions: the table's cells. -/
import Derived.Test.YtedolmjealgeoaaRj
set_option linter.unusedVariables false
namespace Go.Proofs.Ytedolmjealgeoaa.Rg
open Go.RowKit Go.Maps Go.Proofs.Ytedolmjealgeoaa.PBase Go.Proofs.Ytedolmjealgeoaa.Cat Go.Proofs.YtedolmjealgeoaaW.PrintWords Go.Proofs.YtedolmjealgeoaaW.PrintLast Go.Proofs.YtedolmjealgeoaaW.PrintMore
theorem wf_small {x : Int} (h0 : 0 ≤ x) (h1 : x ≤ 1000000) : (Lit.int .i64 x).wf = true := Go.WalkArith.wf_i64 (by omega)
theorem wk_list : lst [⟨3, ⟨1, 67⟩⟩, ⟨3, ⟨2, 67⟩⟩] 3 = [⟨1, 67⟩, ⟨2, 67⟩] := by
  unfold lst
  rw [if_pos (by omega)]
  refine psort_of ?_ ?_
  · unfold So
    rw [List.pairwise_cons]
    refine ⟨fun b hb => ?_, List.pairwise_singleton _ _⟩
    rw [List.mem_singleton.1 hb]
    rw [nb_iff]
    simp
  · exact List.Perm.refl _
set_option maxHeartbeats 4000000 in
set_option maxRecDepth 100000 in
theorem wakes5 (W : World) : Calls Try.prog 11 #[] W fun e w' => e = .returned (.bool true) ∧ Below W.heap.size W w' := by
  have w2 := wf_small (x := 2) (by omega) (by omega)
  have w1 := wf_small (x := 1) (by omega) (by omega)
  go_enter Try.func11, Try.ntmps11
  go_upto_region 4 with (go_at_call 4; refine (new_J _).mono ?_; rintro e wa ⟨R, rfl, hJ, hb⟩)
  have hJ := Aside0.mk hJ
  have hb := Aside0.mk hb
  have p1 : putB [] 3 ⟨2, 67⟩ = true := by simp [putB, tid]
  have p2 : putB [⟨3, ⟨2, 67⟩⟩] 3 ⟨1, 67⟩ = true := by simp [putB, tid]
  have p3 : putB [⟨3, ⟨1, 67⟩⟩, ⟨3, ⟨2, 67⟩⟩] 4 ⟨1, 5⟩ = false := by simp [putB, tid]
  have P := Aside0.mk (And.intro w1 (And.intro w2 (And.intro p1 (And.intro p2 p3))))
  clear w1 w2 p1 p2 p3
  go_upto_region 5 with (first
    | (go_at_call 5; have hT := put_J hJ.out 3 ⟨2, 67⟩ P.out.2.1 (Nat.zero_le _) true P.out.2.2.1 [⟨3, ⟨2, 67⟩⟩] rfl; refine hT.mono ?_; clear hT hJ; rintro e wb ⟨rfl, hJ1, hf1⟩; replace hJ1 := Aside0.mk hJ1)
    | (go_at_call 5; have hT := put_J hJ1.out 3 ⟨1, 67⟩ P.out.1 (by simp) true P.out.2.2.2.1 [⟨3, ⟨1, 67⟩⟩, ⟨3, ⟨2, 67⟩⟩] rfl; refine hT.mono ?_; clear hT hJ1; rintro e wc ⟨rfl, hJ2, hf2⟩; replace hJ2 := Aside0.mk hJ2))
  go_upto_region 6 with (go_at_call 5; have hT := put_J hJ2.out 4 ⟨1, 5⟩ P.out.1 (by simp) false P.out.2.2.2.2 [⟨3, ⟨1, 67⟩⟩, ⟨3, ⟨2, 67⟩⟩] rfl; refine hT.mono ?_; clear hT hJ2; rintro e wd ⟨rfl, hJ3, hf3⟩; replace hJ3 := Aside0.mk hJ3)
  go_upto_region 7 with (go_at_call 22; have hT := take_J hJ3.out 3 (by simp); refine hT.mono ?_; clear hT hJ3; rintro e we ⟨v, rfl, hT⟩)
  have hR := hT.out.1
  rw [wk_list] at hR
  obtain ⟨A, c, rfl, hc, hC⟩ := Kd.R_reads hR
  obtain ⟨ad, e1, x0, x1⟩ := at_T24 hC 0 (by omega) (by simp)
  subst e1
  obtain ⟨ad', e2, y0, y1⟩ := at_T24 hC 1 (by omega) (by simp)
  cases e2
  replace x0 : we.cell? ad = some (.int .i64 1) := x0
  replace y0 : we.cell? ⟨ad.block, ad.off + 2, none⟩ = some (.int .i64 2) := y0
  clear hR hC hc x1 y1
  have hfe := Aside0.mk (((((Fr.of_b0 hb.out).trans hf1.b0).trans hf2.b0).trans hf3.b0).trans hT.out.2.2.b0)
  have hlen := hT.out.2.1
  rw [show takeT [⟨3, ⟨1, 67⟩⟩, ⟨3, ⟨2, 67⟩⟩] 3 = [] from by simp [takeT]] at hlen
  replace hlen := Aside0.mk hlen
  clear hT hf1 hf2 hf3
  go_wp2_with (go_at_call 6; refine (len_J hlen.out).mono ?_; rintro e wf ⟨rfl, hbf⟩)

  go_ret
  exact ⟨rfl, (hfe.out.trans (Fr.of_b0 hbf)).below (Nat.le_refl _) (fun k h => h)⟩
end Go.Proofs.Ytedolmjealgeoaa.Rg
