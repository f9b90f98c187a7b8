/- The chapter's examples of layer 7 as a call. Conditions: none. -/
import Derived.Test.YtedolmjealgeoaaDoorPn
set_option linter.unusedVariables false
namespace Go.Proofs.YtedolmjealgeoaaDoor.Pn
open Go.RowKit Go.Maps Go.Proofs.YtedolmjealgeoaaDoor.PBase Go.Proofs.YtedolmjealgeoaaDoor.Cat Go.Proofs.YtedolmjealgeoaaDoor.Rg Go.Proofs.YtedolmjealgeoaaDoorW.PrintWords Go.Proofs.YtedolmjealgeoaaDoorW.PrintLast Go.Proofs.YtedolmjealgeoaaDoorW.PrintMore
abbrev k2 : List S31 := [⟨1, 5⟩, ⟨3, 7⟩]
abbrev k3 : List S31 := [⟨1, 5⟩, ⟨2, 5⟩, ⟨3, 7⟩]
theorem ok_of {l : List S31} (h : l.all (fun d => (Lit.int .i64 d.f0).wf) = true) : Ok l := List.all_eq_true.1 h
theorem gd2 : Gd k2 := by
  refine ⟨by decide, List.pairwise_cons.2 ⟨fun x hx => ?_, List.pairwise_singleton _ _⟩⟩
  rw [List.mem_singleton.1 hx]
  decide
theorem gd3 : Gd k3 := by
  refine ⟨by decide, List.pairwise_cons.2 ⟨fun x hx => ?_, List.pairwise_cons.2 ⟨fun x hx => ?_, List.pairwise_singleton _ _⟩⟩⟩
  · rcases List.mem_cons.1 hx with rfl | hx
    · decide
    · rw [List.mem_singleton.1 hx]; decide
  · rw [List.mem_singleton.1 hx]
    decide
theorem ins23 : plan_Insert.f k2 2 5 = some (k3, true) := by
  rw [ins_yes (ok_of (by decide)) (by decide) gd2 (by decide)]
  rw [psort_of gd3.so (List.Perm.swap _ _ _)]
theorem spl3 : plan_Split.f 4 k3 5 = some ([⟨1, 5⟩, ⟨2, 5⟩], [⟨3, 7⟩]) := split k3 5 (by decide) 0
theorem good3 : plan_Good.f k3 = some true := good_true k3 (ok_of (by decide)) (by decide) gd3
theorem bad2 : plan_Good.f [⟨2, 0⟩, ⟨1, 0⟩] = some false := by
  rw [good _ (ok_of (by decide)) (by decide)]
  decide
theorem C_lit2 (W : World) (d e : S31) (ty : TypeId) : Kd.C k31 (W.alloc (.cells #[.int .i64 d.f0, .int .u64 d.f1, .int .i64 e.f0, .int .u64 e.f1] ty)) (some ⟨W.heap.size, 0, none⟩) 2 [d, e] := by
  refine C_of_cells (by rfl) (by decide) fun j u hu => ?_
  match j with
  | 0 => simpa [flat, enc, Addr.add] using hu
  | 1 => simpa [flat, enc, Addr.add] using hu
  | 2 => simpa [flat, enc, Addr.add] using hu
  | 3 => simpa [flat, enc, Addr.add] using hu
  | j + 4 => simp [flat, enc] at hu
set_option maxHeartbeats 8000000 in
set_option maxRecDepth 100000 in
theorem wakes7 (W : World) : Calls Tryd.prog 56 #[] W fun e w' => e = .returned (.bool true) ∧ Below W.heap.size W w' := by
  go_enter Tryd.func56, Tryd.ntmps56
  have hb0 := Aside0.mk (below_alloc (Below.refl W.heap.size W) (.cells #[.int .i64 1, .int .u64 5, .int .i64 3, .int .u64 7] 31))
  go_upto_region 2 with (go_at_call 53; refine (plan_Insert.calls (some ⟨W.heap.size, 0, none⟩) 2 k2 2 5 k3 true _ (C_lit2 W ⟨1, 5⟩ ⟨3, 7⟩ _) (by decide) ins23 (Nat.zero_le _)).mono ?_; rintro e w1 ⟨v1, rfl, hR1, hb1⟩)
  obtain ⟨A1, c1, rfl, hc1, hC1⟩ := Kd.R_reads hR1
  have HC1 := Aside0.mk hC1
  have HB1 := Aside0.mk (below_step hb0.out hb1)
  clear hb0 hR1 hC1 hb1
  go_upto_region 3 with (go_at_call 55; refine (plan_Split.calls 4 A1 c1 k3 5 _ _ w1 HC1.out hc1 spl3).mono ?_; rintro e w2 ⟨v2, v3, rfl, hR2, hR3, hb2⟩)
  obtain ⟨A2, c2, rfl, _, _⟩ := Kd.R_reads hR2
  obtain ⟨A3, c3, rfl, _, _⟩ := Kd.R_reads hR3
  obtain ⟨ad, e1, x0, x1⟩ := at_T31 (Kd.C_below HC1.out hb2) 1 (by omega) (by decide)
  subst e1
  replace x0 : w2.cell? ⟨ad.block, ad.off + 2, none⟩ = some (.int .i64 2) := x0
  have HC2 := Aside0.mk (Kd.C_below HC1.out hb2)
  have HB2 := Aside0.mk (below_step HB1.out hb2)
  clear hR2 hR3 hb2 x1
  have hg3 : Aside0 (∀ w', Below w2.heap.size w2 w' → Calls Tryd.prog 81 #[.slice (some ad) 3 c1] w' fun e w'' => e = .returned (.bool true) ∧ Below w'.heap.size w' w'') := ⟨fun w' hb => plan_Good.calls (some ad) c1 k3 true w' (Kd.C_below HC2.out hb) hc1 good3 (Nat.zero_le _)⟩
  have hg2 : Aside0 (∀ w : World, Calls Tryd.prog 81 #[.slice (some ⟨w.heap.size, 0, none⟩) 2 2] (w.alloc (.cells #[.int .i64 2, .int .u64 0, .int .i64 1, .int .u64 0] 31)) fun e w' => e = .returned (.bool false) ∧ Below (w.alloc (.cells #[.int .i64 2, .int .u64 0, .int .i64 1, .int .u64 0] 31)).heap.size (w.alloc (.cells #[.int .i64 2, .int .u64 0, .int .i64 1, .int .u64 0] 31)) w') := ⟨fun w => plan_Good.calls (some ⟨w.heap.size, 0, none⟩) 2 [⟨2, 0⟩, ⟨1, 0⟩] false _ (C_lit2 w ⟨2, 0⟩ ⟨1, 0⟩ _) (by decide) bad2 (Nat.zero_le _)⟩
  clear HC1 HC2
  go_wp2_with (first
    | (go_at_call 81; ((with_reducible refine (hg3.out _ (Below.refl _ _)).mono ?_); rintro e w3 ⟨rfl, hb3⟩))
    | (go_at_call 81; ((with_reducible refine (hg2.out w3).mono ?_); rintro e w4 ⟨rfl, hb4⟩)))
  go_ret
  exact ⟨rfl, below_step (below_step HB2.out hb3) (below_step (below_alloc (Below.refl _ _) _) hb4)⟩
end Go.Proofs.YtedolmjealgeoaaDoor.Pn
