/- RingNone as a call: true. Conditions: the library's table as its initialiser lays it. -/
import Derived.Test.YtedolmjealgeoaaDoorWkr
import Derived.OpenShut
set_option linter.unusedVariables false
namespace Go.Proofs.YtedolmjealgeoaaDoor.CallRingNone
open Go.RowKit Go.Maps Go.Proofs.YtedolmjealgeoaaDoor.PBase Go.Proofs.YtedolmjealgeoaaDoor.Tz Go.Proofs.YtedolmjealgeoaaDoor.Cat Go.Proofs.YtedolmjealgeoaaDoor.Rg Go.Proofs.YtedolmjealgeoaaDoorW.PrintWords Go.Proofs.YtedolmjealgeoaaDoorW.PrintLast Go.Proofs.YtedolmjealgeoaaDoorW.PrintMore
theorem lst_one (slot : Int) (d : S31) (h : 0 ≤ slot ∧ slot < 64) : (lst [⟨slot, d⟩] slot).length = 1 := by
  unfold lst
  rw [if_pos h, psort_len]
  simp [atS]
theorem lst_none (slot : Int) : (lst [] slot).length = 0 := by
  unfold lst
  split
  · rw [psort_len]; simp [atS]
  · rfl
set_option maxHeartbeats 4000000 in
set_option maxRecDepth 100000 in
theorem walk (W : World) (hT : TabOk W) (slot : Int) (d : S31) (hw : (Lit.int .i64 d.f0).wf = true) :
    Calls Tryd.prog 5 #[.int .i64 slot, .agg #[.int .i64 d.f0, .int .u64 d.f1]] W fun e w' => e = .returned (.bool true) ∧ Below W.heap.size W w' := by
  have HT := Aside0.mk hT
  have hbx := Aside0.mk (below_alloc (Below.refl W.heap.size W) (.cells #[.int .i64 d.f0, .int .u64 d.f1] 31))
  have hx := blk_new W (.cells #[.int .i64 d.f0, .int .u64 d.f1] 31)
  have kx : Aside0 (∀ w', Below (W.alloc (.cells #[.int .i64 d.f0, .int .u64 d.f1] 31)).heap.size (W.alloc (.cells #[.int .i64 d.f0, .int .u64 d.f1] 31)) w' → Below W.heap.size W w' ∧ TabOk w' ∧ w'.cell? ⟨W.heap.size, 0, none⟩ = some (.int .i64 d.f0) ∧ w'.cell? ⟨W.heap.size, 1, none⟩ = some (.int .u64 d.f1)) := ⟨fun w' hb => by
    have g := blk_below hx hb
    have hb2 := below_step hbx.out hb
    exact ⟨hb2, HT.out.below hb2, (blk_cell g 0).trans rfl, (blk_cell g 1).trans rfl⟩⟩
  clear hT
  go_enter Tryd.func5, Tryd.ntmps5
  go_upto_region 2 with (fail)
  generalize W.alloc (.cells #[.int .i64 d.f0, .int .u64 d.f1] 31) = W1 at kx hbx hx ⊢
  have x0 := (kx.out W1 (Below.refl _ _)).2.2.1
  clear hx hbx
  go_upto_region 4 with (first
    | (go_at_call 17; refine (Rg.drop_nil _ d.f0).mono ?_; clear x0; rintro e w1 ⟨rfl, hb1⟩)
    | (go_at_call 26; have hT := first_nil w1 slot (kx.out _ hb1).2.1; refine hT.mono ?_; clear hT; rintro e w2 ⟨rfl, hb2⟩))
  have hb := Aside0.mk (below_step hb1 hb2)
  have x0 := (kx.out w2 hb.out).2.2.1
  have x1 := (kx.out w2 hb.out).2.2.2
  clear hb1 hb2
  go_upto_region 6 with (first
    | (go_at_call 15; refine (put_nil _ slot d).mono ?_; clear x0 x1; rintro e w3 ⟨rfl, hb3⟩)
    | (go_at_call 20; refine (take_nil _ slot).mono ?_; rintro e w4 ⟨rfl, hb4⟩)
    | (go_at_call 22; refine (list_nil _ slot).mono ?_; rintro e w5 ⟨rfl, hb5⟩)
    | (go_at_call 28; refine (mask_nil _).mono ?_; rintro e w6 ⟨rfl, hb6⟩)
    | (go_at_call 25; refine (Rg.len_nil _).mono ?_; rintro e w7 ⟨rfl, hb7⟩))
  replace hb := Aside0.mk (below_step (below_step (below_step (below_step (below_step hb.out hb3) hb4) hb5) hb6) hb7)
  clear hb3 hb4 hb5 hb6 hb7
  have hN := Aside0.mk (kx.out w7 hb.out).1.size
  go_upto_region 9 with (go_at_call 13; refine (new_J _).mono ?_; rintro e w8 ⟨R, rfl, hJ, hb8⟩)
  replace hJ := Aside0.mk hJ
  have hb8 := Aside0.mk (below_step hb.out hb8)
  have x0 := (kx.out w8 hb8.out).2.2.1
  have x1 := (kx.out w8 hb8.out).2.2.2
  have hW8 := Aside0.mk (kx.out w8 hb8.out).1
  clear kx HT
  by_cases hs : 0 ≤ slot ∧ slot < 64
  · have p1 : putB [] slot d = true := by unfold putB; rw [decide_eq_true ⟨hs, by simp [tid]⟩]
    have h1 := hs.1
    have h2 := hs.2
    have hl := lst_one slot d hs
    have P := Aside0.mk p1
    clear p1 hs
    go_wp2_with (first
      | (go_at_call 15; have hT := put_J hJ.out slot d hw (Nat.zero_le _) true P.out [⟨slot, d⟩] rfl; refine hT.mono ?_; clear hT x0 x1; rintro e w9 ⟨rfl, hJ9, hf9⟩; replace hJ9 := Aside0.mk hJ9)
      | (go_at_call 22; have hT := list_J (hJ9.out.step hbA) slot (by simp); refine hT.mono ?_; clear hT; rintro e wB ⟨v, rfl, hR, hbB⟩; obtain ⟨A, c, rfl, _, _⟩ := Kd.R_reads hR; clear hR)
      | (go_at_call 25; have hT := len_J (hJ9.out.step (below_step hbA hbB)); refine hT.mono ?_; clear hT; rintro e wC ⟨rfl, hbC⟩)
      | (go_at_call 25; have hT := len_J hJ9.out; refine hT.mono ?_; clear hT; rintro e wA ⟨rfl, hbA⟩)
      | (go_at_call 24; refine (wakes5 _).mono ?_; rintro e wD ⟨rfl, hbD⟩))
    go_ret
    exact ⟨rfl, (((Fr.of_below (F := fun _ => False) hW8.out).then_ hf9 (fun b h => .inr (Nat.le_trans hN.out h.1))).trans (Fr.of_below (below_step (below_step (below_step hbA hbB) hbC) hbD))).below (Nat.le_refl _) (fun k h => h.elim)⟩
  · have p1 : putB [] slot d = false := by unfold putB; rw [decide_eq_false (fun e => hs e.1)]
    have hl := lst_none slot
    have P := Aside0.mk p1
    have P2 := Aside0.mk hs
    clear p1
    by_cases h1 : 0 ≤ slot
    · have h2 : ¬ slot < 64 := fun e => hs ⟨h1, e⟩
      clear hs
      go_wp2_with (first
        | (go_at_call 15; have hT := put_J hJ.out slot d hw (Nat.zero_le _) false P.out [] rfl; refine hT.mono ?_; clear hT x0 x1; rintro e w9 ⟨rfl, hJ9, hf9⟩; replace hJ9 := Aside0.mk hJ9)
        | (go_at_call 22; have hT := list_J (hJ9.out.step hbA) slot (by simp); refine hT.mono ?_; clear hT; rintro e wB ⟨v, rfl, hR, hbB⟩; obtain ⟨A, c, rfl, _, _⟩ := Kd.R_reads hR; clear hR)
        | (go_at_call 25; have hT := len_J (hJ9.out.step (below_step hbA hbB)); refine hT.mono ?_; clear hT; rintro e wC ⟨rfl, hbC⟩)
        | (go_at_call 25; have hT := len_J hJ9.out; refine hT.mono ?_; clear hT; rintro e wA ⟨rfl, hbA⟩)
        | (go_at_call 24; refine (wakes5 _).mono ?_; rintro e wD ⟨rfl, hbD⟩))
      go_ret
      exact ⟨rfl, (((Fr.of_below (F := fun _ => False) hW8.out).then_ hf9 (fun b h => .inr (Nat.le_trans hN.out h.1))).trans (Fr.of_below (below_step (below_step (below_step hbA hbB) hbC) hbD))).below (Nat.le_refl _) (fun k h => h.elim)⟩
    · clear hs
      go_wp2_with (first
        | (go_at_call 15; have hT := put_J hJ.out slot d hw (Nat.zero_le _) false P.out [] rfl; refine hT.mono ?_; clear hT x0 x1; rintro e w9 ⟨rfl, hJ9, hf9⟩; replace hJ9 := Aside0.mk hJ9)
        | (go_at_call 22; have hT := list_J (hJ9.out.step hbA) slot (by simp); refine hT.mono ?_; clear hT; rintro e wB ⟨v, rfl, hR, hbB⟩; obtain ⟨A, c, rfl, _, _⟩ := Kd.R_reads hR; clear hR)
        | (go_at_call 25; have hT := len_J (hJ9.out.step (below_step hbA hbB)); refine hT.mono ?_; clear hT; rintro e wC ⟨rfl, hbC⟩)
        | (go_at_call 25; have hT := len_J hJ9.out; refine hT.mono ?_; clear hT; rintro e wA ⟨rfl, hbA⟩)
        | (go_at_call 24; refine (wakes5 _).mono ?_; rintro e wD ⟨rfl, hbD⟩))
      go_ret
      exact ⟨rfl, (((Fr.of_below (F := fun _ => False) hW8.out).then_ hf9 (fun b h => .inr (Nat.le_trans hN.out h.1))).trans (Fr.of_below (below_step (below_step (below_step hbA hbB) hbC) hbD))).below (Nat.le_refl _) (fun k h => h.elim)⟩
theorem calls (W : World) (hT : TabOk W) (a0 : Int) (w0 : (Lit.int .i64 a0).wf = true) (a1_0 : Int) (w1_0 : (Lit.int .i64 a1_0).wf = true) (a1_1 : Int) (w1_1 : (Lit.int .u64 a1_1).wf = true) :
    Calls Tryd.prog 5 #[.int .i64 a0, .agg #[.int .i64 a1_0, .int .u64 a1_1]] W fun e w' => e = .returned (.bool true) ∧ Below W.heap.size W w' := walk W hT a0 ⟨a1_0, a1_1⟩ w1_0
end Go.Proofs.YtedolmjealgeoaaDoor.CallRingNone
