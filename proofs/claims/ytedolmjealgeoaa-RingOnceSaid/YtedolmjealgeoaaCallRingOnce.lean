/- RingOnce as a call: true. Conditions: none. -/
import Derived.Test.YtedolmjealgeoaaWkr
import Derived.OpenShut
set_option linter.unusedVariables false
namespace Go.Proofs.Ytedolmjealgeoaa.CallRingOnce
open Go.RowKit Go.Maps Go.Proofs.Ytedolmjealgeoaa.PBase Go.Proofs.Ytedolmjealgeoaa.Cat Go.Proofs.Ytedolmjealgeoaa.Rg Go.Proofs.YtedolmjealgeoaaW.PrintWords Go.Proofs.YtedolmjealgeoaaW.PrintLast Go.Proofs.YtedolmjealgeoaaW.PrintMore
open Mk in
theorem has {m : Int} (hm : U m) (i : Int) : mask_Has.f m i = some (hs m i) := by
  unfold mask_Has.f
  have hlt := one_lt' i
  rw [bit, Option.bind_some, u64_and m _ hm.1 hm.2 (by omega) (by omega), Int.toNat_natCast]
  congr 1
  have key : (m.toNat &&& one i) ≠ 0 ↔ hs m i = true := by
    by_cases h : 0 ≤ i ∧ i < 64
    · rw [hs_of h.1 h.2]
      constructor
      · intro hne
        obtain ⟨j, hj⟩ := Nat.exists_testBit_of_ne_zero hne
        rw [Nat.testBit_and, testBit_one, Bool.and_eq_true, Bool.and_eq_true, decide_eq_true_eq, decide_eq_true_eq] at hj
        rw [hj.2.2]; exact hj.1
      · intro ht hz
        have : (m.toNat &&& one i).testBit i.toNat = true := by rw [Nat.testBit_and, ht, testBit_one, decide_eq_true h]; simp
        rw [hz, Nat.zero_testBit] at this
        cases this
    · rw [hs_out h]
      unfold one
      rw [if_neg h]
      simp
  by_cases h : hs m i = true
  · rw [h, bne_iff_ne]
    have := key.2 h
    omega
  · have h' : hs m i = false := by simpa using h
    have : (m.toNat &&& one i) = 0 := Nat.eq_zero_of_not_pos (fun h0 => h (key.1 (by omega)))
    rw [h', this]
    rfl
theorem fu_zero {fu : Int} (hU : Mk.U fu) (h : ∀ j : Nat, j < 64 → Mk.hs fu j = decide (atS [] j ≠ [])) : fu = 0 := by
  refine Mk.ext hU (by unfold Mk.U; omega) (fun i h0 h1 => ?_)
  have := h i.toNat (by omega)
  rw [show ((i.toNat : Nat) : Int) = i by omega] at this
  rw [this]
  unfold Mk.hs
  simp [atS]
theorem has_one {fu x : Int} {d : S24} (hx0 : 0 ≤ x) (hx1 : x < 64) (h : ∀ j : Nat, j < 64 → Mk.hs fu j = decide (atS [⟨x, d⟩] j ≠ [])) : Mk.hs fu x = true := by
  have := h x.toNat (by omega)
  rw [show ((x.toNat : Nat) : Int) = x by omega] at this
  rw [this]
  simp [atS]
theorem lst_one (slot : Int) (d : S24) (h : 0 ≤ slot ∧ slot < 64) : lst [⟨slot, d⟩] slot = [d] := by
  unfold lst
  rw [if_pos h]
  refine psort_of (List.pairwise_singleton _ _) ?_
  simp [atS]
set_option maxHeartbeats 8000000 in
set_option maxRecDepth 100000 in
theorem walk (W : World) (d : S24) (a b : Int) (hw : (Lit.int .i64 d.f0).wf = true) (ha : 0 ≤ a ∧ a < 256) (hb : 0 ≤ b ∧ b < 256) :
    Calls Try.prog 3 #[.agg #[.int .i64 d.f0, .int .u64 d.f1], .int .u8 a, .int .u8 b] W fun e w' => e = .returned (.bool true) ∧ Below W.heap.size W w' := by
  have hbx := Aside0.mk (below_alloc (Below.refl W.heap.size W) (.cells #[.int .i64 d.f0, .int .u64 d.f1] 24))
  have hx := blk_new W (.cells #[.int .i64 d.f0, .int .u64 d.f1] 24)
  obtain ⟨x, hxx⟩ : ∃ x, a.tmod 64 = x := ⟨_, rfl⟩
  obtain ⟨y, hyy⟩ : ∃ y, b.tmod 64 = y := ⟨_, rfl⟩
  have hx64 : 0 ≤ x ∧ x < 64 := by rw [← hxx, Int.tmod_eq_emod_of_nonneg ha.1]; omega
  have hy64 : 0 ≤ y ∧ y < 64 := by rw [← hyy, Int.tmod_eq_emod_of_nonneg hb.1]; omega
  have ha1 := ha.1
  have ha2 := ha.2
  have hb1 := hb.1
  have hb2 := hb.2
  clear ha hb
  have HXY := Aside0.mk (And.intro hx64 hy64)
  clear hx64 hy64
  have p1 : Aside0 (putB [] x d = true) := ⟨by unfold putB; rw [decide_eq_true ⟨HXY.out.1, by simp [tid]⟩]⟩
  have p2 : Aside0 (putB [⟨x, d⟩] y d = false) := ⟨by unfold putB; rw [decide_eq_false (fun e => e.2 (by simp [tid]))]⟩
  have p3 : Aside0 (putB [⟨x, d⟩] x ⟨d.f0, 0⟩ = false) := ⟨by unfold putB; rw [decide_eq_false (fun e => e.2 (by simp [tid]))]⟩
  have p4 : Aside0 (putB [] y d = true) := ⟨by unfold putB; rw [decide_eq_true ⟨HXY.out.2, by simp [tid]⟩]⟩
  have s1 : Aside0 (slotOf [⟨x, d⟩] d.f0 = some x) := ⟨by simp [slotOf]⟩
  have s2 : Aside0 (slotOf [] d.f0 = none) := ⟨rfl⟩
  have s3 : Aside0 (dropT [⟨x, d⟩] d.f0 = []) := ⟨by simp [dropT]⟩
  have s4 : Aside0 (dropT [] d.f0 = []) := ⟨rfl⟩
  have s5 := Aside0.mk (lst_one y d HXY.out.2)
  go_enter Try.func3, Try.ntmps3
  go_upto_region 1 with (fail)
  generalize hW1 : W.alloc (.cells #[.int .i64 d.f0, .int .u64 d.f1] 24) = W1 at hbx hx ⊢
  have kx : Aside0 (∀ w', Fr (KX W1.heap.size (fun _ => False)) W1 w' → w'.cell? ⟨W.heap.size, 0, none⟩ = some (.int .i64 d.f0) ∧ w'.cell? ⟨W.heap.size, 1, none⟩ = some (.int .u64 d.f1)) := ⟨fun w' hf => by
    have g := (hf.blk W.heap.size (blk_lt hx) (fun e => Nat.lt_irrefl _ (Nat.lt_of_lt_of_le (blk_lt hx) e.1))).trans hx
    exact ⟨(blk_cell g 0).trans rfl, (blk_cell g 1).trans rfl⟩⟩
  clear hx hW1
  go_upto_region 4 with (go_at_call 4; refine (new_J _).mono ?_; rintro e w2 ⟨R, rfl, hJ, b2⟩)
  have HJ2 := Aside0.mk hJ
  have hF2 := Aside0.mk (Fr.of_below (F := KX W1.heap.size (fun _ => False)) b2)
  clear hJ
  go_upto_region 5 with (fail)
  have q0 := (kx.out w2 hF2.out).1
  have q1 := (kx.out w2 hF2.out).2
  go_upto_region 7 with (first
    | (go_at_call 5; have hq := put_J HJ2.out x d hw (Nat.zero_le _) true p1.out [⟨x, d⟩] rfl; refine hq.mono ?_; clear hq HJ2; rintro e w3 ⟨rfl, hJ3, hf3⟩; replace hJ3 := Aside0.mk hJ3; have hF3 := Aside0.mk (hF2.out.trans hf3); clear hf3 q0 q1; have q0 := (kx.out w3 hF3.out).1; have q1 := (kx.out w3 hF3.out).2)
    | (go_at_call 5; have hq := put_J hJ3.out y d hw (by simp) false p2.out [⟨x, d⟩] rfl; refine hq.mono ?_; clear hq hJ3; rintro e w4 ⟨rfl, hJ4, hf4⟩; replace hJ4 := Aside0.mk hJ4; have hF4 := Aside0.mk (hF3.out.trans hf4); clear hf4 q0 q1; have q0 := (kx.out w4 hF4.out).1; have q1 := (kx.out w4 hF4.out).2)
    | (go_at_call 5; have hq := put_J hJ4.out x ⟨d.f0, 0⟩ hw (by simp) false p3.out [⟨x, d⟩] rfl; refine hq.mono ?_; clear hq hJ4; rintro e w5 ⟨rfl, hJ5, hf5⟩; replace hJ5 := Aside0.mk hJ5; have hF5 := Aside0.mk (hF4.out.trans hf5); clear hf5)
    | (go_at_call 6; have hq := len_J hJ5.out; refine hq.mono ?_; clear hq; rintro e w6 ⟨rfl, b6⟩)
    | (go_at_call 8; have hq := mask_J (hJ5.out.step b6); refine hq.mono ?_; clear hq; rintro e w7 ⟨fu, rfl, hfu, hms, b7⟩; have hf7 := has_one HXY.out.1.1 HXY.out.1.2 hms; replace hms := Aside0.mk hms)
    | (go_at_call 7; have hq := mask_Has.calls fu x true w7 (by rw [has hfu, hf7]); refine hq.mono ?_; clear hq; rintro e w8 ⟨rfl, ⟨nd, rfl⟩⟩))
  have b8 : Below w7.heap.size w7 (w7.drewN nd) := pw_below_drewN (Below.refl _ _) _
  generalize w7.drewN nd = w8 at b8 ⊢
  have hJ8 := Aside0.mk (hJ5.out.step (below_step (below_step b6 b7) b8))
  have hF8 := Aside0.mk (hF5.out.trans (Fr.of_below (below_step (below_step b6 b7) b8)))
  clear b6 b7 b8 hms hf7 hfu q0 q1 b2
  have q0 := (kx.out w8 hF8.out).1
  go_upto_region 8 with (go_at_call 9; have hq := drop_J hJ8.out d.f0 hw (by simp) (some x) s1.out; rw [s3.out] at hq; refine hq.mono ?_; clear hq; rintro e w9 ⟨rfl, hJ9, hf9⟩; replace hJ9 := Aside0.mk hJ9; have hF9 := Aside0.mk (hF8.out.trans hf9); clear hf9 q0; have q0 := (kx.out w9 hF9.out).1)
  go_upto_region 9 with (go_at_call 9; have hq := drop_J hJ9.out d.f0 hw (by simp) none s2.out; rw [s4.out] at hq; refine hq.mono ?_; clear hq; rintro e wA ⟨rfl, hJA, hfA⟩; replace hJA := Aside0.mk hJA; have hFA := Aside0.mk (hF9.out.trans hfA); clear hfA q0)
  go_upto_region 11 with (first
    | (go_at_call 8; have hq := mask_J hJA.out; refine hq.mono ?_; clear hq; rintro e wB ⟨fu2, rfl, hfu, hms, bB⟩; have hf7 := fu_zero hfu hms; subst hf7; replace hms := Aside0.mk hms; have hJB := Aside0.mk (hJA.out.step bB); have hFB := Aside0.mk (hFA.out.trans (Fr.of_below bB)); have q0 := (kx.out wB hFB.out).1; have q1 := (kx.out wB hFB.out).2)
    | (go_at_call 5; have hq := put_J hJB.out y d hw (Nat.zero_le _) true p4.out [⟨y, d⟩] rfl; refine hq.mono ?_; clear hq; rintro e wC ⟨rfl, hJC, hfC⟩; replace hJC := Aside0.mk hJC; have hFC := Aside0.mk (hFB.out.trans hfC); clear hfC q0 q1))
  go_upto_region 12 with (go_at_call 10; have hq := list_J hJC.out y (by simp); rw [s5.out] at hq; refine hq.mono ?_; clear hq; rintro e wD ⟨v, rfl, hR, bD⟩)
  obtain ⟨A, c, rfl, hc, hC⟩ := Kd.R_reads hR
  obtain ⟨ad, e1, q3, q4⟩ := at_T24 hC 0 (by omega) (by simp)
  subst e1
  replace q3 : wD.cell? ad = some (.int .i64 d.f0) := q3
  replace q4 : wD.cell? ⟨ad.block, ad.off + 1, none⟩ = some (.int .u64 d.f1) := q4
  have hJD := Aside0.mk (hJC.out.step bD)
  have hFD := Aside0.mk (hFC.out.trans (Fr.of_below bD))
  have q0 := (kx.out wD hFD.out).1
  have q1 := (kx.out wD hFD.out).2
  have kp : Aside0 (∀ w', Below wD.heap.size wD w' → w'.cell? ⟨W.heap.size, 0, none⟩ = some (.int .i64 d.f0) ∧ w'.cell? ⟨W.heap.size, 1, none⟩ = some (.int .u64 d.f1) ∧ w'.cell? ad = some (.int .i64 d.f0) ∧ w'.cell? ⟨ad.block, ad.off + 1, none⟩ = some (.int .u64 d.f1)) := ⟨fun w' hb => ⟨(kx.out w' (hFD.out.trans (Fr.of_below hb))).1, (kx.out w' (hFD.out.trans (Fr.of_below hb))).2, (hb.cell (World.block_lt_of_cell? wD _ q3)).trans q3, (hb.cell (World.block_lt_of_cell? wD _ q4)).trans q4⟩⟩
  clear hc hC hR hms hfu bB bD
  have hl1 : ((List.length [(d : S24)] : Nat) : Int) = 1 := rfl
  go_region_held3 (fun w' => w'.cell? ⟨W.heap.size, 0, none⟩ = some (.int .i64 d.f0) ∧ w'.cell? ⟨W.heap.size, 1, none⟩ = some (.int .u64 d.f1) ∧ w'.cell? ad = some (.int .i64 d.f0) ∧ w'.cell? ⟨ad.block, ad.off + 1, none⟩ = some (.int .u64 d.f1)) (first | exact kp.out _ (below_drew1 (Below.refl _ _)) | exact kp.out _ hBc) (first
    | (go_at_call 6; refine (len_J (hJD.out.step (below_drew1 (Below.refl _ _)))).mono ?_; rintro e x14 ⟨rfl, b14⟩; have hBc := below_step (below_drew1 (Below.refl wD.heap.size wD)) b14)
    | (go_at_call 11; refine (wakes5 _).mono ?_; rintro e x16 ⟨rfl, b16⟩; have hBc := below_step hBc b16))
  go_wp2
  go_ret
  exact ⟨rfl, ((Fr.of_below (F := fun k => W1.heap.size ≤ k) hbx.out).trans (hFD.out.weak (fun k hk => hk.1))).trans (Fr.of_below hBc) |>.below (Nat.le_refl _) (fun k h => Nat.le_trans hbx.out.size h)⟩
theorem calls (W : World) (a0_0 : Int) (w0_0 : (Lit.int .i64 a0_0).wf = true) (a0_1 : Int) (w0_1 : (Lit.int .u64 a0_1).wf = true) (a1 : Int) (w1 : (Lit.int .u8 a1).wf = true) (a2 : Int) (w2 : (Lit.int .u8 a2).wf = true) :
    Calls Try.prog 3 #[.agg #[.int .i64 a0_0, .int .u64 a0_1], .int .u8 a1, .int .u8 a2] W fun e w' => e = .returned (.bool true) ∧ Below W.heap.size W w' :=
  walk W ⟨a0_0, a0_1⟩ a1 a2 w0_0 (by have := Go.bounds_u8 w1; omega) (by have := Go.bounds_u8 w2; omega)
end Go.Proofs.Ytedolmjealgeoaa.CallRingOnce
