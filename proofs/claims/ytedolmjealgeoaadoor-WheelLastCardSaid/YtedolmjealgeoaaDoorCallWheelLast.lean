/- WheelLast as a call: true. Conditions: the library's table as its initialiser lays it. -/
import Derived.Test.YtedolmjealgeoaaDoorGf
import Derived.Test.YtedolmjealgeoaaDoorGe
import Derived.OpenShut
set_option linter.unusedVariables false
namespace Go.Proofs.YtedolmjealgeoaaDoor.CallWheelLast
open Go.RowKit Go.Maps Go.Proofs.YtedolmjealgeoaaDoor.PBase Go.Proofs.YtedolmjealgeoaaDoor.Tz Go.Proofs.YtedolmjealgeoaaDoor.Cat Go.Proofs.YtedolmjealgeoaaDoor.Rg Go.Proofs.YtedolmjealgeoaaDoor.Tk Go.Proofs.YtedolmjealgeoaaDoor.Wh Go.Proofs.YtedolmjealgeoaaDoorW.PrintWords Go.Proofs.YtedolmjealgeoaaDoorW.PrintLast Go.Proofs.YtedolmjealgeoaaDoorW.PrintMore
theorem U_of {a : Int} (h : (Lit.int .u64 a).wf = true) : U a := by
  have h2 := Go.bounds_u64 h
  unfold U
  omega
set_option maxHeartbeats 8000000 in
set_option maxRecDepth 100000 in
/-- Too far, or no distance at all. -/
theorem past (W : World) (hT : TabOk W) (now far id : Int) (hw : (Lit.int .i64 id).wf = true) (hn : U now) (hf : U far) (h : ¬ now + far < 18446744073709551616 ∨ far = 0) :
    Calls Tryd.prog 7 #[.int .u64 now, .int .u64 far, .int .i64 id] W fun e w' => e = .returned (.bool true) ∧ Below W.heap.size W w' := by
  have hs := rsum hn hf
  have HT := Aside0.mk hT
  have HU := Aside0.mk (And.intro hn hf)
  obtain ⟨r, b, hrb, hbf⟩ : ∃ r b, remontoirref01_Sum.f now far = some (r, b) ∧ (b = true → far = 0) := by
    rw [hs]
    by_cases h2 : now + far < 18446744073709551616
    · rw [if_pos h2]
      rcases h with h | h
      · exact absurd h2 h
      · exact ⟨_, _, rfl, fun _ => h⟩
    · rw [if_neg h2]
      exact ⟨_, _, rfl, fun e => by cases e⟩
  have HS := Aside0.mk hrb
  have hi : insR now [] id now = 9 := by simp [insR, ids]
  have hi2 : insT now [] id now = [] := by simp [insT, ids]
  have HI := Aside0.mk (And.intro hi hi2)
  clear hs hT h hrb hi hi2 hn hf
  go_enter Tryd.func7, Tryd.ntmps7
  go_upto_region 2 with (go_at_call 33; refine (remontoirref01_Sum.calls now far _ _ _ HS.out).mono ?_; rintro e x1 ⟨rfl, b1⟩; have g1 := blk_new x1 (.cells #[.int .u64 r, .bool b] 64); have d1 := below_alloc (Below.refl x1.heap.size x1) (.cells #[.int .u64 r, .bool b] 64))
  have hb := Aside0.mk (below_step b1 d1)
  have G1 := Aside0.mk g1
  clear b1 d1 g1
  generalize x1.heap.size = n1 at G1 ⊢
  generalize x1.alloc (.cells #[.int .u64 r, .bool b] 64) = x2 at hb G1 ⊢
  go_upto_region 5 with (go_at_call 35; refine (new_J _ (HT.out.below hb.out) HU.out.1).mono ?_; rintro e x3 ⟨B, rfl, hJ, b3⟩)
  have hN := Aside0.mk hb.out.size
  have z1 : x3.cell? ⟨n1, 1, none⟩ = some (.bool b) := (blk_cell (blk_below G1.out b3) 1).trans rfl
  have hb3 := Aside0.mk (below_step hb.out b3)
  clear b3
  have fin : ∀ {x y z w : World}, Fr (KX x2.heap.size fun _ => False) x3 x → Below x.heap.size x y → Below y.heap.size y z → Below W.heap.size W z := fun h1 h2 h3 => ((Fr.of_b0 hb3.out).trans (h1.weak (fun k hk => Nat.le_trans hN.out hk.1))).trans (Fr.of_below (below_step h2 h3)) |>.below (Nat.le_refl _) (fun k h => h)
  have FIN := Aside0.mk (@fin)
  clear fin
  cases b with
  | false =>
    go_wp2_with (first
      | (go_at_call 36; have hq := ins_J hJ.out id now hw HU.out.1 (Nat.zero_le _) 9 HI.out.1 [] HI.out.2; refine hq.mono ?_; clear hq; rintro e x4 ⟨rfl, hJ4, hf4⟩)
      | (go_at_call 37; refine (Wh.len_J hJ4.out).mono ?_; rintro e x5 ⟨rfl, b5⟩)
      | (go_at_call 30; refine (wakes6 _ ((hJ4.out.step b5).tb.tab)).mono ?_; rintro e x6 ⟨rfl, b6⟩))
    go_ret
    exact ⟨rfl, FIN.out (w := x6) hf4 b5 b6⟩
  | true =>
    obtain rfl := hbf rfl
    go_wp2_with (first
      | (go_at_call 36; have hq := ins_J hJ.out id now hw HU.out.1 (Nat.zero_le _) 9 HI.out.1 [] HI.out.2; refine hq.mono ?_; clear hq; rintro e x4 ⟨rfl, hJ4, hf4⟩)
      | (go_at_call 37; refine (Wh.len_J hJ4.out).mono ?_; rintro e x5 ⟨rfl, b5⟩)
      | (go_at_call 30; refine (wakes6 _ ((hJ4.out.step b5).tb.tab)).mono ?_; rintro e x6 ⟨rfl, b6⟩))
    go_ret
    exact ⟨rfl, FIN.out (w := x6) hf4 b5 b6⟩
set_option maxHeartbeats 8000000 in
set_option maxRecDepth 100000 in
/-- A timer. -/
theorem last (W : World) (hT : TabOk W) (now far id : Int) (hw : (Lit.int .i64 id).wf = true) (hn : U now) (hf : U far) (h : now + far < 18446744073709551616) (h0 : far ≠ 0) :
    Calls Tryd.prog 7 #[.int .u64 now, .int .u64 far, .int .i64 id] W fun e w' => e = .returned (.bool true) ∧ Below W.heap.size W w' := by
  have hs := rsum hn hf
  rw [if_pos h] at hs
  have HT := Aside0.mk hT
  have hfar : 0 < far := by have := hf.1; omega
  obtain ⟨x, hx⟩ : ∃ x, now + far = x := ⟨_, rfl⟩
  have hxn : now < x := by omega
  have hux : U x := ⟨by have := hn.1; omega, by omega⟩
  have hu1 : U (x - 1) := by unfold U at *; omega
  rw [hx] at hs
  have HS := Aside0.mk hs
  have HU := Aside0.mk (And.intro hn hux)
  have HX := Aside0.mk hxn
  have hi1 : insR now [] id x = 0 ∧ insT now [] id x = [⟨id, x⟩] := by
    unfold insR insT
    rw [if_neg (by simp [ids]), if_neg (by omega), if_neg (by simp [ids]), if_neg (by omega)]
    exact ⟨rfl, rfl⟩
  have hi2 : insR now [⟨id, x⟩] id x = 8 ∧ insT now [⟨id, x⟩] id x = [⟨id, x⟩] := by simp [insR, insT, ids]
  have hps : psort [(⟨id, x⟩ : S31)] = [⟨id, x⟩] := psort_of (List.pairwise_singleton _ _) (List.Perm.refl _)
  have HI := Aside0.mk (And.intro hi1 (And.intro hi2 hps))
  have hwr : IntKind.u64.wrap (x - 1) = x - 1 := by
    rw [IntKind.wrap_u64]
    unfold U at hux hu1
    omega
  have HU1 := Aside0.mk hu1
  have hfar2 : (far == 0) = false := beq_eq_false_iff_ne.mpr h0
  clear hs hT h hi1 hi2 hps hn hf hux hu1 hx h0 hfar
  go_enter Tryd.func7, Tryd.ntmps7
  go_upto_region 2 with (go_at_call 33; refine (remontoirref01_Sum.calls now far _ _ _ HS.out).mono ?_; rintro e x1 ⟨rfl, b1⟩; have g1 := blk_new x1 (.cells #[.int .u64 x, .bool true] 64); have d1 := below_alloc (Below.refl x1.heap.size x1) (.cells #[.int .u64 x, .bool true] 64))
  have hb := Aside0.mk (below_step b1 d1)
  have G1 := Aside0.mk g1
  clear b1 d1 g1
  generalize x1.heap.size = n1 at G1 ⊢
  generalize x1.alloc (.cells #[.int .u64 x, .bool true] 64) = x2 at hb G1 ⊢
  go_upto_region 5 with (go_at_call 35; refine (new_J _ (HT.out.below hb.out) HU.out.1).mono ?_; rintro e x3 ⟨B, rfl, hJ, b3⟩)
  have hN := Aside0.mk hb.out.size
  have kx : Aside0 (∀ {X : Nat → Prop} {w : World}, Fr (KX x2.heap.size X) x3 w → w.cell? ⟨n1, 0, none⟩ = some (.int .u64 x)) := ⟨fun hf => hf.cell ((blk_cell (blk_below G1.out b3) 0).trans rfl) (fun e => Nat.lt_irrefl _ (Nat.lt_of_lt_of_le (blk_lt G1.out) e.1))⟩
  have z0 : x3.cell? ⟨n1, 0, none⟩ = some (.int .u64 x) := (blk_cell (blk_below G1.out b3) 0).trans rfl
  have z1 : x3.cell? ⟨n1, 1, none⟩ = some (.bool true) := (blk_cell (blk_below G1.out b3) 1).trans rfl
  have hb3 := Aside0.mk (below_step hb.out b3)
  clear b3
  go_upto_region 9 with (first
    | (go_at_call 36; have hq := ins_J hJ.out id x hw HU.out.2 (Nat.zero_le _) 0 HI.out.1.1 [⟨id, x⟩] HI.out.1.2; refine hq.mono ?_; clear hq hJ; rintro e x4 ⟨rfl, hJ4, hf4⟩; have q0 := kx.out hf4)
    | (go_at_call 36; have hq := ins_J hJ4.out id x hw HU.out.2 (by simp) 8 HI.out.2.1.1 [⟨id, x⟩] HI.out.2.1.2; refine hq.mono ?_; clear hq hJ4; rintro e x5 ⟨rfl, hJ5, hf5⟩))
  have hF5 := Aside0.mk (hf4.trans hf5)
  clear z0 z1 hf4 hf5 q0
  have hfst := Aside0.mk (Wh.first_J hJ5.out (by simp) (some ⟨id, x⟩) (by rw [HI.out.2.2]; rfl))
  go_upto_region 10 with (go_at_call 38; refine hfst.out.mono ?_; rintro e x6 ⟨rfl, b6⟩; have g6 := blk_new x6 (.cells #[.int .i64 id, .int .u64 x] 31); have d6 := below_alloc (Below.refl x6.heap.size x6) (.cells #[.int .i64 id, .int .u64 x] 31))
  have hJ7 := Aside0.mk (hJ5.out.more (Y := fun k => k = x6.heap.size) (below_step b6 d6) (fun k hk => by
    have e2 : k = x6.heap.size := hk
    subst e2
    exact ⟨b6.size, blk_lt g6⟩))
  have hF7 := Aside0.mk (hF5.out.trans (Fr.of_below (below_step b6 d6)))
  have G6 := Aside0.mk g6
  clear b6 d6 g6 hfst
  generalize x6.alloc (.cells #[.int .i64 id, .int .u64 x] 31) = x7 at hJ7 hF7 G6 ⊢
  generalize x6.heap.size = n6 at hJ7 G6 ⊢
  have q0 := kx.out hF7.out
  have hpop : Aside0 (Calls Tryd.prog 39 #[ptr B, .int .u64 (x - 1)] x7 fun e w' => e = .returned (.tuple #[.agg #[.int .i64 0, .int .u64 0], .bool false]) ∧ Aside0 (WJ x2.heap.size (fun k => False ∨ k = n6) w' B (x - 1) [⟨id, x⟩]) ∧ Fr (KX x2.heap.size (fun k => False ∨ k = n6)) x7 w') := ⟨(pop_J hJ7.out HU1.out (by simp)).mono (by
    rintro e w' ⟨y, more, cur, L', rfl, hp, hJ8, hf8⟩
    cases hp.out with
    | yes y L h1 h2 =>
      rw [HI.out.2.2] at h1
      injection h1 with h1 _
      have : x ≤ x - 1 := by rw [← h1] at h2; exact h2
      omega
    | no h1 =>
      have e1 : (if now < x - 1 then x - 1 else now) = x - 1 := by split <;> omega
      rw [e1] at hJ8
      exact ⟨rfl, hJ8, hf8⟩)⟩
  go_upto_region 11 with (go_at_call 39; refine hpop.out.mono ?_; rintro e x8 ⟨rfl, hJ8, hf8⟩; have d8 := below_alloc (Below.refl x8.heap.size x8) (.cells #[.int .i64 0, .int .u64 0] 31))
  clear hpop q0
  have hG8 := Aside0.mk (blk_alloc ((hf8.blk n6 (blk_lt G6.out) (fun e => e.2 (.inr rfl))).trans G6.out) (.cells #[.int .i64 0, .int .u64 0] 31))
  have hF9 := Aside0.mk ((hF7.out.trans (hf8.weak (fun k hk => ⟨hk.1, fun h => h⟩))).trans (Fr.of_below d8))
  have hJ9 := Aside0.mk (hJ8.out.step d8)
  clear hf8 d8 hJ8
  generalize x8.alloc (.cells #[.int .i64 0, .int .u64 0] 31) = x9 at hG8 hF9 hJ9 ⊢
  have q0 := kx.out hF9.out
  have q1 : x9.cell? ⟨n6, 0, none⟩ = some (.int .i64 id) := (blk_cell hG8.out 0).trans rfl
  have q2 : x9.cell? ⟨n6, 1, none⟩ = some (.int .u64 x) := (blk_cell hG8.out 1).trans rfl
  have kp : Aside0 (∀ w', Below x9.heap.size x9 w' → w'.cell? ⟨n1, 0, none⟩ = some (.int .u64 x) ∧ w'.cell? ⟨n6, 0, none⟩ = some (.int .i64 id) ∧ w'.cell? ⟨n6, 1, none⟩ = some (.int .u64 x)) := ⟨fun w' hb => ⟨kx.out (hF9.out.trans (Fr.of_below hb)), (blk_cell (blk_below hG8.out hb) 0).trans rfl, (blk_cell (blk_below hG8.out hb) 1).trans rfl⟩⟩
  go_region_held3 (fun w' => w'.cell? ⟨n1, 0, none⟩ = some (.int .u64 x) ∧ w'.cell? ⟨n6, 0, none⟩ = some (.int .i64 id) ∧ w'.cell? ⟨n6, 1, none⟩ = some (.int .u64 x)) (first | exact kp.out _ (below_drew1 (Below.refl _ _)) | exact kp.out _ (below_step (below_drew1 (Below.refl _ _)) b10) | exact kp.out _ (below_step (below_step (below_drew1 (Below.refl _ _)) b10) b11)) (first
    | (go_at_call 34; refine (now_J (hJ9.out.step (below_drew1 (Below.refl _ _)))).mono ?_; rintro e x10 ⟨rfl, b10⟩)
    | (go_at_call 37; refine (Wh.len_J (hJ9.out.step (below_step (below_drew1 (Below.refl _ _)) b10))).mono ?_; rintro e x11 ⟨rfl, b11⟩))
  have hb11 := Aside0.mk (below_step (below_step (below_drew1 (Below.refl x9.heap.size x9)) b10) b11)
  have hJ11 := Aside0.mk (hJ9.out.step hb11.out)
  have hF11 := Aside0.mk (hF9.out.trans (Fr.of_below hb11.out))
  have hG11 := Aside0.mk (blk_below hG8.out hb11.out)
  clear kp q0 q1 q2 b10 b11
  have hdr : dueT [(⟨id, x⟩ : S31)] x = [⟨id, x⟩] ∧ restT [(⟨id, x⟩ : S31)] x = [] := due_split (by rw [HI.out.2.2]; rfl) (fun e he => by rw [List.mem_singleton.1 he]; exact Int.le_refl _) (fun e he => absurd he List.not_mem_nil)
  have HDR := Aside0.mk hdr
  clear hdr
  have hadv := Aside0.mk (adv_J hJ11.out (by simp) (n := 1) (t := x) (by unfold U; omega) (by omega) HU.out.2)
  go_upto_region 14 with (go_at_call 32; refine hadv.out.mono ?_; rintro e x12 ⟨v, rfl, hg⟩)
  obtain ⟨hR, hJ12, hf12⟩ := hg.out
  rw [HDR.out.1] at hR
  rw [HDR.out.2] at hJ12
  have hJ12 := Aside0.mk hJ12
  have hF12 := Aside0.mk (hF11.out.trans (hf12.weak (fun k hk => ⟨hk.1, fun h => h⟩)))
  have hG12 := Aside0.mk ((hf12.blk n6 (blk_lt hG11.out) (fun e => e.2 (.inr rfl))).trans hG11.out)
  have hR := Aside0.mk hR
  clear hg hf12 hadv
  go_upto_region 15 with (go_at_call 31; have hq := can_J hJ12.out id hw (Nat.zero_le _) none rfl; refine hq.mono ?_; clear hq; rintro e x13 ⟨rfl, hJ13, hf13⟩)
  have hR13 := R_fw (Kd.R_mono hR.out (fun k hk => (.inr hk : (False ∨ k = n6) ∨ v.ownBlock = some k))) hf13
  have hG13 := Aside0.mk ((hf13.blk n6 (blk_lt hG12.out) (fun e => e.2 (.inl (.inr rfl)))).trans hG12.out)
  have hF13 := Aside0.mk (hF12.out.trans (hf13.weak (fun k hk => ⟨hk.1, fun h => h⟩)))
  obtain ⟨A, c, rfl, hc, hC⟩ := Kd.R_reads hR13
  have HC := Aside0.mk hC
  obtain ⟨ad, e1, q3, q4⟩ := at_T31 hC 0 (by omega) (by simp)
  subst e1
  replace q3 : x13.cell? ad = some (.int .i64 id) := q3
  replace q4 : x13.cell? ⟨ad.block, ad.off + 1, none⟩ = some (.int .u64 x) := q4
  have q0 := kx.out hF13.out
  have q1 : x13.cell? ⟨n6, 0, none⟩ = some (.int .i64 id) := (blk_cell hG13.out 0).trans rfl
  have q2 : x13.cell? ⟨n6, 1, none⟩ = some (.int .u64 x) := (blk_cell hG13.out 1).trans rfl
  have kp : Aside0 (∀ w', Below x13.heap.size x13 w' → w'.cell? ⟨n1, 0, none⟩ = some (.int .u64 x) ∧ w'.cell? ⟨n6, 0, none⟩ = some (.int .i64 id) ∧ w'.cell? ⟨n6, 1, none⟩ = some (.int .u64 x) ∧ w'.cell? ad = some (.int .i64 id) ∧ w'.cell? ⟨ad.block, ad.off + 1, none⟩ = some (.int .u64 x)) := ⟨fun w' hb => ⟨kx.out (hF13.out.trans (Fr.of_below hb)), (blk_cell (blk_below hG13.out hb) 0).trans rfl, (blk_cell (blk_below hG13.out hb) 1).trans rfl, (hb.cell (World.block_lt_of_cell? x13 _ q3)).trans q3, (hb.cell (World.block_lt_of_cell? x13 _ q4)).trans q4⟩⟩
  clear hc hC hR13 hR hf13
  have hl1 : ((List.length [(⟨id, x⟩ : S31)] : Nat) : Int) = 1 := rfl
  go_region_held3 (fun w' => w'.cell? ⟨n1, 0, none⟩ = some (.int .u64 x) ∧ w'.cell? ⟨n6, 0, none⟩ = some (.int .i64 id) ∧ w'.cell? ⟨n6, 1, none⟩ = some (.int .u64 x) ∧ w'.cell? ad = some (.int .i64 id) ∧ w'.cell? ⟨ad.block, ad.off + 1, none⟩ = some (.int .u64 x)) (first | exact kp.out _ (below_drew1 (Below.refl _ _)) | exact kp.out _ hBc) (first
    | (go_at_call 37; refine (Wh.len_J (hJ13.out.step (below_drew1 (Below.refl _ _)))).mono ?_; rintro e x14 ⟨rfl, b14⟩; have hBc := below_step (below_drew1 (Below.refl x13.heap.size x13)) b14)
    | (go_at_call 34; refine (now_J (hJ13.out.step hBc)).mono ?_; rintro e x15 ⟨rfl, b15⟩; have hBc := below_step hBc b15)
    | (go_at_call 30; refine (wakes6 _ ((hJ13.out.step hBc).tb.tab)).mono ?_; rintro e x16 ⟨rfl, b16⟩; have hBc := below_step hBc b16))
  go_wp2
  go_ret
  exact ⟨rfl, ((Fr.of_b0 hb3.out).trans (hF13.out.weak (fun k hk => Nat.le_trans hN.out hk.1))).trans (Fr.of_below hBc) |>.below (Nat.le_refl _) (fun k h => h)⟩
theorem calls (W : World) (hT : TabOk W) (a0 : Int) (w0 : (Lit.int .u64 a0).wf = true) (a1 : Int) (w1 : (Lit.int .u64 a1).wf = true) (a2 : Int) (w2 : (Lit.int .i64 a2).wf = true) :
    Calls Tryd.prog 7 #[.int .u64 a0, .int .u64 a1, .int .i64 a2] W fun e w' => e = .returned (.bool true) ∧ Below W.heap.size W w' := by
  by_cases h : a0 + a1 < 18446744073709551616
  · by_cases h0 : a1 = 0
    · exact past W hT a0 a1 a2 w2 (U_of w0) (U_of w1) (.inr h0)
    · exact last W hT a0 a1 a2 w2 (U_of w0) (U_of w1) h h0
  · exact past W hT a0 a1 a2 w2 (U_of w0) (U_of w1) (.inl h)
end Go.Proofs.YtedolmjealgeoaaDoor.CallWheelLast
