/- QueuePlays as calls: true. Conditions: none. -/
import Derived.Test.YtgffcbhkkjigfaaPj
import Derived.Test.YtgffcbhkkjigfaaWk
import Derived.Test.YtgffcbhkkjigfaaRm
import Derived.Deep.DeepCutAuto
import Derived.Deep.CutBlock
namespace Go.Proofs.Ytgffcbhkkjigfaa.Ln
open Go.RowKit Go.Proofs.Ytgffcbhkkjigfaa.PBase Go.Proofs.Ytgffcbhkkjigfaa.Cat Go.Proofs.Ytgffcbhkkjigfaa.Heap Go.Proofs.YtgffcbhkkjigfaaW.PrintWords Go.Proofs.YtgffcbhkkjigfaaW.PrintLast Go.Proofs.YtgffcbhkkjigfaaW.PrintMore
set_option linter.unusedVariables false
attribute [local go_sem high] eqA32
theorem may_calls (a r : Int) (b : Bool) (W : World) (h : decide ((1 ≤ a ∧ a ≤ 1000) ∧ 0 ≤ r ∧ r ≤ 1000) = b) : Calls Try.prog 19 #[.int .i64 a, .int .i64 r] W fun e w' => e = .returned (.bool b) ∧ Below W.heap.size W w' := by
  have hf : remontoirref09_May.f a r = some b := by
    subst h
    unfold remontoirref09_May.f
    by_cases h1 : a ≥ 1
    · rw [if_pos h1]
      by_cases h2 : a ≤ 1000
      · rw [if_pos h2]
        by_cases h3 : r ≥ 0
        · rw [if_pos h3]
          congr 1
          exact decide_eq_decide.2 ⟨fun k => ⟨⟨h1, h2⟩, h3, k⟩, fun k => k.2.2⟩
        · rw [if_neg h3]
          congr 1
          exact (decide_eq_false (fun k => h3 k.2.1)).symm
      · rw [if_neg h2]
        congr 1
        exact (decide_eq_false (fun k => h2 k.1.2)).symm
    · rw [if_neg h1]
      congr 1
      exact (decide_eq_false (fun k => h1 k.1.1)).symm
  refine (remontoirref09_May.calls a r b W hf).mono ?_
  rintro e w' ⟨rfl, h⟩
  exact ⟨rfl, h.below⟩
set_option maxHeartbeats 4000000 in
set_option maxRecDepth 100000 in
theorem plays_bad (W : World) (a r : Int) (A : Option Addr) (c : Nat) (l : List S32) (h : ¬ ((1 ≤ a ∧ a ≤ 1000) ∧ 0 ≤ r ∧ r ≤ 1000)) :
    Calls Try.prog 5 #[.int .i64 a, .int .i64 r, .slice A l.length c] W fun e w' => e = .returned (.bool true) ∧ Below W.heap.size W w' := by
  have HH := Aside0.mk h
  clear h
  go_enter Try.func5, Try.ntmps5
  go_wp2_with (first
    | (go_at_call 8; refine (new_bad a r _ HH.out).mono ?_; rintro e w1 ⟨rfl, h1⟩)
    | (go_at_call 19; refine (may_calls a r false _ (decide_eq_false HH.out)).mono ?_; rintro e w2 ⟨rfl, h2⟩)
    | (go_at_call 14; refine (wakes_calls _).mono ?_; rintro e w3 ⟨rfl, h3⟩))
  go_ret
  exact ⟨rfl, below_step (below_step h1 h2) h3⟩
theorem both_start {N : Nat} {W w : World} {B : Nat} {ag rm : Int} (hb : Below W.heap.size W w) (hN : N ≤ w.heap.size) (h : QI N (fun _ => False) w B ag rm 0 []) :
    RS N (w.alloc (.cells #[.int .i64 ag, .int .i64 rm, .int .i64 0, .slice none 0 0] 50)) w.heap.size (.slice none 0 0) ag rm 0 [] ∧ QI N (X2 w.heap.size (.slice none 0 0)) (w.alloc (.cells #[.int .i64 ag, .int .i64 rm, .int .i64 0, .slice none 0 0] 50)) B ag rm 0 [] := by
  have hb1 := below_alloc (Below.refl w.heap.size w) (.cells #[.int .i64 ag, .int .i64 rm, .int .i64 0, .slice none 0 0] 50)
  have hs : (w.alloc (.cells #[.int .i64 ag, .int .i64 rm, .int .i64 0, .slice none 0 0] 50)).heap.size = w.heap.size + 1 := by simp
  refine ⟨⟨blk_new _ _, Kd.R_nil _ _ _ _ _, hN⟩, (h.more (Y := fun k => k = w.heap.size) hb1 (fun k hk => ?_)).swap (Fr.refl _ _) (fun k hk => ?_)⟩
  · subst hk; exact ⟨Nat.le_refl _, by omega⟩
  · rcases hk with hk | hk
    · exact ⟨.inl (.inr hk), by omega⟩
    · cases hk
set_option maxHeartbeats 4000000 in
set_option maxRecDepth 100000 in
theorem plays_good (W : World) (ag rm : Int) (A : Option Addr) (c : Nat) (l : List S32) (h : (1 ≤ ag ∧ ag ≤ 1000) ∧ 0 ≤ rm ∧ rm ≤ 1000) (hr : Kd.C k32 W A l.length l) :
    Calls Try.prog 5 #[.int .i64 ag, .int .i64 rm, .slice A l.length c] W fun e w' => e = .returned (.bool true) ∧ Below W.heap.size W w' := by
  have HH := Aside0.mk h
  have HR := Aside0.mk hr
  clear h hr
  go_enter Try.func5, Try.ntmps5
  go_upto_block 0 with (first
    | (go_at_call 8; refine (new_I ag rm W.heap.size _ (Nat.le_refl _) HH.out).mono ?_; rintro e w1 ⟨B, rfl, hb1, h1⟩)
    | (go_at_call 19; refine (may_calls ag rm true _ (decide_eq_true HH.out)).mono ?_; rintro e w2 ⟨rfl, hb2⟩))
  have hS := both_start (below_step hb1 hb2) (Nat.le_trans hb1.size hb2.size) (h1.step hb2)
  have hF0 : Aside0 (Fr (fun k => W.heap.size ≤ k) W (w2.alloc (.cells #[.int .i64 ag, .int .i64 rm, .int .i64 0, .slice none 0 0] 50))) := ⟨Fr.of_b0 (below_alloc (below_step hb1 hb2) _)⟩
  generalize w2.alloc (.cells #[.int .i64 ag, .int .i64 rm, .int .i64 0, .slice none 0 0] 50) = w3 at hS hF0 ⊢
  generalize w2.heap.size = R at hS ⊢
  obtain ⟨hRS0, hQ0⟩ := hS
  have hRS0 := Aside0.mk hRS0
  clear h1 hb1 hb2
  go_cut [9] (fun v9 wc => ∃ (L LR : List S32) (v : Value) (ct : Int), L.length ≤ 60 ∧ Aside0 (St ag L) ∧ Aside0 (LR.Perm L) ∧ Aside0 (RS W.heap.size wc R v ag rm ct LR) ∧ QI W.heap.size (X2 R v) wc B ag rm ct L ∧ Aside0 (Fr (fun k => W.heap.size ≤ k) W wc))
  case first =>
    as_aux_lemma =>
    go_wp2_with (fail)
    go_loopg [9] 60 (fun gg v9 wr => ∃ (i : Nat) (L LR : List S32) (v : Value) (ct : Int), v9 = .int .i64 i ∧ i ≤ 60 ∧ i ≤ l.length ∧ 60 - i ≤ gg ∧ L.length ≤ i ∧ 0 ≤ ct ∧ ct ≤ (i : Int) ∧ Aside0 (St ag L) ∧ Aside0 (LR.Perm L) ∧ Aside0 (RS W.heap.size wr R v ag rm ct LR) ∧ QI W.heap.size (X2 R v) wr B ag rm ct L ∧ Aside0 (Fr (fun k => W.heap.size ≤ k) W wr))
    case atStart => exact ⟨0, [], [], _, 0, rfl, by omega, by omega, by omega, by simp, by omega, by omega, ⟨St.nil ag⟩, ⟨List.Perm.refl _⟩, hRS0, hQ0, hF0⟩
    case round =>
      obtain ⟨i, L, LR, v, ct, rfl, hi1, hi2, hgg, hLi, hc1, hc2, hSt, hP, hRS, hQ, hF⟩ := hrel
      clear hRS0 hQ0 hF0
      by_cases hi : i < l.length ∧ i < 60
      · have hj1 : (i : Int) < (l.length : Int) := by omega
        have hj2 : (i : Int) < 60 := by omega
        obtain ⟨ad, e1, hx0, hx1, hx2⟩ := at_T32 HR.out (i : Int) (by omega) hj1
        subst e1
        rw [Int.toNat_natCast] at hx0 hx1 hx2
        replace hx0 := hF.out.rd hx0
        replace hx1 := hF.out.rd hx1
        replace hx2 := hF.out.rd hx2
        obtain ⟨kd, hkd⟩ : ∃ kd, md6 (rd_T32 l i).f0 = kd := ⟨_, rfl⟩
        have hk6 := md6_in (rd_T32 l i).f0
        rw [hkd] at hk6
        have hkd := Aside0.mk hkd
        obtain ⟨x, hx⟩ : ∃ x, rd_T32 l (i : Int) = x := ⟨_, rfl⟩
        rw [hx] at hx0 hx1 hx2 hkd
        clear hx
        go_upto_block 2 with (first
          | (go_at_call 16; refine (mod6_calls _ kd _ hkd.out).mono ?_; rintro e w5 ⟨rfl, hb5⟩))
        have hb6 := Aside0.mk (below_step (below_alloc (Below.refl wr.heap.size wr) (.cells #[.int .i64 x.f0, .int .i64 x.f1, .int .i64 x.f2] 42)) hb5)
        have hbox := Aside0.mk (blk_below (blk_new wr (.cells #[.int .i64 x.f0, .int .i64 x.f1, .int .i64 x.f2] 42)) hb5)
        have hRS5 := Aside0.mk (hRS.out.step hb6.out)
        have hQ5 := Aside0.mk (hQ.step hb6.out)
        have hF5 := Aside0.mk (hF.out.trans (Fr.of_b0 hb6.out))
        have hQb := Aside0.mk (hQ.more (Y := fun k => k = wr.heap.size) hb6.out (fun k hk => by subst hk; exact ⟨Nat.le_refl _, blk_lt hbox.out⟩))
        clear hRS hQ hF hb5 hx0 hx1 hx2
        generalize wr.heap.size = g5 at hbox hQb ⊢
        have hPA : QI W.heap.size (X3 R v g5) w5 B ag rm ct L → PlayAt W.heap.size W B R ag rm i g5 x w5 L LR v ct := fun hq => ⟨hLi, hc1, hc2, hSt.out, hP.out, hRS5.out, hq, hF5.out, hbox.out⟩
        go_cut [] (fun wx => Aside0 (PlayTo W.heap.size W B R ag rm i wx))
        case first =>
          as_aux_lemma =>
          have hA := Aside0.mk (hPA hQb.out)
          clear hQ5 hRS5 hF5 hQb hSt hP hPA
          have hk0 := hk6.1
          have hk1 := hk6.2
          clear hk6 hkd hb6
          have hbD := Aside0.mk (below_drew1 (Below.refl w5.heap.size w5))
          have hLi2 : L.length ≤ 90000 := by omega
          have hLi3 : L.length ≤ 1000 := by omega
          by_cases c3 : kd < 3
          · have kp : Aside0 (∀ w', Fr (fun k => k ≠ g5) w5 w' → w'.cell? ⟨g5, 1, none⟩ = some (.int .i64 x.f1) ∧ w'.cell? ⟨g5, 2, none⟩ = some (.int .i64 x.f2)) := ⟨hA.out.cells⟩
            obtain ⟨n, hn⟩ : ∃ n, putE L rm x.f1 x.f2 = n := ⟨_, rfl⟩
            have hn := Aside0.mk hn
            clear hbox
            rcases (show kd = 0 ∨ kd = 1 ∨ kd = 2 by omega) with rfl | rfl | rfl <;>
            (go_wp2
             go_region_held3 (fun w' => w'.cell? ⟨g5, 1, none⟩ = some (.int .i64 x.f1) ∧ w'.cell? ⟨g5, 2, none⟩ = some (.int .i64 x.f2)) (first | exact kp.out _ (Fr.of_below hbD.out) | exact kp.out _ ((Fr.of_below hbD.out).trans (f6.weak (fun _ => KX.ne))) | exact kp.out _ (((Fr.of_below hbD.out).trans (f6.weak (fun _ => KX.ne))).trans (f7.weak (fun _ e => e ▸ hA.out.ne.symm)))) ((first | (go_at_call 12; have hT := put_I (hA.out.qi.step hbD.out) x.f1 x.f2 hLi2 n _ hn.out rfl; refine hT.mono ?_; clear hT; rintro e w6 ⟨rfl, hq6, f6⟩) | (go_at_call 20; have hT := rput_some ((hA.out.rs.step hbD.out).q (f6.weak (fun _ => KX.two))) hA.out.pm hA.out.st hLi3 x.f1 x.f2; rw [hn.out] at hT; refine hT.mono ?_; clear hT; rintro e w7 ⟨rfl, hz⟩; have f7 : Fr (fun b => b = R) w6 w7 := by { obtain ⟨_, _, _, hg⟩ := hz.out; exact hg.fr })))
             go_wp2_with (fail)
             go_meet
             obtain ⟨LR7, hp7, hs7, hg7⟩ := hz.out
             exact ⟨hA.out.to (hq6.sub (fun _ => .inl)) ((Fr.of_b0 hbD.out).trans f6.b0) hg7 (Nat.le_trans (put_len2 hA.out.st _ _) (by omega)) hc1 (by omega) hs7 hp7⟩)
          · by_cases c5 : kd = 5
            · subst c5
              have kp : Aside0 (∀ w', Fr (fun k => k ≠ g5) w5 w' → w'.cell? ⟨g5, 1, none⟩ = some (.int .i64 x.f1)) := ⟨fun w' hf => (hA.out.cells w' hf).1⟩
              obtain ⟨n, hn⟩ : ∃ n, decide (0 ≤ place L x.f1) = n := ⟨_, rfl⟩
              have hn := Aside0.mk hn
              clear hbox
              go_wp2
              go_region_held3 (fun w' => w'.cell? ⟨g5, 1, none⟩ = some (.int .i64 x.f1)) (first | exact kp.out _ (Fr.of_below hbD.out) | exact kp.out _ ((Fr.of_below hbD.out).trans (f6.weak (fun _ => KX.ne))) | exact kp.out _ (((Fr.of_below hbD.out).trans (f6.weak (fun _ => KX.ne))).trans (f7.weak (fun _ e => e ▸ hA.out.ne.symm)))) ((first | (go_at_call 22; have hT := drop_I (hA.out.qi.step hbD.out) x.f1 hLi2 n _ hn.out rfl; refine hT.mono ?_; clear hT; rintro e w6 ⟨rfl, hq6, f6⟩) | (go_at_call 23; have hT := rdrop_some ((hA.out.rs.step hbD.out).q (f6.weak (fun _ => KX.two))) hA.out.pm hA.out.st hLi3 x.f1; rw [hn.out] at hT; refine hT.mono ?_; clear hT; rintro e w7 ⟨rfl, hz⟩; have f7 : Fr (fun b => b = R) w6 w7 := by { obtain ⟨_, _, _, hg⟩ := hz.out; exact hg.fr })))
              go_wp2_with (fail)
              go_meet
              obtain ⟨LR7, hp7, hs7, hg7⟩ := hz.out
              exact ⟨hA.out.to (hq6.sub (fun _ => .inl)) ((Fr.of_b0 hbD.out).trans f6.b0) hg7 (Nat.le_trans (drop_len2 hA.out.st _) (by omega)) hc1 (by omega) hs7 hp7⟩
            · clear hbD
              rcases Nat.eq_zero_or_pos L.length with e0 | e0
              · obtain rfl := List.eq_nil_of_length_eq_zero e0
                clear hbox
                rcases (show kd = 3 ∨ kd = 4 by omega) with rfl | rfl <;>
                (go_upto_region 23 with (first
                   | (go_at_call 10; have hT := empty_I hA.out.qi; refine hT.mono ?_; clear hT; rintro e w6 ⟨rfl, hq6, f6⟩; have hbA := Aside0.mk (below_alloc (Below.refl w6.heap.size w6) (.cells #[.int .i64 0, .int .i64 0, .int .i64 0] 32)))
                   | (go_at_call 21; have hRS6 := (hA.out.rs.q (f6.weak (fun _ => KX.two))).step hbA.out; have hT := rtake_nil (by have := hA.out.pm; rw [List.perm_nil] at this; rw [this] at hRS6; exact hRS6); refine hT.mono ?_; clear hT; rintro e w7 ⟨rfl, hz⟩))
                 have hbx := Aside0.mk ((hz.out.fr.blk w6.heap.size (blk_lt (blk_new w6 _)) (fun e => by have := blk_lt (hA.out.rs.q (f6.weak (fun _ => KX.two))).g; omega)).trans (blk_new w6 (.cells #[.int .i64 0, .int .i64 0, .int .i64 0] 32)))
                 have hby := Aside0.mk (blk_new w7 (.cells #[.int .i64 0, .int .i64 0, .int .i64 0] 32))
                 have hbz := Aside0.mk (below_alloc (Below.refl w7.heap.size w7) (.cells #[.int .i64 0, .int .i64 0, .int .i64 0] 32))
                 have hbx := Aside0.mk (blk_below hbx.out hbz.out)
                 generalize hw8 : w7.alloc (.cells #[.int .i64 0, .int .i64 0, .int .i64 0] 32) = w8 at hby hbz hbx ⊢
                 clear hw8
                 have hTo : Aside0 (PlayTo W.heap.size W B R ag rm i w8) := ⟨(hA.out.to ((hq6.sub (fun _ => .inl)).step hbA.out) ((f6.weak (fun _ e => e.1)).trans (Fr.of_b0 hbA.out)) hz.out (Nat.zero_le _) hc1 (by omega) hA.out.st (List.Perm.refl _)).step hbz.out⟩
                 clear hz
                 generalize w6.heap.size = g6 at hbx ⊢
                 generalize w7.heap.size = g7 at hby ⊢
                 have x0 := (blk_cell hbx.out 0).trans rfl
                 have x1 := (blk_cell hbx.out 1).trans rfl
                 have x2 := (blk_cell hbx.out 2).trans rfl
                 have y0 := (blk_cell hby.out 0).trans rfl
                 have y1 := (blk_cell hby.out 1).trans rfl
                 have y2 := (blk_cell hby.out 2).trans rfl
                 go_wp2_with (fail)
                 go_meet
                 exact hTo)
              · obtain ⟨y, hy⟩ : ∃ y, Heap.g z32 L 0 = y := ⟨_, rfl⟩
                have hy := Aside0.mk hy
                have hct := Aside0.mk (wrap_up hc1 (by omega))
                clear hbox
                rcases (show kd = 3 ∨ kd = 4 by omega) with rfl | rfl <;>
                (go_upto_region 23 with (first
                   | (go_at_call 10; have hT := take_I hA.out.qi e0 hLi2 (ct + 1) hct.out y hy.out _ rfl; refine hT.mono ?_; clear hT; rintro e w6 ⟨rfl, hq6, f6⟩; have hbA := Aside0.mk (below_alloc (Below.refl w6.heap.size w6) (.cells #[.int .i64 y.f0, .int .i64 y.f1, .int .i64 y.f2] 32)))
                   | (go_at_call 21; have hT := rtake_some ((hA.out.rs.q (f6.weak (fun _ => KX.two))).step hbA.out) hA.out.pm hA.out.st e0 hLi3 (ct + 1) hct.out y hy.out; refine hT.mono ?_; clear hT; rintro e w7 ⟨rfl, hz⟩; have f7 : Fr (fun b => b = R) _ w7 := by { obtain ⟨_, _, _, hg⟩ := hz.out; exact hg.fr }))
                 have hbx := Aside0.mk ((f7.blk w6.heap.size (blk_lt (blk_new w6 _)) (fun e => by have := blk_lt (hA.out.rs.q (f6.weak (fun _ => KX.two))).g; omega)).trans (blk_new w6 (.cells #[.int .i64 y.f0, .int .i64 y.f1, .int .i64 y.f2] 32)))
                 have hby := Aside0.mk (blk_new w7 (.cells #[.int .i64 y.f0, .int .i64 y.f1, .int .i64 y.f2] 32))
                 have hbz := Aside0.mk (below_alloc (Below.refl w7.heap.size w7) (.cells #[.int .i64 y.f0, .int .i64 y.f1, .int .i64 y.f2] 32))
                 have hbx := Aside0.mk (blk_below hbx.out hbz.out)
                 generalize hw8 : w7.alloc (.cells #[.int .i64 y.f0, .int .i64 y.f1, .int .i64 y.f2] 32) = w8 at hby hbz hbx ⊢
                 clear hw8 f7
                 have hTo : Aside0 (PlayTo W.heap.size W B R ag rm i w8) := ⟨by
                   obtain ⟨LR7, hp7, hs7, hg7⟩ := hz.out
                   exact (hA.out.to ((hq6.sub (fun _ => .inl)).step hbA.out) ((f6.weak (fun _ e => e.1)).trans (Fr.of_b0 hbA.out)) hg7 (by have := take_len hA.out.st e0; omega) (by omega) (by omega) hs7 hp7).step hbz.out⟩
                 clear hz
                 generalize w6.heap.size = g6 at hbx ⊢
                 generalize w7.heap.size = g7 at hby ⊢
                 have x0 := (blk_cell hbx.out 0).trans rfl
                 have x1 := (blk_cell hbx.out 1).trans rfl
                 have x2 := (blk_cell hbx.out 2).trans rfl
                 have y0 := (blk_cell hby.out 0).trans rfl
                 have y1 := (blk_cell hby.out 1).trans rfl
                 have y2 := (blk_cell hby.out 2).trans rfl
                 go_wp2_with (fail)
                 go_meet
                 exact hTo)
        case rest =>
          as_aux_lemma =>
          obtain ⟨L1, LR1, v1, ct1, g1, g2, g3, g4, g5, g6, g7, g8⟩ := hcut.out
          have hll : LR1.length = L1.length := g5.length_eq
          clear hcut hRS5 hQ5 hF5 hb6 hbox
          obtain ⟨A2, c2, rfl⟩ := Kd.R_slice g6.r
          have c3 : wc.cell? ⟨R, 3, none⟩ = some (.slice A2 LR1.length c2) := (blk_cell g6.g 3).trans rfl
          have c4 : wc.cell? ⟨R, 2, none⟩ = some (.int .i64 ct1) := (blk_cell g6.g 2).trans rfl
          rw [hll] at c3
          have kp : Aside0 (∀ w', Fr (KX W.heap.size (X2 R (.slice A2 LR1.length c2))) wc w' → w'.cell? ⟨R, 3, none⟩ = some (.slice A2 L1.length c2) ∧ w'.cell? ⟨R, 2, none⟩ = some (.int .i64 ct1)) := ⟨fun w' hf => ⟨hf.cell c3 (fun e => e.2 (.inl rfl)), hf.cell c4 (fun e => e.2 (.inl rfl))⟩⟩
          have hbD := Aside0.mk (below_drew1 (Below.refl wc.heap.size wc))
          have g4 := Aside0.mk g4
          have g5 := Aside0.mk g5
          have g6 := Aside0.mk g6
          have g8 := Aside0.mk g8
          have hll := Aside0.mk hll
          go_wp2
          go_region_held3 (fun w' => w'.cell? ⟨R, 3, none⟩ = some (.slice A2 L1.length c2) ∧ w'.cell? ⟨R, 2, none⟩ = some (.int .i64 ct1)) (first | go_keep | exact kp.out _ (Fr.of_b hbD.out) | exact kp.out _ ((Fr.of_b hbD.out).trans f6) | exact kp.out _ (((Fr.of_b hbD.out).trans f6).trans f7)) ((first | (go_at_call 11; refine (len_I (g7.step hbD.out) _ rfl).mono ?_; rintro e w6 ⟨rfl, hq6, f6⟩) | (go_at_call 15; refine (count_I hq6).mono ?_; rintro e w7 ⟨rfl, hq7, f7⟩)))
          have hF7 := Aside0.mk (((g8.out.trans (Fr.of_b0 hbD.out)).trans f6.b0).trans f7.b0)
          have hRS7 := Aside0.mk (((g6.out.step hbD.out).q f6).q f7)
          replace hq7 := Aside0.mk hq7
          clear hq6 f6 f7 kp c3 c4 g7 g6 g8 hbD
          have hj5 : 0 ≤ (i : Int) := by omega
          by_cases hm : Int.tmod (i : Int) 6 = 5
          · go_wp2_with (first
              | (go_at_call 17; refine (list_I hq7.out (by omega)).mono ?_; rintro e w8 ⟨v5, M, rfl, hp5, hs5, hR5, hb5⟩; have hM5 := Aside0.mk (And.intro hp5 hs5); replace hR5 := Aside0.mk hR5; replace hb5 := Aside0.mk hb5; clear hp5 hs5)
              | (go_at_call 25; have hT := rlist_calls (hRS7.out.step hb5.out) M (hM5.out.1.trans g5.out.symm) hM5.out.2 ((ids_perm hM5.out.1).nodup_iff.2 g4.out.nd) (by rw [hll.out]; omega); refine hT.mono ?_; clear hT; rintro e w9 ⟨v6, rfl, h6⟩)
              | (go_at_call 24; have hT := waits_two hM5.out.1 hM5.out.2 hM5.out.1 hM5.out.2 g4.out.nd h6.out.1 (Kd.R_below hR5.out h6.out.2) (by omega); refine hT.mono ?_; clear hT; rintro e w10 ⟨rfl, hb7⟩))
            go_roundg (60 - (i + 1))
            case measure => omega
            case rel => exact ⟨i + 1, L1, LR1, _, ct1, by go_num, by omega, by omega, Nat.le_refl _, g1, g2, by omega, g4, g5, ⟨hRS7.out.step (below_step (below_step hb5.out h6.out.2) hb7)⟩, hq7.out.step (below_step (below_step hb5.out h6.out.2) hb7), ⟨hF7.out.trans (Fr.of_b0 (below_step (below_step hb5.out h6.out.2) hb7))⟩⟩
          · go_wp2_with (fail)
            go_roundg (60 - (i + 1))
            case measure => omega
            case rel => exact ⟨i + 1, L1, LR1, _, ct1, by go_num, by omega, by omega, Nat.le_refl _, g1, g2, by omega, g4, g5, hRS7, hq7.out, hF7⟩
      · by_cases hj1 : (i : Int) < (l.length : Int)
        · have hj2 : ¬ (i : Int) < 60 := by omega
          go_wp2_with (fail)
          go_meet
          exact ⟨L, LR, v, ct, by omega, hSt, hP, hRS, hQ, hF⟩
        · go_wp2_with (fail)
          go_meet
          exact ⟨L, LR, v, ct, by omega, hSt, hP, hRS, hQ, hF⟩
  case rest =>
    as_aux_lemma =>
    obtain ⟨L, LR, v, ct, hLl, hSt, hP, hRS, hQ, hF⟩ := hcut
    go_wp2_with (first
      | (go_at_call 17; refine (list_I hQ (by omega)).mono ?_; rintro e w5 ⟨v5, M, rfl, hp5, hs5, hR5, hb5⟩; have hM5 := Aside0.mk (And.intro hp5 hs5); have hR5 := Aside0.mk hR5; have hb5 := Aside0.mk hb5; clear hp5 hs5)
      | (go_at_call 25; have hT := rlist_calls (hRS.out.step hb5.out) M (hM5.out.1.trans hP.out.symm) hM5.out.2 ((ids_perm hM5.out.1).nodup_iff.2 hSt.out.nd) (by rw [hP.out.length_eq]; omega); refine hT.mono ?_; clear hT; rintro e w6 ⟨v6, rfl, h6⟩)
      | (go_at_call 24; have hT := waits_two hM5.out.1 hM5.out.2 hM5.out.1 hM5.out.2 hSt.out.nd h6.out.1 (Kd.R_below hR5.out h6.out.2) (by omega); refine hT.mono ?_; clear hT; rintro e w7 ⟨rfl, hb7⟩)
      | (go_at_call 14; refine (wakes_calls _).mono ?_; rintro e w8 ⟨rfl, hb8⟩))
    go_ret
    exact ⟨rfl, ((((hF.out.trans (Fr.of_b0 hb5.out)).trans (Fr.of_b0 h6.out.2)).trans (Fr.of_b0 hb7)).trans (Fr.of_b0 hb8)).below (Nat.le_refl _) (fun k h => h)⟩
end Go.Proofs.Ytgffcbhkkjigfaa.Ln
