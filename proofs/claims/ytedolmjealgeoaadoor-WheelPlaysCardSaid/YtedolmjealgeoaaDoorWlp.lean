/- WheelPlays' walk. Conditions: the table's cells; the rows read. -/
import Derived.Test.YtedolmjealgeoaaDoorWx
import Derived.Test.YtedolmjealgeoaaDoorAcw
import Derived.Test.YtedolmjealgeoaaDoorDu
import Derived.Deep.DeepCutAuto
import Derived.Deep.CutBlock
set_option linter.unusedVariables false
namespace Go.Proofs.YtedolmjealgeoaaDoor.Rg
open Go.RowKit Go.Proofs.YtedolmjealgeoaaDoor.PBase Go.Proofs.YtedolmjealgeoaaDoor.Tz
theorem Fr.tab {W w : World} {N : Nat} (h : Fr (fun k => N ≤ k) W w) (hN : 0 < N) (hT : TabOk W) (hb : N = W.heap.size) : TabOk w := fun j hj => h.cell (hT j hj) (by show ¬ N ≤ 0; omega)
theorem tab_pos {W : World} (hT : TabOk W) : 0 < W.heap.size := World.block_lt_of_cell? W _ (hT 0 (by decide))
theorem rd114 (T : List S114) (i : Nat) (h : i < T.length) : rd_T114 T (i : Int) = T[i] := by simp [rd_T114, h]
theorem Fr.rd {N : Nat} {W w : World} (h : Fr (fun k => N ≤ k) W w) {a : Addr} {v : Value} (hc : W.cell? a = some v) (hN : W.heap.size ≤ N) : w.cell? a = some v := h.cell hc (by have := World.block_lt_of_cell? W a hc; show ¬ N ≤ a.block; omega)
end Go.Proofs.YtedolmjealgeoaaDoor.Rg
namespace Go.Proofs.YtedolmjealgeoaaDoor.Wh
open Go.RowKit Go.Maps Go.Proofs.YtedolmjealgeoaaDoor.PBase Go.Proofs.YtedolmjealgeoaaDoor.Cat Go.Proofs.YtedolmjealgeoaaDoor.Rg Go.Proofs.YtedolmjealgeoaaDoor.Tk Go.Proofs.YtedolmjealgeoaaDoorW.PrintWords Go.Proofs.YtedolmjealgeoaaDoorW.PrintLast Go.Proofs.YtedolmjealgeoaaDoorW.PrintMore
attribute [local go_sem high] eqA31 eqA64
theorem plays_start {N : Nat} {W w : World} {B : Nat} {now : Int} (hb : Below W.heap.size W w) (hWN : N = W.heap.size) (h : WJ N (fun _ => False) w B now []) :
    QA N W B w.heap.size 0 (fun _ => False) (w.alloc (.cells #[.slice none 0 0, .int .u64 now] 80)) now [] (.slice none 0 0) := by
  have hb1 := below_alloc (Below.refl w.heap.size w) (.cells #[.slice none 0 0, .int .u64 now] 80)
  have hN := h.base_le
  have hp := h.tb.pos
  have hlt := blk_lt (blk_new w (.cells #[.slice none 0 0, .int .u64 now] 80))
  refine ⟨Nat.le_refl _, by simp [psort], ⟨blk_new _ _, Kd.R_nil _ _ _ _ _, hN⟩, (h.more (Y := fun k => k = w.heap.size) hb1 (fun k hk => ?_)).sub (fun k hk => ?_), fun _ e => e.elim, fun _ e => e.elim, Fr.of_below (below_step hb hb1)⟩
  · have e : k = w.heap.size := hk
    subst e; exact ⟨Nat.le_refl _, hlt⟩
  · rcases hk with hk | hk | hk
    · exact hk.elim
    · exact .inr hk
    · cases hk
set_option maxHeartbeats 40000000 in
set_option maxRecDepth 100000 in
theorem plays_walk (W : World) (hT : Tz.TabOk W) (now0 : Int) (hn0 : U now0) (A0 : Option Addr) (c : Nat) (A : List S114) (hr : Kd.C k114 W A0 A.length A) (hA : ∀ x ∈ A, (Lit.int .i64 x.f1.f0).wf = true ∧ U x.f1.f1) :
    Calls Tryd.prog 9 #[.int .u64 now0, .slice A0 A.length c] W fun e w' => e = .returned (.bool true) ∧ Below W.heap.size W w' := by
  have HR := Aside0.mk hr
  have HA := Aside0.mk hA
  have HT := Aside0.mk hT
  have HN := Aside0.mk hn0
  clear hr hA hT hn0
  go_enter Tryd.func9, Tryd.ntmps9
  go_upto_block 0 with (go_at_call 35; refine (new_J W HT.out HN.out).mono ?_; rintro e w1 ⟨B, rfl, hJ, hb1⟩)
  have hS := Aside0.mk (plays_start hb1 rfl hJ.out)
  clear hJ hb1
  generalize w1.alloc (.cells #[.slice none 0 0, .int .u64 now0] 80) = w3 at hS ⊢
  generalize w1.heap.size = R at hS ⊢
  go_cut [7] (fun v7 wc => Aside0 (QTo W.heap.size W B R 60 wc))
  case first =>
    as_aux_lemma =>
    go_wp2_with (fail)
    go_loopg [7] 60 (fun gg v7 wr => ∃ i : Nat, v7 = .int .i64 i ∧ i ≤ 60 ∧ i ≤ A.length ∧ 60 - i ≤ gg ∧ Aside0 (QTo W.heap.size W B R i wr))
    case atStart => exact ⟨0, rfl, by omega, by omega, by omega, ⟨_, _, _, hS.out⟩⟩
    case round =>
      obtain ⟨i, rfl, hi1, hi2, hgg, hP⟩ := hrel
      clear hS
      by_cases hi : i < A.length ∧ i < 60
      · have hj1 : (i : Int) < (A.length : Int) := by omega
        have hj2 : (i : Int) < 60 := by omega
        obtain ⟨now, L, v, h⟩ := hP.out
        clear hP
        have h := Aside0.mk h
        obtain ⟨ad, e1, hx0, hx1, hx2⟩ := at_T114 HR.out (i : Int) (by omega) hj1
        subst e1
        rw [Int.toNat_natCast] at hx0 hx1 hx2
        replace hx0 := h.out.fr.rd hx0 (Nat.le_refl _)
        replace hx1 := h.out.fr.rd hx1 (Nat.le_refl _)
        replace hx2 := h.out.fr.rd hx2 (Nat.le_refl _)
        have hok : Aside0 ((Lit.int .i64 (rd_T114 A (i : Int)).f1.f0).wf = true ∧ U (rd_T114 A (i : Int)).f1.f1) := ⟨by rw [rd114 A i hi.1]; exact HA.out _ (List.getElem_mem hi.1)⟩
        obtain ⟨x, hx⟩ : ∃ x, rd_T114 A (i : Int) = x := ⟨_, rfl⟩
        rw [hx] at hx0 hx1 hx2 hok
        clear hx
        obtain ⟨kd, hkd⟩ : ∃ kd, md 8 x.f0 = kd := ⟨_, rfl⟩
        have hk6 := md_in 8 x.f0 (by decide)
        rw [hkd] at hk6
        have hkd := Aside0.mk hkd
        go_upto_block 2 with (first
          | (go_at_call 14; refine (md_calls 8 x.f0 kd _ (by decide) (by decide) hkd.out).mono ?_; rintro e w5 ⟨rfl, hb5⟩))
        have hb6 := Aside0.mk (below_step (below_alloc (Below.refl wr.heap.size wr) (.cells #[.int .i64 x.f0, .int .i64 x.f1.f0, .int .u64 x.f1.f1] 82)) hb5)
        have hbox := Aside0.mk (blk_below (blk_new wr (.cells #[.int .i64 x.f0, .int .i64 x.f1.f0, .int .u64 x.f1.f1] 82)) hb5)
        have hQ := Aside0.mk (h.out.box hb6.out (g := wr.heap.size) rfl (blk_lt hbox.out))
        clear h hb5 hx0 hx1 hx2 hb6 hkd
        generalize wr.heap.size = g5 at hbox hQ ⊢
        go_cut [] (fun wx => Aside0 (QTo W.heap.size W B R (i + 1) wx))
        case first =>
          as_aux_lemma =>
          have hbD := Aside0.mk (below_drew1 (Below.refl w5.heap.size w5))
          have hLl : L.length ≤ 90000 := by have := hQ.out.len; omega
          have hLl := Aside0.mk hLl
          have un := Aside0.mk hQ.out.wj.tt.un
          have nd := Aside0.mk hQ.out.wj.tt.nd
          have kp : Aside0 (∀ w', Fr (fun k => ¬ k = g5) w5 w' → w'.cell? ⟨g5, 0, none⟩ = some (.int .i64 x.f0) ∧ w'.cell? ⟨g5, 1, none⟩ = some (.int .i64 x.f1.f0) ∧ w'.cell? ⟨g5, 2, none⟩ = some (.int .u64 x.f1.f1)) := ⟨fun w' hf => by
            have hb := (hf.blk g5 (blk_lt hbox.out) (fun e => e rfl)).trans hbox.out
            exact ⟨(blk_cell hb 0).trans rfl, (blk_cell hb 1).trans rfl, (blk_cell hb 2).trans rfl⟩⟩
          have kr : Aside0 (∀ w', Below w5.heap.size w5 w' → w'.cell? ⟨R, 1, none⟩ = some (.int .u64 now)) := ⟨fun w' hb => (blk_cell (hQ.out.rw_.step hb).g 1).trans rfl⟩
          have hWN := Aside0.mk hQ.out.fr.size
          rcases (show (kd = 0 ∨ kd = 1 ∨ kd = 2) ∨ kd = 3 ∨ (kd = 4 ∨ kd = 5) ∨ kd = 6 ∨ kd = 7 by omega) with hk | rfl | hk | rfl | rfl
          · have hh := rheld un.out hok.out.2
            obtain ⟨m, hm⟩ : ∃ m, (if now + x.f1.f1 < 18446744073709551616 then now + x.f1.f1 else 18446744073709551615) = m := ⟨_, rfl⟩
            rw [hm] at hh
            have HU : Aside0 (U m) := ⟨by
              have h5 := un.out
              have h6 := hok.out.2
              unfold U at *
              rw [← hm]
              split <;> omega⟩
            have hh := Aside0.mk hh
            have kh : Aside0 (∀ w', Below w5.heap.size w5 w' → w'.cell? ⟨R, 1, none⟩ = some (.int .u64 now) ∧ w'.cell? ⟨g5, 2, none⟩ = some (.int .u64 x.f1.f1)) := ⟨fun w' hb => ⟨kr.out w' hb, (kp.out w' (Fr.of_below hb)).2.2⟩⟩
            clear hm hk6 hbox
            rcases hk with rfl | rfl | rfl <;>
            (go_upto_region 17 with (fail)
             go_region_held3 (fun w' => w'.cell? ⟨R, 1, none⟩ = some (.int .u64 now) ∧ w'.cell? ⟨g5, 2, none⟩ = some (.int .u64 x.f1.f1)) (first | exact kh.out _ hbD.out | exact kh.out _ hbx.out) ((go_at_call 41; refine (remontoirref01_Held.calls now x.f1.f1 m _ hh.out).mono ?_; rintro e w6 ⟨rfl, hb6⟩; have hbx := Aside0.mk (below_step hbD.out hb6)))
             obtain ⟨c0, c1, c2⟩ := kp.out w6 (Fr.of_below hbx.out)
             go_upto_if 103 with (fail)
             go_cut [9] (fun v9 wc => ∃ a : Int, v9 = .int .u64 a ∧ Aside0 (U a) ∧ Aside0 (Below w5.heap.size w5 wc))
             case first =>
               as_aux_lemma =>
               by_cases h3 : Int.tmod x.f0 3 = 0
               · have h31 : (Int.tmod x.f0 3 == 0) = true := beq_iff_eq.mpr h3
                 go_wp2_with (fail)
                 go_meet
                 exact ⟨_, rfl, ⟨hok.out.2⟩, hbx⟩
               · have h31 : (Int.tmod x.f0 3 == 0) = false := beq_eq_false_iff_ne.mpr h3
                 go_wp2_with (fail)
                 go_meet
                 exact ⟨_, rfl, HU, hbx⟩
             case rest =>
               as_aux_lemma =>
               obtain ⟨a, rfl, hua, hbc⟩ := hcut
               clear c0 c1 c2 hbx hb6
               obtain ⟨r, hr⟩ : ∃ r, insR now L x.f1.f0 a = r := ⟨_, rfl⟩
               have hbD2 := Aside0.mk (below_step hbc.out (below_drew1 (Below.refl wc.heap.size wc)))
               have k36 := Aside0.mk (ins_J (hQ.out.wj.step hbD2.out) x.f1.f0 a hok.out.1 hua.out hLl.out r hr _ rfl)
               have hQ7 := Aside0.mk (hQ.out.step hbD2.out)
               have ib := Aside0.mk (ins_both (id := x.f1.f0) (a := a) hQ.out.so hr)
               have hr := Aside0.mk hr
               clear kh kr
               go_upto_region 20 with (fail)
               go_region_held3 (fun w' => w'.cell? ⟨g5, 1, none⟩ = some (.int .i64 x.f1.f0)) (first | exact (kp.out _ (Fr.of_below hbD2.out)).2.1 | exact (kp.out _ hfz.out).2.1 | exact (kp.out _ hfv.out).2.1) (first
                 | (go_at_call 36; refine k36.out.mono ?_; rintro e w7 ⟨rfl, hJ7, hf7⟩; have hw7 := Aside0.mk (hQ7.out.wheel hf7); have hfz := Aside0.mk ((Fr.of_below (F := fun k => ¬ k = g5) hbD2.out).trans hw7.out.2.2))
                 | (go_at_call 42; refine (wins_calls hw7.out.1 nd.out x.f1.f0 a (by have := hLl.out; omega) r hr.out).mono ?_; rintro e w8 ⟨rfl, hg8⟩; have hfv : Aside0 (Fr (fun k => ¬ k = g5) w5 w8) := ⟨by
                     obtain ⟨v', k1, k2, k3⟩ := hg8.out
                     exact hfz.out.trans (k2.weak (fun k hk e => hQ.out.ap k e hk))⟩))
               go_wp2_with (fail)
               go_meet
               exact ⟨QTo.both hQ.out.ap hQ.out.yp hJ7.out hw7.out.1 hw7.out.2.1 hg8.out (Nat.le_trans ib.out.2.2 (Nat.succ_le_succ hQ.out.len)) ib.out.1 ib.out.2.1⟩)
          · obtain ⟨o, ho⟩ : ∃ o, tof L x.f1.f0 = o := ⟨_, rfl⟩
            have k31 := can_J hQ.out.wj x.f1.f0 hok.out.1 hLl.out o ho
            obtain ⟨q, hq⟩ : ∃ q, o.getD 0 = q := ⟨_, rfl⟩
            obtain ⟨b, hb⟩ : ∃ b, o.isSome = b := ⟨_, rfl⟩
            rw [hq, hb] at k31
            have HO := Aside0.mk (And.intro ho (And.intro hq hb))
            have k31 := Aside0.mk k31
            have c1 := (kp.out w5 (Fr.refl _ _)).2.1
            clear ho hq hb hk6 hbox kr
            go_upto_region 24 with (go_at_call 31; refine k31.out.mono ?_; rintro e w6 ⟨rfl, hJ6, hf6⟩)
            obtain ⟨hs6, hF6, hfy⟩ := hQ.out.wheel hf6
            have c6 := (kp.out w6 hfy).2.1
            have k43 := wcan_calls hs6 nd.out x.f1.f0 (by have := hLl.out; omega) o HO.out.1
            rw [HO.out.2.1, HO.out.2.2] at k43
            have k43 := Aside0.mk k43
            have hs6 := Aside0.mk hs6
            have hF6 := Aside0.mk hF6
            clear hfy hf6 k31 c1 kp
            cases b <;>
            (go_wp2_with (go_at_call 43; refine k43.out.mono ?_; rintro e w7 ⟨rfl, hg7⟩)
             go_meet
             exact ⟨QTo.both hQ.out.ap hQ.out.yp hJ6.out hs6.out hF6.out hg7.out (Nat.le_trans (rm_so hQ.out.so _).2 (Nat.le_succ_of_le hQ.out.len)) (List.Perm.refl _) (rm_so hQ.out.so _).1⟩)
          · have k39 := Aside0.mk (pop_J hQ.out.wj hok.out.2 hLl.out)
            have c1 := (kp.out w5 (Fr.refl _ _)).2.2
            clear hk6 hbox kr
            rcases hk with rfl | rfl <;>
            (go_upto_region 29 with (go_at_call 39; refine k39.out.mono ?_; rintro e w6 ⟨y, more, cur, L1, rfl, hp6, hJ6, hf6⟩)
             obtain ⟨hs6, hF6, hfy⟩ := hQ.out.wheel hf6
             have hx6 := blk_new w6 (.cells #[.int .i64 y.f0, .int .u64 y.f1] 31)
             have hb6 := Aside0.mk (below_alloc (Below.refl w6.heap.size w6) (.cells #[.int .i64 y.f0, .int .u64 y.f1] 31))
             have hs7 := Aside0.mk (hs6.step hb6.out)
             have hJ7 := Aside0.mk (hJ6.out.step hb6.out)
             have hF7 := Aside0.mk (hF6.trans (Fr.of_b0 hb6.out))
             have c7 := (kp.out _ (hfy.trans (Fr.of_below hb6.out))).2.2
             have hxl : Aside0 (∀ k, X2 R v k → k < w6.heap.size) := ⟨fun k hk => (hs6.lt k hk).2⟩
             have HX6 := Aside0.mk hx6
             clear hs6 hF6 hfy hf6 k39 c1 hx6
             generalize w6.alloc (.cells #[.int .i64 y.f0, .int .u64 y.f1] 31) = w7 at HX6 hs7 hJ7 hF7 hb6 c7 ⊢
             generalize w6.heap.size = g6 at HX6 hxl ⊢
             have k44 := Aside0.mk (wpop_calls hs7.out hQ.out.so x.f1.f1 (by have := hLl.out; omega))
             go_upto_region 30 with (go_at_call 44; refine k44.out.mono ?_; rintro e w8 ⟨z, more2, cur2, L2, rfl, hp8, hg8⟩)
             obtain ⟨e1, e2, e3, e4⟩ := PopG.uniq hp6.out hp8.out
             subst e1 e2 e3 e4
             have hX8 : w8.heap[g6]? = some (.cells #[.int .i64 y.f0, .int .u64 y.f1] 31 (0, 0)) := by
               obtain ⟨v', k1, k2, k3⟩ := hg8.out
               exact (k2.blk g6 (blk_lt HX6.out) (fun e => Nat.lt_irrefl _ (hxl.out _ e))).trans HX6.out
             have hso := PopG.so hp6.out hQ.out.so
             have hTo : QTo W.heap.size W B R (i + 1) w8 := QTo.both hQ.out.ap hQ.out.yp hJ7.out hs7.out hF7.out hg8.out (Nat.le_trans hso.2 (Nat.le_succ_of_le hQ.out.len)) (List.Perm.refl _) hso.1
             have hb9 := below_alloc (Below.refl w8.heap.size w8) (.cells #[.int .i64 y.f0, .int .u64 y.f1] 31)
             have hTo9 := Aside0.mk (hTo.step hb9)
             have hX9 := blk_below hX8 hb9
             have hY9 := blk_new w8 (.cells #[.int .i64 y.f0, .int .u64 y.f1] 31)
             clear hTo hso hX8 hb9 c7 k44 hp6 hp8 hg8
             generalize w8.alloc (.cells #[.int .i64 y.f0, .int .u64 y.f1] 31) = w9 at hTo9 hX9 hY9 ⊢
             generalize w8.heap.size = g8 at hY9 ⊢
             have x0 : w9.cell? ⟨g6, 0, none⟩ = some (.int .i64 y.f0) := (blk_cell hX9 0).trans rfl
             have x1 : w9.cell? ⟨g6, 1, none⟩ = some (.int .u64 y.f1) := (blk_cell hX9 1).trans rfl
             have y0 : w9.cell? ⟨g8, 0, none⟩ = some (.int .i64 y.f0) := (blk_cell hY9 0).trans rfl
             have y1 : w9.cell? ⟨g8, 1, none⟩ = some (.int .u64 y.f1) := (blk_cell hY9 1).trans rfl
             clear hX9 hY9
             cases more <;>
             (go_wp2_with (fail)
              go_meet
              exact hTo9))
          · have c1 := (kp.out w5 (Fr.refl _ _)).2.2
            clear hk6 hbox kr
            have HLT : Aside0 (∀ k, X2 R v k → k < w5.heap.size) := ⟨fun k hk => (hQ.out.rw_.lt k hk).2⟩
            by_cases ho : now + x.f1.f1 < 18446744073709551616
            · obtain ⟨t, ht⟩ : ∃ t, now + x.f1.f1 = t := ⟨_, rfl⟩
              have hut : U t := by
                have h5 := un.out
                have h6 := hok.out.2
                unfold U at *
                omega
              have HT2 := Aside0.mk (And.intro ht hut)
              have k32 := Aside0.mk (adv_J hQ.out.wj hLl.out hok.out.2 ht hut)
              clear ho ht hut
              go_upto_region 34 with (go_at_call 32; refine k32.out.mono ?_; rintro e w6 ⟨va, rfl, hg6⟩)
              obtain ⟨hRa, hJ6, hf6⟩ := hg6.out
              obtain ⟨hs6, hF6, hfy⟩ := hQ.out.wheel hf6
              have c6 := (kp.out w6 hfy).2.2
              have k45 := Aside0.mk (wadv_calls hs6 hQ.out.so hLl.out un.out hok.out.2 HT2.out.1 HT2.out.2)
              have hRa := Aside0.mk hRa
              have hs6 := Aside0.mk hs6
              have hF6 := Aside0.mk hF6
              have hJ6 := Aside0.mk (hJ6.sub (Y := fun k => k = g5 ∨ X2 R v k) (fun k hk => .inl hk))
              clear hfy hf6 hg6 k32 c1 kp
              go_upto_region 35 with (go_at_call 45; refine k45.out.mono ?_; rintro e w7 ⟨vb, rfl, hg7⟩)
              obtain ⟨hRb, hgo⟩ := hg7.out
              have hso := rest_so hQ.out.so t
              have hTo := Aside0.mk (QTo.both (m := i + 1) hQ.out.ap hQ.out.yp hJ6.out hs6.out hF6.out hgo (Nat.le_trans hso.2 (Nat.le_succ_of_le hQ.out.len)) (List.Perm.refl _) hso.1)
              have hRa7 : Kd.R k31 31 w7 w5.heap.size (fun k => va.ownBlock = some k) va (dueT L t) := by
                obtain ⟨v', k1, k2, k3⟩ := hgo
                exact Kd.R_kept hRa.out (S := X2 R v) ⟨k2.size, fun i hi hn => k2.blk i hi hn⟩ (fun k hk e => by
                  have h5 := ((Kd.R_bound hRa.out).1 k hk).2.1
                  have h6 := HLT.out k e
                  omega)
              have hdl : (dueT L t).length ≤ 1000000 := by
                have h5 := List.length_filter_le (fun d : S31 => decide (d.f1 ≤ t)) (psort L)
                rw [psort_len] at h5
                have h6 := hLl.out
                show (List.filter _ _).length ≤ _
                omega
              have hdu := Aside0.mk (dues_calls hRa7 hRb hdl)
              clear hRb hgo hg7 hso hRa7 hdl k45 c6
              go_wp2_with (go_at_call 19; refine hdu.out.mono ?_; rintro e w8 ⟨rfl, hb8⟩)
              go_meet
              exact ⟨hTo.out.step hb8⟩
            · have k32 := Aside0.mk (advo_J hQ.out.wj hok.out.2 ho)
              have k45 := Aside0.mk (fun w' (hb : Below w5.heap.size w5 w') => wadv_over (hQ.out.rw_.step hb) un.out hok.out.2 ho)
              have kd : Aside0 (∀ w' : World, Calls Tryd.prog 19 #[.slice none 0 0, .slice none 0 0] w' fun e w'' => e = .returned (.bool true) ∧ Below w'.heap.size w' w'') := ⟨fun w' => dues_calls (L := []) (b1 := 0) (b2 := 0) (o1 := fun _ => True) (o2 := fun _ => True) (Kd.R_nil _ _ _ _ _) (Kd.R_nil _ _ _ _ _) (by simp)⟩
              clear ho
              go_upto_region 34 with (go_at_call 32; refine k32.out.mono ?_; rintro e w6 ⟨rfl, hb6⟩)
              have c6 := (kp.out w6 (Fr.of_below hb6)).2.2
              go_upto_region 35 with (go_at_call 45; refine (k45.out w6 hb6).mono ?_; rintro e w7 ⟨rfl, hb7⟩)
              go_wp2_with (go_at_call 19; refine (kd.out w7).mono ?_; rintro e w8 ⟨rfl, hb8⟩)
              go_meet
              exact ⟨(hQ.out.step (below_step (below_step hb6 hb7) hb8)).to (Nat.le_succ _)⟩
          · obtain ⟨o, ho⟩ : ∃ o, tof L x.f1.f0 = o := ⟨_, rfl⟩
            obtain ⟨re, im, hpl, ho1, ho2⟩ := place_self now o
            have k46 := place_J hQ.out.wj x.f1.f0 hok.out.1 o ho
            have k47 := fun w' (hb : Below w5.heap.size w5 w') => wplace_calls (hQ.out.rw_.step hb) nd.out hQ.out.wj.tt.u un.out x.f1.f0 (show L.length ≤ 1000000 by have := hLl.out; omega) o ho
            have k48 := fun w' (hb : Below w5.heap.size w5 w') => at_J (hQ.out.wj.step hb) x.f1.f0 hok.out.1 o ho
            have k49 := fun w' (hb : Below w5.heap.size w5 w') => wat_calls (hQ.out.rw_.step hb) nd.out x.f1.f0 (show L.length ≤ 1000000 by have := hLl.out; omega) o ho
            rw [hpl] at k46 k47
            generalize o.getD 0 = q at k48 k49
            generalize o.isSome = b at k46 k47 k48 k49
            have k46 := Aside0.mk k46
            have k47 := Aside0.mk k47
            have k48 := Aside0.mk k48
            have k49 := Aside0.mk k49
            have kb : Aside0 (∀ w', Below w5.heap.size w5 w' → w'.cell? ⟨g5, 1, none⟩ = some (.int .i64 x.f1.f0)) := ⟨fun w' hb => (kp.out w' (Fr.of_below hb)).2.1⟩
            have c1 := kb.out w5 (Below.refl _ _)
            clear hpl ho kp kr hk6
            cases b <;>
            (go_upto_region 10 with (go_at_call 46; refine k46.out.mono ?_; rintro e w6 ⟨rfl, hb6⟩; have c6 := kb.out w6 hb6)
             go_upto_region 11 with (go_at_call 47; refine (k47.out w6 hb6).mono ?_; rintro e w7 ⟨rfl, hb7⟩; have c7 := kb.out w7 (below_step hb6 hb7))
             go_upto_region 12 with (go_at_call 48; refine (k48.out w7 (below_step hb6 hb7)).mono ?_; rintro e w8 ⟨rfl, hb8⟩; have c8 := kb.out w8 (below_step (below_step hb6 hb7) hb8))
             go_wp2_with (go_at_call 49; refine (k49.out w8 (below_step (below_step hb6 hb7) hb8)).mono ?_; rintro e w9 ⟨rfl, hb9⟩)
             go_meet
             exact ⟨(hQ.out.step (below_step (below_step (below_step hb6 hb7) hb8) hb9)).to (Nat.le_succ _)⟩)
        case rest =>
          as_aux_lemma =>
          obtain ⟨now1, L1, v1, h1⟩ := hcut.out
          clear hcut hQ hbox
          have h1 := Aside0.mk h1
          have ks := Aside0.mk (same6_calls h1.out.wj h1.out.rw_ h1.out.so (by have := h1.out.len; omega))
          go_wp2_with (go_at_call 50; refine ks.out.mono ?_; rintro e w8 ⟨rfl, hb8⟩)
          go_roundg (60 - (i + 1))
          case measure => omega
          case rel => exact ⟨i + 1, by go_num, by omega, by omega, Nat.le_refl _, ⟨_, _, _, h1.out.step hb8⟩⟩
      · by_cases hj1 : (i : Int) < (A.length : Int)
        · have hj2 : ¬ (i : Int) < 60 := by omega
          go_wp2_with (fail)
          go_meet
          obtain ⟨now, L, v, h⟩ := hP.out
          exact ⟨now, L, v, { h with len := Nat.le_trans h.len hi1 }⟩
        · go_wp2_with (fail)
          go_meet
          obtain ⟨now, L, v, h⟩ := hP.out
          exact ⟨now, L, v, { h with len := Nat.le_trans h.len hi1 }⟩
  case rest =>
    as_aux_lemma =>
    obtain ⟨now, L, v, h⟩ := hcut.out
    clear hcut
    have h := Aside0.mk h
    have kw := Aside0.mk (wakes6 wc (h.out.fr.tab (tab_pos HT.out) HT.out rfl))
    go_wp2_with (go_at_call 30; refine kw.out.mono ?_; rintro e w8 ⟨rfl, hb8⟩)
    go_ret
    exact ⟨rfl, (h.out.fr.trans (Fr.of_b0 hb8)).below (Nat.le_refl _) (fun k h => h)⟩
end Go.Proofs.YtedolmjealgeoaaDoor.Wh
