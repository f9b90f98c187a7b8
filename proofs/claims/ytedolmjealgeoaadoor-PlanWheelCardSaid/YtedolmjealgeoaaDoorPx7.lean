/- PlanWheel: the walk. Conditions: the table's cells; the lists read. -/
import Derived.Test.YtedolmjealgeoaaDoorPw7
import Derived.Test.YtedolmjealgeoaaDoorLd
import Derived.Deep.DeepCutAuto
import Derived.Deep.CutBlock
set_option linter.unusedVariables false
namespace Go.Proofs.YtedolmjealgeoaaDoor.Pn
open Go.RowKit Go.Maps Go.Proofs.YtedolmjealgeoaaDoor.PBase Go.Proofs.YtedolmjealgeoaaDoor.Cat Go.Proofs.YtedolmjealgeoaaDoor.Rg Go.Proofs.YtedolmjealgeoaaDoor.Tk Go.Proofs.YtedolmjealgeoaaDoor.Wh Go.Proofs.YtedolmjealgeoaaDoorW.PrintWords Go.Proofs.YtedolmjealgeoaaDoorW.PrintLast Go.Proofs.YtedolmjealgeoaaDoorW.PrintMore
theorem rd_in (l : List S31) (i : Nat) (h : i < l.length) : rd_T31 l (i : Int) = l[i] := by simp [rd_T31, h]
theorem rm_head {y : S31} {L : List S31} (h : (ids (y :: L)).Nodup) : rm (y :: L) y.f0 = L := by
  have h2 := List.nodup_cons.1 h
  have h3 := rm_out h2.1
  unfold rm at h3 ⊢
  rw [List.filter_cons_of_neg (by simp)]
  exact h3
set_option maxHeartbeats 40000000 in
set_option maxRecDepth 100000 in
theorem plan_walk (W : World) (hT : Tz.TabOk W) (now : Int) (hn : U now) (A1 : Option Addr) (c1 : Nat) (l : List S31) (hC1 : Kd.C k31 W A1 l.length l) (hok : Ok l) (hu : ∀ d ∈ l, U d.f1) (hl1 : l.length ≤ 9223372036854775806) (A2 : Option Addr) (c2 : Nat) (L2 : List Int) (hC2 : kU.C W A2 L2.length L2) (hu2 : ∀ x ∈ L2, U x) (hl2 : L2.length ≤ 9223372036854775807) :
    Calls Tryd.prog 12 #[.int .u64 now, .slice A1 l.length c1, .slice A2 L2.length c2] W fun e w' => e = .returned (.bool true) ∧ Below W.heap.size W w' := by
  have HT := Aside0.mk hT
  have HN := Aside0.mk hn
  have HC := Aside0.mk (And.intro hC1 (And.intro hok hu))
  have HC2 := Aside0.mk (And.intro hC2 hu2)
  have HRd := Aside0.mk (Kd.reads_of_C (enc := Value.int .u64) (d := 0) (h1 := fun _ => rfl) hC2)
  clear hT hn hC1 hok hu hC2 hu2
  go_enter Tryd.func12, Tryd.ntmps12
  go_upto_region 4 with (go_at_call 35; refine (new_J W HT.out HN.out).mono ?_; rintro e w1 ⟨B, rfl, hJ, hb⟩)
  have hP0 := Aside0.mk (PW.nil hJ.out)
  have hB0 := Aside0.mk hb
  clear hJ hb
  go_wp2
  go_loopg [8, 9, 10] 41 (fun gg v8 v9 v10 wr => ∃ (i k : Nat) (P : List S31) (ck : Int) (vo : Value), vo = v8 ∧ v9 = .int .i64 k ∧ v10 = .int .i64 i ∧ i ≤ 40 ∧ 40 - i ≤ gg ∧ k ≤ l.length ∧ P.length ≤ 3 * i ∧ Aside0 (PW W.heap.size wr B ck vo P) ∧ Aside0 (Below W.heap.size W wr))
  case atStart => exact ⟨0, 0, [], now, _, rfl, rfl, rfl, by omega, by omega, Nat.zero_le _, by simp, hP0, hB0⟩
  case round =>
    clear hP0 hB0
    obtain ⟨i, k, P, ck, vo, rfl, rfl, rfl, hi, hgg, hk, hPl, hP, hB⟩ := hrel
    by_cases hlt : i < L2.length ∧ i < 40
    · have hi0 : (0 : Int) ≤ (i : Int) := by omega
      have hi1 : (i : Int) < (L2.length : Int) := by omega
      have hi2 : (i : Int) < 40 := by omega
      go_upto_block 2 with (fail)
      go_cut [8, 9] (fun v8 v9 wc => ∃ (k : Nat) (P : List S31) (vo : Value), vo = v8 ∧ v9 = .int .i64 k ∧ k ≤ l.length ∧ P.length ≤ 3 * i + 3 ∧ Aside0 (PW W.heap.size wc B ck vo P) ∧ Aside0 (Below W.heap.size W wc))
      case first =>
        as_aux_lemma =>
        go_wp2_with (fail)
        go_loopg [8, 9, 11] 4 (fun gg v8 v9 v11 wr => ∃ (n k : Nat) (P : List S31) (vo : Value), vo = v8 ∧ v9 = .int .i64 k ∧ v11 = .int .i64 n ∧ n ≤ 3 ∧ 3 - n ≤ gg ∧ k ≤ l.length ∧ P.length ≤ 3 * i + n ∧ Aside0 (PW W.heap.size wr B ck vo P) ∧ Aside0 (Below W.heap.size W wr))
        case atStart => exact ⟨0, k, P, vo, rfl, rfl, rfl, by omega, by omega, hk, by omega, hP, hB⟩
        case round =>
          clear hP hB hPl hk
          obtain ⟨n, k, P, vo, rfl, rfl, rfl, hn3, hgn, hk, hPl, hP, hB⟩ := hrel
          by_cases hn : n < 3
          · have hn0 : (n : Int) < 3 := by omega
            by_cases hkl : k < l.length
            · have hk0 : (0 : Int) ≤ (k : Int) := by omega
              have hk1 : (k : Int) < (l.length : Int) := by omega
              obtain ⟨ad, e1, x0, x1⟩ := at_T31 HC.out.1 (k : Int) hk0 hk1
              subst e1
              rw [Int.toNat_natCast, rd_in l k hkl] at x0 x1
              obtain ⟨d, hd⟩ : ∃ d, l[k] = d := ⟨_, rfl⟩
              have hdm : d ∈ l := hd ▸ List.getElem_mem hkl
              rw [hd] at x0 x1
              have HD := Aside0.mk (And.intro (HC.out.2.1 d hdm) (HC.out.2.2 d hdm))
              have kp : Aside0 (∀ w', Below W.heap.size W w' → w'.cell? (ad.add (k * 2)) = some (.int .i64 d.f0) ∧ w'.cell? ⟨(ad.add (k * 2)).block, (ad.add (k * 2)).off + 1, none⟩ = some (.int .u64 d.f1)) := ⟨fun w' hb => ⟨(hb.cell (World.block_lt_of_cell? W _ x0)).trans x0, (hb.cell (World.block_lt_of_cell? W _ x1)).trans x1⟩⟩
              clear hd hdm x0 x1
              obtain ⟨r, hr⟩ : ∃ r, insR ck P d.f0 d.f1 = r := ⟨_, rfl⟩
              obtain ⟨T1, hT1⟩ : ∃ T1, insT ck P d.f0 d.f1 = T1 := ⟨_, rfl⟩
              have hin := Aside0.mk (ins_J (hP.out.wj.step (below_drew1 (Below.refl _ _))) d.f0 d.f1 HD.out.1 HD.out.2 (by omega) r hr T1 hT1)
              have HRT := Aside0.mk (And.intro hr hT1)
              clear hr hT1
              go_upto_region 12 with (fail)
              go_region_held3 (fun w' => w'.cell? (ad.add (k * 2)) = some (.int .i64 d.f0) ∧ w'.cell? ⟨(ad.add (k * 2)).block, (ad.add (k * 2)).off + 1, none⟩ = some (.int .u64 d.f1)) (first | exact kp.out _ (below_drew1 hB.out) | exact kp.out _ hB2.out) ((go_at_call 36; refine hin.out.mono ?_; rintro e w2 ⟨rfl, hJ2, hf2⟩; have hB2 := Aside0.mk ((below_drew1 hB.out).trans (hf2.below (Nat.le_trans hB.out.size (Nat.le_refl _)) (fun k hk => hk.1)))))
              have hR2 := Aside0.mk (R_fw (Kd.R_drew hP.out.row) hf2)
              have hOw := Aside0.mk hP.out.own
              have hG := Aside0.mk (And.intro hP.out.gd hP.out.ok)
              clear hin hf2
              go_upto_if 62 with (fail)
              go_cut [8] (fun v8 wc => ∃ (P' : List S31) (v' : Value), v' = v8 ∧ P'.length ≤ 3 * i + (n + 1) ∧ Aside0 (PW W.heap.size wc B ck v' P') ∧ Aside0 (Below W.heap.size W wc))
              case first =>
                as_aux_lemma =>
                by_cases hr0 : r = 0
                · subst hr0
                  have hnin : d.f0 ∉ ids P ∧ ¬ d.f1 ≤ ck := by
                    have h5 := HRT.out.1
                    unfold insR at h5
                    by_cases h6 : d.f0 ∈ ids P
                    · rw [if_pos h6] at h5; omega
                    · rw [if_neg h6] at h5
                      by_cases h7 : d.f1 ≤ ck
                      · rw [if_pos h7] at h5; omega
                      · exact ⟨h6, h7⟩
                  have hT1e : (⟨d.f0, d.f1⟩ : S31) :: P = T1 := by
                    rw [← HRT.out.2]
                    unfold insT
                    rw [if_neg hnin.1, if_neg hnin.2]
                  obtain ⟨A, c, rfl, hc, hC⟩ := Kd.R_reads hR2.out
                  have hgd : Gd (psort (⟨d.f0, d.f1⟩ :: P)) := gd_psort _ (List.nodup_cons.2 ⟨hnin.1, hG.out.1.1⟩)
                  have hins := Aside0.mk (plan_Insert.calls A c P d.f0 d.f1 _ true w2 hC hc (ins_yes hG.out.2 (by omega) hG.out.1 hnin.1) (Nat.zero_le _))
                  have hpl : (psort (⟨d.f0, d.f1⟩ :: P)).length ≤ 3 * i + (n + 1) := by
                    rw [psort_len, List.length_cons]
                    omega
                  have hpp := psort_perm (⟨d.f0, d.f1⟩ :: P)
                  obtain ⟨Q, hQ⟩ : ∃ Q, psort (⟨d.f0, d.f1⟩ :: P) = Q := ⟨_, rfl⟩
                  rw [hQ] at hins hgd hpl hpp
                  rw [hT1e] at hpp
                  have HGD := Aside0.mk (And.intro hgd hpp)
                  obtain ⟨q0, q1⟩ := kp.out w2 hB2.out
                  clear hQ hgd hpp hT1e hnin hC
                  go_upto_region 14 with (go_at_call 53; refine hins.out.mono ?_; rintro e w3 ⟨v3, rfl, hR3, hb3⟩)
                  have hP3 := Aside0.mk (PW.row2 hJ2.out hOw.out hb3 hR3 HGD.out.2.symm HGD.out.1)
                  have hB3 := Aside0.mk (below_step hB2.out hb3)
                  clear hR3 hb3 q0 q1 hins
                  go_wp2_with (fail)
                  go_meet
                  exact ⟨Q, v3, rfl, hpl, hP3, hB3⟩
                · have hr1 : (r == 0) = false := beq_eq_false_iff_ne.mpr hr0
                  have hT1e : P = T1 := by
                    rw [← HRT.out.2]
                    unfold insT
                    have h5 := HRT.out.1
                    unfold insR at h5
                    by_cases h6 : d.f0 ∈ ids P
                    · rw [if_pos h6]
                    · rw [if_neg h6] at h5 ⊢
                      by_cases h7 : d.f1 ≤ ck
                      · rw [if_pos h7]
                      · rw [if_neg h7] at h5
                        exact (hr0 h5.symm).elim
                  have hP3 : Aside0 (PW W.heap.size w2 B ck vo P) := ⟨⟨by have h5 := hJ2.out; rw [← hT1e] at h5; exact h5, hG.out.1, hR2.out⟩⟩
                  clear hT1e
                  go_wp2_with (fail)
                  go_meet
                  exact ⟨P, vo, rfl, by omega, hP3, hB2⟩
              case rest =>
                as_aux_lemma =>
                clear hJ2 hR2 hOw hG HRT hP hB hB2 hPl
                obtain ⟨P, vo, rfl, hPl, hP, hB⟩ := hcut
                go_upto_if 77 with (fail)
                go_cut [8] (fun v8 wc => ∃ (P' : List S31) (v' : Value), v' = v8 ∧ P'.length ≤ 3 * i + (n + 1) ∧ Aside0 (PW W.heap.size wc B ck v' P') ∧ Aside0 (Below W.heap.size W wc))
                case first =>
                  as_aux_lemma =>
                  by_cases h4 : (k : Int) % 4 = 3
                  · have hj0 : (0 : Int) ≤ (k : Int) - 1 := by omega
                    have hj1 : (k : Int) - 1 < (l.length : Int) := by omega
                    obtain ⟨_, e1, x0, x1⟩ := at_T31 HC.out.1 ((k : Int) - 1) hj0 hj1
                    injection e1 with e1
                    subst e1
                    rw [show ((k : Int) - 1) = ((k - 1 : Nat) : Int) by omega, Int.toNat_natCast, rd_in l (k - 1) (by omega)] at x0 x1
                    obtain ⟨d, hd⟩ : ∃ d, l[k - 1] = d := ⟨_, rfl⟩
                    have hdm : d ∈ l := hd ▸ List.getElem_mem (by omega)
                    rw [hd] at x0 x1
                    have HD := Aside0.mk (HC.out.2.1 d hdm)
                    have kp : Aside0 (∀ w', Below W.heap.size W w' → w'.cell? (ad.add ((k - 1) * 2)) = some (.int .i64 d.f0)) := ⟨fun w' hb => (hb.cell (World.block_lt_of_cell? W _ x0)).trans x0⟩
                    clear hd hdm x0 x1
                    obtain ⟨o, ho⟩ : ∃ o, tof P d.f0 = o := ⟨_, rfl⟩
                    have hcan := Aside0.mk (can_J hP.out.wj d.f0 HD.out (by omega) o ho)
                    have HO := Aside0.mk ho
                    have q0 := kp.out wc hB.out
                    clear ho
                    go_upto_region 19 with (go_at_call 31; refine hcan.out.mono ?_; rintro e w2 ⟨rfl, hJ2, hf2⟩)
                    have hB2 := Aside0.mk (hB.out.trans (hf2.below (Nat.le_trans hB.out.size (Nat.le_refl _)) (fun k hk => hk.1)))
                    have hR2 := Aside0.mk (R_fw hP.out.row hf2)
                    have q1 := kp.out w2 hB2.out
                    clear q0 hcan hf2
                    obtain ⟨A, c, rfl, hc, hC⟩ := Kd.R_reads hR2.out
                    cases o with
                    | none =>
                      have hout : ¬ d.f0 ∈ ids P := tof_none.1 HO.out
                      have hcl := Aside0.mk (plan_Cancel.calls A c P d.f0 _ _ w2 hC hc (can_no hP.out.ok (by omega) (.inr hout)) (Nat.zero_le _))
                      have hP2 : Aside0 (PW W.heap.size w2 B ck (.slice A P.length c) P) := ⟨⟨by have h5 := hJ2.out; rw [rm_out hout] at h5; exact h5, hP.out.gd, hR2.out⟩⟩
                      clear hout hC hc hJ2 hR2
                      go_upto_region 20 with (go_at_call 54; refine hcl.out.mono ?_; rintro e w3 ⟨v3, rfl, hR3, hb3⟩)
                      have hP3 := Aside0.mk (hP2.out.step hb3)
                      have hB3 := Aside0.mk (below_step hB2.out hb3)
                      clear hR3 hb3 q1 hcl
                      go_wp2_with (fail)
                      go_meet
                      exact ⟨P, _, rfl, hPl, hP3, hB3⟩
                    | some a =>
                      have hin : d.f0 ∈ ids P := List.mem_map.2 ⟨_, tof_get HO.out, rfl⟩
                      have hcl := Aside0.mk (plan_Cancel.calls A c P d.f0 _ _ w2 hC hc (can_yes hP.out.ok (by omega) hP.out.gd hin) (Nat.zero_le _))
                      have hpl : (rm P d.f0).length ≤ 3 * i + (n + 1) := Nat.le_trans (List.length_filter_le _ _) hPl
                      have hgd := Aside0.mk (gd_rm hP.out.gd d.f0)
                      have hOw := Aside0.mk hP.out.own
                      obtain ⟨Q, hQ⟩ : ∃ Q, rm P d.f0 = Q := ⟨_, rfl⟩
                      rw [hQ] at hcl hpl hgd hJ2
                      clear hin hC hc hQ hR2
                      go_upto_region 20 with (go_at_call 54; refine hcl.out.mono ?_; rintro e w3 ⟨v3, rfl, hR3, hb3⟩)
                      have hP3 := Aside0.mk (PW.row2 hJ2.out hOw.out hb3 hR3 (List.Perm.refl _) hgd.out)
                      have hB3 := Aside0.mk (below_step hB2.out hb3)
                      clear hR3 hb3 q1 hcl
                      go_wp2_with (fail)
                      go_meet
                      exact ⟨Q, v3, rfl, hpl, hP3, hB3⟩
                  · have h41 : ((k : Int) % 4 == 3) = false := beq_eq_false_iff_ne.mpr h4
                    go_wp2_with (fail)
                    go_meet
                    exact ⟨P, vo, rfl, hPl, hP, hB⟩
                case rest =>
                  as_aux_lemma =>
                  clear hP hB hPl
                  obtain ⟨P, vo, rfl, hPl, hP, hB⟩ := hcut
                  go_wp2_with (fail)
                  go_roundg (3 - (n + 1))
                  case measure => omega
                  case rel => exact ⟨n + 1, k + 1, P, vo, rfl, by go_num, by go_num, by omega, Nat.le_refl _, by omega, hPl, hP, hB⟩
            · have hk1 : ¬ (k : Int) < (l.length : Int) := by omega
              go_wp2
              go_meet
              exact ⟨k, P, vo, rfl, rfl, hk, by omega, hP, hB⟩
          · have hn0 : ¬ (n : Int) < 3 := by omega
            go_wp2
            go_meet
            exact ⟨k, P, vo, rfl, rfl, hk, by omega, hP, hB⟩
      case rest =>
        as_aux_lemma =>
        clear hP hB hPl hk
        obtain ⟨k, P, vo, rfl, rfl, hk, hPl, hP, hB⟩ := hcut
        go_upto_if 109 with (fail)
        go_cut [8] (fun v8 wc => ∃ (P' : List S31) (ck' : Int) (v' : Value), v' = v8 ∧ P'.length ≤ 3 * i + 3 ∧ Aside0 (PW W.heap.size wc B ck' v' P') ∧ Aside0 (Below W.heap.size W wc))
        case first =>
          as_aux_lemma =>
          obtain ⟨ad2, e2, hcell⟩ := HRd.out.2.2 (by omega)
          subst e2
          have hci := hcell i hlt.1
          obtain ⟨x, hx⟩ : ∃ x, L2.getD i 0 = x := ⟨_, rfl⟩
          rw [hx] at hci
          have hux : U x := by
            rw [← hx, List.getD_eq_getElem?_getD, List.getElem?_eq_getElem hlt.1]
            exact HC2.out.2 _ (List.getElem_mem hlt.1)
          have HUX := Aside0.mk hux
          have hcx : Aside0 (∀ w, Below W.heap.size W w → w.cell? (ad2.add i) = some (.int .u64 x)) := ⟨fun w hb => (hb.cell (World.block_lt_of_cell? W _ hci)).trans hci⟩
          have q0 := hcx.out wc hB.out
          clear hcell hci hx hux hlt
          by_cases h3 : (i : Int) % 3 = 2
          · have hpop := Aside0.mk (pop_J hP.out.wj HUX.out (by omega))
            go_upto_region 27 with (go_at_call 39; refine hpop.out.mono ?_; rintro e w2 ⟨y, more, cur, L', rfl, hg, hJ2, hf2⟩)
            have g2 := blk_new w2 (.cells #[.int .i64 y.f0, .int .u64 y.f1] 31)
            have d2 := below_alloc (Below.refl w2.heap.size w2) (.cells #[.int .i64 y.f0, .int .u64 y.f1] 31)
            have hB2 := hB.out.trans (hf2.below (Nat.le_trans hB.out.size (Nat.le_refl _)) (fun k hk => hk.1))
            have hR2 := R_fw hP.out.row hf2
            have hB3 := Aside0.mk (below_step hB2 d2)
            have hR3 := Aside0.mk (Kd.R_below hR2 d2)
            have hJ3 := Aside0.mk (hJ2.out.step d2)
            clear hB2 hR2 d2 hf2 hJ2 q0 hpop
            generalize w2.alloc (.cells #[.int .i64 y.f0, .int .u64 y.f1] 31) = w3 at g2 hB3 hR3 hJ3 ⊢
            generalize w2.heap.size = g at g2 ⊢
            have G := Aside0.mk g2
            have q0 := hcx.out w3 hB3.out
            obtain ⟨A, c, rfl, hc, hC⟩ := Kd.R_reads hR3.out
            have hsp := Aside0.mk (plan_Split.calls (0 + P.length + 1) A c P x _ _ w3 hC hc (split P x (by omega) 0))
            have HC3 := Aside0.mk (And.intro hC hc)
            clear hC hc g2
            go_upto_region 28 with (go_at_call 55; refine hsp.out.mono ?_; rintro e w4 ⟨v0, v1, rfl, hR0, hR1, hb4⟩)
            obtain ⟨A0, c0, rfl, hc0, hC0⟩ := Kd.R_reads hR0
            obtain ⟨A5, c5, rfl, _, _⟩ := Kd.R_reads hR1
            have hB4 := Aside0.mk (below_step hB3.out hb4)
            have hJ4 := Aside0.mk (hJ3.out.step hb4)
            have hR4 := Aside0.mk (Kd.R_below hR3.out hb4)
            have G4 := Aside0.mk (blk_below G.out hb4)
            have HC0 := Aside0.mk hC0
            have hOw := Aside0.mk hP.out.own
            have hgd := Aside0.mk hP.out.gd
            have hok := Aside0.mk hP.out.ok
            clear hsp hR0 hR1 hb4 hc0 hC0 G hB3 hJ3 hR3 HC3 q0 hP hB
            have hsc := hg.out
            rcases hsc with ⟨y, L', e1, e2⟩ | e1
            · rw [psort_gd hgd.out] at e1
              subst e1
              have hf0 : (y :: L').filter (le x) = y :: L'.filter (le x) := List.filter_cons_of_pos (by unfold le; simpa using e2)
              obtain ⟨E, hE⟩ : ∃ E, (y :: L').filter (le x) = E := ⟨_, rfl⟩
              rw [hE] at hf0 HC0 ⊢
              have hEn : 0 < E.length := by rw [hf0]; simp
              obtain ⟨ad, e3, x0, x1⟩ := at_T31 HC0.out 0 (by omega) (by omega)
              rw [show rd_T31 E 0 = y by rw [hf0]; rfl] at x0 x1
              subst e3
              replace x0 : w4.cell? ad = some (.int .i64 y.f0) := x0
              replace x1 : w4.cell? ⟨ad.block, ad.off + 1, none⟩ = some (.int .u64 y.f1) := x1
              have z0 : w4.cell? ⟨g, 0, none⟩ = some (.int .i64 y.f0) := (blk_cell G4.out 0).trans rfl
              have z1 : w4.cell? ⟨g, 1, none⟩ = some (.int .u64 y.f1) := (blk_cell G4.out 1).trans rfl
              have hEi : (0 : Int) < (E.length : Int) := by omega
              have hdec : decide ((0 : Int) < (E.length : Int)) = true := decide_eq_true hEi
              have hdec2 : decide (0 < E.length) = true := decide_eq_true hEn
              clear hf0 hE e2 hg
              go_quiet (fail)
              have hbq := pw_below_drewN (Below.refl w4.heap.size w4) nq
              have hJ5 := Aside0.mk (hJ4.out.step hbq)
              have hR5 := Aside0.mk (Kd.R_below hR4.out hbq)
              have hB5 := Aside0.mk (below_step hB4.out hbq)
              replace z0 : (w4.drewN nq).cell? ⟨g, 0, none⟩ = some (.int .i64 y.f0) := z0
              clear x0 x1 z1 hbq hJ4 hR4 hB4 G4 HC0
              generalize w4.drewN nq = w5 at z0 hJ5 hR5 hB5 ⊢
              obtain ⟨A', c', he, hc', hC'⟩ := Kd.R_reads hR5.out
              injection he with q1 _ q2
              subst q1 q2
              have hrm := rm_head hgd.out.1
              have hcl := plan_Cancel.calls A c (y :: L') y.f0 _ _ w5 hC' hc' (can_yes hok.out (by omega) hgd.out (List.mem_cons_self ..)) (Nat.zero_le _)
              rw [hrm] at hcl
              have hg2 := Aside0.mk (gd_rm hgd.out y.f0)
              rw [hrm] at hg2
              have HCL := Aside0.mk hcl
              have hl5 : L'.length ≤ 3 * i + 3 := by rw [List.length_cons] at hPl; omega
              clear hrm hcl hC' hc' hgd hok
              go_wp2_with (go_at_call 54; refine HCL.out.mono ?_; rintro e w6 ⟨v6, rfl, hR6, hb6⟩)
              go_meet
              exact ⟨L', y.f1, v6, rfl, hl5, ⟨PW.row2 hJ5.out hOw.out hb6 hR6 (List.Perm.refl _) hg2.out⟩, ⟨below_step hB5.out hb6⟩⟩
            · have hf0 : P.filter (le x) = [] := List.filter_eq_nil_iff.2 (fun d hd => by
                have h5 := e1 d hd
                have h6 : ¬ d.f1 ≤ x := by omega
                unfold le
                simpa using h6)
              have hn0 : (P.filter (le x)).length = 0 := by rw [hf0]; rfl
              obtain ⟨n, hn⟩ : ∃ n, (P.filter (le x)).length = n := ⟨_, rfl⟩
              rw [hn] at hn0 ⊢
              subst hn0
              clear hf0 hn hg e1 HC0
              go_quiet (fail)
              have hbq := pw_below_drewN (Below.refl w4.heap.size w4) nq
              have hJ5 := Aside0.mk (hJ4.out.step hbq)
              have hR5 := Aside0.mk (Kd.R_below hR4.out hbq)
              have hB5 := Aside0.mk (below_step hB4.out hbq)
              clear hbq
              go_wp2_with (fail)
              go_meet
              exact ⟨P, _, _, rfl, hPl, ⟨⟨hJ5.out, hgd.out, hR5.out⟩⟩, hB5⟩
          · have h31 : ((i : Int) % 3 == 2) = false := beq_eq_false_iff_ne.mpr h3
            have hun := hP.out.wj.tt.un
            by_cases ho : ck + x < 18446744073709551616
            · obtain ⟨t, ht⟩ : ∃ t, ck + x = t := ⟨_, rfl⟩
              have hut : U t := by
                have h6 := HUX.out
                unfold U at *
                omega
              have hadv := Aside0.mk (adv_J hP.out.wj (by omega) HUX.out ht hut)
              have hun := Aside0.mk hun
              clear ho ht hut
              go_upto_region 33 with (go_at_call 32; refine hadv.out.mono ?_; rintro e w2 ⟨v2, rfl, hg⟩)
              obtain ⟨hR2, hJ2, hf2⟩ := hg.out
              have hB2 := Aside0.mk (hB.out.trans (hf2.below (Nat.le_trans hB.out.size (Nat.le_refl _)) (fun k hk => hk.1)))
              have hRp := Aside0.mk (R_fw hP.out.row hf2)
              have hJ2' := Aside0.mk (hJ2.sub (Y := fun k => vo.ownBlock = some k) (fun k hk => .inl hk))
              have hgd := Aside0.mk hP.out.gd
              have hOw := Aside0.mk hP.out.own
              obtain ⟨s1, s2⟩ := gd_split hP.out.gd t
              rw [s1] at hR2
              rw [s2] at hJ2'
              have hR2 := Aside0.mk hR2
              clear hJ2 hf2 hg hadv q0 hP hB s1 s2
              go_upto_region 34 with (fail)
              obtain ⟨A, c, rfl, hc, hC⟩ := Kd.R_reads hRp.out
              have HCp := Aside0.mk (And.intro hC hc)
              have hsp := Aside0.mk (fun w3 (hb : Below w2.heap.size w2 w3) => plan_Split.calls (0 + P.length + 1) A c P t _ _ w3 (Kd.C_below HCp.out.1 hb) HCp.out.2 (split P t (by omega) 0))
              have hnow := Aside0.mk (now_J hJ2'.out)
              clear hc hC
              go_upto_region 35 with (first
                | (go_at_call 34; refine hnow.out.mono ?_; rintro e w3 ⟨rfl, hb3⟩)
                | (go_at_call 55; refine (hsp.out w3 hb3).mono ?_; rintro e w4 ⟨v3, v4, rfl, hR3, hR4, hb4⟩))
              have hb24 := Aside0.mk (below_step hb3 hb4)
              have hP4 := Aside0.mk (PW.row2 hJ2'.out hOw.out hb24.out (Kd.R_lower hR4 hb3.size) (List.Perm.refl _) (gd_rest hgd.out t))
              have hdu := Aside0.mk (dues_calls (Kd.R_below hR2.out hb24.out) hR3 (by have := List.length_filter_le (le t) P; omega))
              have hl4 : (P.filter (gt t)).length ≤ 3 * i + 3 := Nat.le_trans (List.length_filter_le _ _) hPl
              have hB4 := Aside0.mk (below_step hB2.out hb24.out)
              obtain ⟨Q, hQ⟩ : ∃ Q, P.filter (gt t) = Q := ⟨_, rfl⟩
              rw [hQ] at hl4 hP4
              clear hQ hR3 hR4 hb3 hb4 hnow hsp
              go_wp2_with (go_at_call 19; refine hdu.out.mono ?_; rintro e w5 ⟨rfl, hb5⟩)
              go_meet
              exact ⟨Q, t, _, rfl, hl4, ⟨hP4.out.step hb5⟩, ⟨below_step hB4.out hb5⟩⟩
            · have hadv := Aside0.mk (advo_J hP.out.wj HUX.out ho)
              clear ho hun
              go_wp2_with (go_at_call 32; refine hadv.out.mono ?_; rintro e w2 ⟨rfl, hb2⟩)
              go_meet
              exact ⟨P, ck, vo, rfl, hPl, ⟨hP.out.step hb2⟩, ⟨below_step hB.out hb2⟩⟩
        case rest =>
          as_aux_lemma =>
          clear hP hB hPl
          obtain ⟨P, ck', vo, rfl, hPl, hP, hB⟩ := hcut
          obtain ⟨A, c, rfl, hc, hC⟩ := Kd.R_reads hP.out.row
          have hlen := Aside0.mk (Wh.len_J hP.out.wj)
          clear hc hC
          go_wp2_with (go_at_call 37; refine hlen.out.mono ?_; rintro e w2 ⟨rfl, b2⟩)
          go_roundg (40 - (i + 1))
          case measure => omega
          case rel => exact ⟨i + 1, k, P, ck', _, rfl, rfl, by go_num, by omega, Nat.le_refl _, hk, by omega, ⟨hP.out.step b2⟩, ⟨below_step hB.out b2⟩⟩
    · have hw7 := Aside0.mk (wakes7 wr)
      have hbw := Aside0.mk hB.out
      by_cases h1 : i < L2.length
      · have hi1 : (i : Int) < (L2.length : Int) := by omega
        have hi2 : ¬ (i : Int) < 40 := by omega
        go_wp2_with (go_at_call 56; refine hw7.out.mono ?_; rintro e w7 ⟨rfl, d7⟩)
        go_ret
        exact ⟨rfl, below_step hbw.out d7⟩
      · have hi1 : ¬ (i : Int) < (L2.length : Int) := by omega
        go_wp2_with (go_at_call 56; refine hw7.out.mono ?_; rintro e w7 ⟨rfl, d7⟩)
        go_ret
        exact ⟨rfl, below_step hbw.out d7⟩
end Go.Proofs.YtedolmjealgeoaaDoor.Pn
