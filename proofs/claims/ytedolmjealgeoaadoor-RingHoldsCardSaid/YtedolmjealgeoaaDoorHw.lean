/- RingHolds' walk. Conditions: the table's cells; the rows read. -/
import Derived.Test.YtedolmjealgeoaaDoorHd
import Derived.Deep.DeepCutAuto
import Derived.Deep.CutBlock
set_option linter.unusedVariables false
namespace Go.Proofs.YtedolmjealgeoaaDoor.Rg
open Go.RowKit Go.Maps Go.Proofs.YtedolmjealgeoaaDoor.PBase Go.Proofs.YtedolmjealgeoaaDoor.Tz Go.Proofs.YtedolmjealgeoaaDoor.Cat Go.Proofs.YtedolmjealgeoaaDoorW.PrintWords Go.Proofs.YtedolmjealgeoaaDoorW.PrintLast Go.Proofs.YtedolmjealgeoaaDoorW.PrintMore
theorem Fr.tab {W w : World} {N : Nat} (h : Fr (fun k => N ≤ k) W w) (hN : 0 < N) (hT : TabOk W) (hb : N = W.heap.size) : TabOk w := fun j hj => h.cell (hT j hj) (by show ¬ N ≤ 0; omega)
theorem LB {w w' : World} (h : Below w.heap.size w w') : Below w.heap.size w w' := h
theorem tab_pos {W : World} (hT : TabOk W) : 0 < W.heap.size := World.block_lt_of_cell? W _ (hT 0 (by decide))
theorem Fr.rd {N : Nat} {W w : World} (h : Fr (fun k => N ≤ k) W w) {a : Addr} {v : Value} (hc : W.cell? a = some v) (hN : W.heap.size ≤ N) : w.cell? a = some v := h.cell hc (by have := World.block_lt_of_cell? W a hc; show ¬ N ≤ a.block; omega)
set_option maxHeartbeats 4000000 in
set_option maxRecDepth 100000 in
theorem holds_walk (W : World) (hT : TabOk W) (A0 : Option Addr) (c : Nat) (A : List S33) (fr : Int) (f0 : Nat) (hfr : (wrap64 fr).tmod 64 = (f0 : Int)) (hf64 : f0 < 64) (hr : Kd.C k33 W A0 A.length A) (hA : A5ok A) :
    Calls Tryd.prog 4 #[.slice A0 A.length c, .int .u8 fr] W fun e w' => e = .returned (.bool true) ∧ Below W.heap.size W w' := by
  have HR := Aside0.mk hr
  have HA := Aside0.mk hA
  have HT := Aside0.mk hT
  have HF := Aside0.mk hfr
  clear hr hA hT hfr
  go_enter Tryd.func4, Tryd.ntmps4
  go_upto_block 0 with (go_at_call 13; refine (new_J _).mono ?_; rintro e w1 ⟨R, rfl, hJ, hb1⟩)
  have hJ1 := Aside0.mk hJ
  have hF1 : Aside0 (Fr (fun k => W.heap.size ≤ k) W w1) := ⟨Fr.of_b0 hb1⟩
  clear hJ hb1
  go_cut [6] (fun v6 wc => ∃ n : Nat, v6 = .int .i64 n ∧ n ≤ 60 ∧ n ≤ A.length ∧ Aside0 (RJ W.heap.size (fun _ => False) wc R (TH A n)) ∧ Aside0 (Fr (fun k => W.heap.size ≤ k) W wc))
  case first =>
    as_aux_lemma =>
    go_wp2_with (fail)
    go_loopg [6, 7] 60 (fun gg v6 v7 wr => ∃ i : Nat, v6 = .int .i64 i ∧ v7 = .int .i64 i ∧ i ≤ 60 ∧ i ≤ A.length ∧ 60 - i ≤ gg ∧ Aside0 (RJ W.heap.size (fun _ => False) wr R (TH A i)) ∧ Aside0 (Fr (fun k => W.heap.size ≤ k) W wr))
    case atStart => exact ⟨0, rfl, rfl, by omega, by omega, by omega, hJ1, hF1⟩
    case round =>
      obtain ⟨i, rfl, rfl, hi1, hi2, hgg, hJ, hF⟩ := hrel
      clear hJ1 hF1
      by_cases hi : i < A.length ∧ i < 60
      · have hj1 : (i : Int) < (A.length : Int) := by omega
        have hj2 : (i : Int) < 60 := by omega
        obtain ⟨ad, e1, _, hx1, _, hx3⟩ := at_T33 HR.out (i : Int) (by omega) hj1
        subst e1
        rw [Int.toNat_natCast] at hx1 hx3
        replace hx1 := hF.out.rd hx1 (Nat.le_refl _)
        replace hx3 := hF.out.rd hx3 (Nat.le_refl _)
        obtain ⟨x, hx⟩ : ∃ x, rd_T33 A (i : Int) = x := ⟨_, rfl⟩
        rw [hx] at hx1 hx3
        obtain ⟨k, hk⟩ : ∃ k, md 64 x.f1 = k := ⟨_, rfl⟩
        have htk : tk A i = ⟨k, ⟨(i : Int), x.f2.f1⟩⟩ := by unfold tk; rw [hx, hk]
        have hp := TH_put A i
        have hTH : TH A (i + 1) = tk A i :: TH A i := rfl
        rw [htk] at hp hTH
        have hp := Aside0.mk hp
        have hTH := Aside0.mk hTH
        have hk := Aside0.mk hk
        have hln : (TH A i).length ≤ 100000 := by rw [TH_len]; omega
        have hwi := Aside0.mk (wf_small (x := (i : Int)) (by omega) (by omega))
        have hbD := Aside0.mk (below_drew1 (Below.refl wr.heap.size wr))
        have kp : Aside0 (∀ w', Fr (fun k => W.heap.size ≤ k) wr w' → w'.cell? ⟨(ad.add (i * 4)).block, (ad.add (i * 4)).off + 1, none⟩ = some (.int .i64 x.f1) ∧ w'.cell? ⟨(ad.add (i * 4)).block, (ad.add (i * 4)).off + 3, none⟩ = some (.int .u64 x.f2.f1)) := ⟨fun w' hf => by
          have hlt : (ad.add (i * 4)).block < W.heap.size := by
            obtain ⟨ad', e2, _, g1, _⟩ := at_T33 HR.out (i : Int) (by omega) hj1
            cases e2
            have := World.block_lt_of_cell? W _ g1
            rw [Int.toNat_natCast] at this
            exact this
          exact ⟨hf.cell hx1 (fun h => by have h2 : W.heap.size ≤ (ad.add (i * 4)).block := h; omega), hf.cell hx3 (fun h => by have h2 : W.heap.size ≤ (ad.add (i * 4)).block := h; omega)⟩⟩
        clear hx htk hx1 hx3
        go_wp2
        go_region_held3 (fun w' => w'.cell? ⟨(ad.add (i * 4)).block, (ad.add (i * 4)).off + 1, none⟩ = some (.int .i64 x.f1) ∧ w'.cell? ⟨(ad.add (i * 4)).block, (ad.add (i * 4)).off + 3, none⟩ = some (.int .u64 x.f2.f1)) (first | exact kp.out _ (Fr.of_below hbD.out) | exact kp.out _ ((Fr.of_below hbD.out).trans (Fr.of_b0 hb5)) | exact kp.out _ (((Fr.of_below hbD.out).trans (Fr.of_b0 hb5)).trans hf6.b0)) ((first | (go_at_call 14; refine (md_calls 64 x.f1 k _ (by decide) (by decide) hk.out).mono ?_; rintro e w5 ⟨rfl, hb5⟩) | (go_at_call 15; have hT := put_J ((hJ.out.step hbD.out).step hb5) k ⟨(i : Int), x.f2.f1⟩ hwi.out hln true hp.out _ rfl; refine hT.mono ?_; clear hT; rintro e w6 ⟨rfl, hJ6, hf6⟩)))
        have hF6 := Aside0.mk (((hF.out.trans (Fr.of_below hbD.out)).trans (Fr.of_b0 hb5)).trans hf6.b0)
        replace hJ6 : Aside0 (RJ W.heap.size (fun _ => False) w6 R (TH A (i + 1))) := ⟨by rw [hTH.out]; exact hJ6⟩
        clear hb5 hf6 kp hbD hJ hF
        go_wp2
        go_roundg (60 - (i + 1))
        case measure => omega
        case rel => exact ⟨i + 1, by go_num, by go_num, by omega, by omega, Nat.le_refl _, hJ6, hF6⟩
      · by_cases hj1 : (i : Int) < (A.length : Int)
        · have hj2 : ¬ (i : Int) < 60 := by omega
          go_wp2_with (fail)
          go_meet
          exact ⟨i, rfl, hi1, hi2, hJ, hF⟩
        · go_wp2_with (fail)
          go_meet
          exact ⟨i, rfl, hi1, hi2, hJ, hF⟩
  case rest =>
    as_aux_lemma =>
    obtain ⟨n, rfl, hn1, hn2, hJ, hF⟩ := hcut
    clear hJ1 hF1
    have hl0 : (TH A n).length = n := TH_len A n
    have hHF := HF.out
    go_upto_block 2 with (go_at_call 25; have hT := len_J hJ.out; rw [hl0] at hT; refine hT.mono ?_; clear hT; rintro e w2 ⟨rfl, hb2⟩)
    have hJ2 := Aside0.mk (hJ.out.step hb2)
    have hF2 := Aside0.mk (hF.out.trans (Fr.of_b0 hb2))
    clear hJ hF hb2
    go_cut [8] (fun v8 wc => ∃ a : Nat, v8 = .int .i64 a ∧ Aside0 (RJ W.heap.size (fun _ => False) wc R []) ∧ Aside0 (Fr (fun k => W.heap.size ≤ k) W wc))
    case first =>
      as_aux_lemma =>
      go_wp2_with (fail)
      go_loopg [6, 8] 60 (fun gg v6 v8 wr => ∃ (m a : Nat) (U : List S114), v6 = .int .i64 m ∧ v8 = .int .i64 a ∧ a < 64 ∧ U.length = m ∧ m ≤ gg ∧ m ≤ 60 ∧ Aside0 (∀ l ∈ U, l ∈ TH A n) ∧ Aside0 (RJ W.heap.size (fun _ => False) wr R U) ∧ Aside0 (Fr (fun k => W.heap.size ≤ k) W wr))
      case atStart => exact ⟨n, f0, TH A n, rfl, rfl, hf64, hl0, by omega, by omega, ⟨fun l h => h⟩, hJ2, hF2⟩
      case round =>
        obtain ⟨m, a, U, rfl, rfl, ha, hUm, hmg, hm60, hsub, hJ, hF⟩ := hrel
        clear hJ2 hF2 hHF hl0
        by_cases hm : 0 < m
        · have hmz : (0 : Int) < (m : Int) := by omega
          have hUne : U ≠ [] := fun e => by rw [e] at hUm; simp at hUm; omega
          go_upto_region 18 with (first
            | (go_at_call 26; have hT := first_J hJ.out (hF.out.tab (tab_pos HT.out) HT.out rfl) (a : Int); refine hT.mono ?_; clear hT; rintro e w3 ⟨fu, r, rfl, hU, hh, hi, hb3⟩; obtain ⟨j, hj⟩ := hs_some hJ.out.pt hh hUne; obtain ⟨hr2, hr0, hr64, hrs⟩ := round_some ⟨by omega, by omega⟩ hi hj; obtain ⟨r1, r2⟩ := r; simp only at hr2 hr0 hr64 hrs; subst hr2; clear hi hj))
          have hlst : lst U r1 = psort (atS U r1) := if_pos ⟨hr0, hr64⟩
          obtain ⟨L, hL⟩ : ∃ L, lst U r1 = L := ⟨_, rfl⟩
          have hTD : Aside0 (TD A n r1 L) := ⟨by rw [← hL, hlst]; exact TD.of_at hJ.out.pt hsub.out r1⟩
          have hLl : (takeT U r1).length + L.length = m := by rw [← hL, hlst, take_len, hUm]
          have hL0 : 0 < L.length := by
            have h1 := hh r1.toNat (by omega)
            rw [show ((r1.toNat : Nat) : Int) = r1 by omega, hrs] at h1
            have h2 : atS U r1 ≠ [] := of_decide_eq_true h1.symm
            rw [← hL, hlst, psort_len]
            exact List.length_pos_iff.2 h2
          have hL := Aside0.mk hL
          have hLz : ((L.length : Int) == 0) = false := beq_eq_false_iff_ne.2 (by omega)
          have hLz2 : ¬ (L.length : Int) = 0 := by omega
          have hLz3 : ¬ L.length = 0 := by omega
          have hLz4 : L ≠ [] := fun e => by rw [e] at hL0; exact absurd hL0 (by decide)
          have hJ3 := Aside0.mk (hJ.out.step hb3)
          have hF3 := Aside0.mk (hF.out.trans (Fr.of_b0 hb3))
          have hptU := Aside0.mk hJ.out.pt
          clear hlst hh hrs hU hJ hF hb3 hUne
          go_upto_block 4 with (go_at_call 20; have hT := take_J hJ3.out r1 (by omega); rw [hL.out] at hT; refine hT.mono ?_; clear hT; rintro e w4 ⟨v, rfl, hT⟩; obtain ⟨A4, c4, rfl⟩ := Kd.R_slice hT.out.1)
          have hT2 := Aside0.mk hT.out.2.2
          have hJ4 := Aside0.mk hT.out.2.1
          have hV4 := Aside0.mk hT.out.1
          clear hT
          have hcell : Aside0 (∀ (q : Nat), q < A.length → ∀ w', Fr (fun k => W.heap.size ≤ k) W w' → w'.cell? ⟨((A0.getD default).add (q * 4)).block, ((A0.getD default).add (q * 4)).off + 1, none⟩ = some (.int .i64 (rd_T33 A q).f1) ∧ w'.cell? ⟨((A0.getD default).add (q * 4)).block, ((A0.getD default).add (q * 4)).off + 3, none⟩ = some (.int .u64 (rd_T33 A q).f2.f1)) := ⟨fun q hq w' hf => by
            obtain ⟨ad', e2, _, g1, _, g3⟩ := at_T33 HR.out (q : Int) (by omega) (by omega)
            cases e2
            rw [Int.toNat_natCast] at g1 g3
            exact ⟨hf.rd g1 (Nat.le_refl _), hf.rd g3 (Nat.le_refl _)⟩⟩
          have hAs : 0 < A.length → A0 = some (A0.getD default) := fun h => by
            obtain ⟨ad', e2, _⟩ := at_T33 HR.out 0 (by omega) (by omega)
            rw [e2]
            rfl
          have hA0 : A0 = some (A0.getD default) := hAs (by obtain ⟨q, hq, _⟩ := hTD.out.of L[0] (List.getElem_mem hL0); omega)
          clear hAs
          obtain ⟨ad, had⟩ : ∃ ad, A0.getD default = ad := ⟨_, rfl⟩
          rw [had] at hcell hA0
          subst hA0
          clear had
          go_cut [] (fun wx => Aside0 (Below w4.heap.size w4 wx))
          case first =>
            as_aux_lemma =>
            go_wp2_with (fail)
            go_loopg [12] L.length (fun gg v12 wx => ∃ i : Nat, v12 = .int .i64 i ∧ i ≤ L.length ∧ L.length - i ≤ gg ∧ Aside0 (Below w4.heap.size w4 wx))
            case atStart => exact ⟨0, rfl, by omega, by omega, ⟨Below.refl _ _⟩⟩
            case round =>
              obtain ⟨i, rfl, hi, hgg2, hB⟩ := hrel
              by_cases hlt : i < L.length
              · have hltz : (i : Int) < (L.length : Int) := by omega
                obtain ⟨q, hq, hd, hk⟩ := hTD.out.of L[i] (List.getElem_mem hlt)
                obtain ⟨a4, e1, x0, x1⟩ := at_T31 (Kd.R_reads' (Kd.R_below hV4.out hB.out)).2.2 (i : Int) (by omega) hltz
                subst e1
                rw [Int.toNat_natCast, rd_nat L i hlt, hd] at x0 x1
                obtain ⟨y, hy⟩ : ∃ y, rd_T33 A (q : Int) = y := ⟨_, rfl⟩
                unfold tk at hk x0 x1
                rw [hy] at hk x0 x1
                replace x0 : wr.cell? (a4.add (i * 2)) = some (.int .i64 q) := x0
                replace x1 : wr.cell? ⟨(a4.add (i * 2)).block, (a4.add (i * 2)).off + 1, none⟩ = some (.int .u64 y.f2.f1) := x1
                have hmd : Aside0 (md 64 y.f1 = r1) := ⟨hk⟩
                have hdq := Aside0.mk hd
                have hq1 : (q : Int) < (A.length : Int) := by omega
                have hq2 : ¬ (q : Int) < 0 := by omega
                have hq3 : (0 : Int) ≤ (q : Int) := by omega
                have hq4 : q < A.length := by omega
                have hq5 : ¬ (A.length : Int) ≤ (q : Int) := by omega
                have hy := Aside0.mk hy
                clear hk hd
                have hFr := Aside0.mk (((hF3.out.trans hT2.out.b0).trans (Fr.of_b0 hB.out)).trans (Fr.alloc wr (.cells #[.int .i64 q, .int .u64 y.f2.f1] 31)))
                have hbx := Aside0.mk (blk_new wr (.cells #[.int .i64 q, .int .u64 y.f2.f1] 31))
                have hBx := Aside0.mk (below_alloc hB.out (.cells #[.int .i64 q, .int .u64 y.f2.f1] 31))
                have hx0 := x0
                have hx1 := x1
                go_wp2
                generalize wr.alloc (.cells #[.int .i64 q, .int .u64 y.f2.f1] 31) = wa at hFr hbx hBx ⊢
                generalize wr.heap.size = X at hbx ⊢
                clear x0 x1 hx0 hx1
                have kp : Aside0 (∀ w', Below wa.heap.size wa w' → w'.cell? ⟨X, 0, none⟩ = some (.int .i64 q) ∧ w'.cell? ⟨X, 1, none⟩ = some (.int .u64 y.f2.f1) ∧ w'.cell? ⟨(ad.add (q * 4)).block, (ad.add (q * 4)).off + 1, none⟩ = some (.int .i64 y.f1) ∧ w'.cell? ⟨(ad.add (q * 4)).block, (ad.add (q * 4)).off + 3, none⟩ = some (.int .u64 y.f2.f1)) := ⟨fun w' hb => by
                  have g := blk_below hbx.out hb
                  obtain ⟨g1, g2⟩ := hcell.out q hq4 w' (hFr.out.trans (Fr.of_below hb))
                  rw [hy.out] at g1 g2
                  exact ⟨(blk_cell g 0).trans rfl, (blk_cell g 1).trans rfl, g1, g2⟩⟩
                have hbD := Aside0.mk (below_drew1 (Below.refl wa.heap.size wa))
                have hq6 : decide ((q : Int) < 0) = false := decide_eq_false (by omega)
                have hq7 : decide ((A.length : Int) ≤ (q : Int)) = false := decide_eq_false (by omega)
                have hq8 : decide (A.length ≤ q) = false := decide_eq_false (by omega)
                rcases Nat.eq_zero_or_pos i with hi0 | hi0
                · subst hi0
                  refine start_ (n := 47) (S := fun w' => w'.cell? ⟨X, 0, none⟩ = some (.int .i64 q) ∧ w'.cell? ⟨X, 1, none⟩ = some (.int .u64 y.f2.f1) ∧ w'.cell? ⟨(ad.add (q * 4)).block, (ad.add (q * 4)).off + 1, none⟩ = some (.int .i64 y.f1) ∧ w'.cell? ⟨(ad.add (q * 4)).block, (ad.add (q * 4)).off + 3, none⟩ = some (.int .u64 y.f2.f1)) (ds := []) #[false, false, false, false, false, false, false, false, false, false, false, false, false, false, false, false, false, false, false, false, false, false, false, false, false, false, false, false, false, false, false, false, false, false, false, false, false, false, false, false, false, false, false, false, false, false, false] (by kernel_rfl) rfl rfl (kp.out _ hbD.out) (fun hHeld => ?_)
                  refine pure_ (i := 0) (N := some 81) (v := ?_) (a' := ?_) #[true, false, false, false, false, false, false, false, false, false, false, false, false, false, false, false, false, false, false, false, false, false, false, false, false, false, false, false, false, false, false, false, false, false, false, false, false, false, false, false, false, false, false, false, false, false, false] rfl rfl (by kernel_rfl) (fun _ _ _ h => h) (Or.inl ⟨by rfl, ?_⟩) ?_ ?_
                  rotate_left
                  · intro w'
                    go_simp
                    with_reducible rfl
                  rotate_left
                  · simp only [Act.put, List.setIfInBounds_toArray, List.set_cons_zero, List.set_cons_succ]
                    rfl
                  refine take_ (i := 1) (N := some 82) (v := ?_) (a' := ?_) #[true, true, false, false, false, false, false, false, false, false, false, false, false, false, false, false, false, false, false, false, false, false, false, false, false, false, false, false, false, false, false, false, false, false, false, false, false, false, false, false, false, false, false, false, false, false, false] rfl rfl (by kernel_rfl) (fun _ _ _ h => h) (Or.inl ⟨by rfl, ?_⟩) hHeld ?_ ?_
                  rotate_left
                  · rintro w' ⟨s0, s1, s2, s3⟩
                    go_simp
                    with_reducible rfl
                  rotate_left
                  · simp only [Act.put, List.setIfInBounds_toArray, List.set_cons_zero, List.set_cons_succ]
                    rfl
                  refine pure_ (i := 2) (N := some 83) (v := ?_) (a' := ?_) #[true, true, true, false, false, false, false, false, false, false, false, false, false, false, false, false, false, false, false, false, false, false, false, false, false, false, false, false, false, false, false, false, false, false, false, false, false, false, false, false, false, false, false, false, false, false, false] rfl rfl (by kernel_rfl) (fun _ _ _ h => h) (Or.inl ⟨by rfl, ?_⟩) ?_ ?_
                  rotate_left
                  · intro w'
                    go_simp
                    with_reducible rfl
                  rotate_left
                  · simp only [Act.put, List.setIfInBounds_toArray, List.set_cons_zero, List.set_cons_succ]
                    rfl
                  refine pure_ (i := 3) (N := some 84) (v := ?_) (a' := ?_) #[true, true, true, true, false, false, false, false, false, false, false, false, false, false, false, false, false, false, false, false, false, false, false, false, false, false, false, false, false, false, false, false, false, false, false, false, false, false, false, false, false, false, false, false, false, false, false] rfl rfl (by kernel_rfl) (fun _ _ _ h => h) (Or.inl ⟨by rfl, ?_⟩) ?_ ?_
                  rotate_left
                  · intro w'
                    go_simp
                    with_reducible rfl
                  rotate_left
                  · simp only [Act.put, List.setIfInBounds_toArray, List.set_cons_zero, List.set_cons_succ]
                    rfl
                  refine pure_ (i := 4) (N := some 85) (v := ?_) (a' := ?_) #[true, true, true, true, true, false, false, false, false, false, false, false, false, false, false, false, false, false, false, false, false, false, false, false, false, false, false, false, false, false, false, false, false, false, false, false, false, false, false, false, false, false, false, false, false, false, false] rfl rfl (by kernel_rfl) (fun _ _ _ h => h) (Or.inl ⟨by rfl, ?_⟩) ?_ ?_
                  rotate_left
                  · intro w'
                    go_simp
                    with_reducible rfl
                  rotate_left
                  · simp only [Act.put, List.setIfInBounds_toArray, List.set_cons_zero, List.set_cons_succ]
                    rfl
                  refine take_ (i := 5) (N := some 86) (v := ?_) (a' := ?_) #[true, true, true, true, true, true, false, false, false, false, false, false, false, false, false, false, false, false, false, false, false, false, false, false, false, false, false, false, false, false, false, false, false, false, false, false, false, false, false, false, false, false, false, false, false, false, false] rfl rfl (by kernel_rfl) (fun _ _ _ h => h) (Or.inl ⟨by rfl, ?_⟩) hHeld ?_ ?_
                  rotate_left
                  · rintro w' ⟨s0, s1, s2, s3⟩
                    go_simp
                    with_reducible rfl
                  rotate_left
                  · simp only [Act.put, List.setIfInBounds_toArray, List.set_cons_zero, List.set_cons_succ]
                    rfl
                  refine pure_ (i := 6) (N := some 87) (v := ?_) (a' := ?_) #[true, true, true, true, true, true, true, false, false, false, false, false, false, false, false, false, false, false, false, false, false, false, false, false, false, false, false, false, false, false, false, false, false, false, false, false, false, false, false, false, false, false, false, false, false, false, false] rfl rfl (by kernel_rfl) (fun _ _ _ h => h) (Or.inl ⟨by rfl, ?_⟩) ?_ ?_
                  rotate_left
                  · intro w'
                    go_simp
                    with_reducible rfl
                  rotate_left
                  · simp only [Act.put, List.setIfInBounds_toArray, List.set_cons_zero, List.set_cons_succ]
                    rfl
                  refine pure_ (i := 7) (N := some 88) (v := ?_) (a' := ?_) #[true, true, true, true, true, true, true, true, false, false, false, false, false, false, false, false, false, false, false, false, false, false, false, false, false, false, false, false, false, false, false, false, false, false, false, false, false, false, false, false, false, false, false, false, false, false, false] rfl rfl (by kernel_rfl) (fun _ _ _ h => h) (Or.inl ⟨by rfl, ?_⟩) ?_ ?_
                  rotate_left
                  · intro w'
                    go_simp
                    with_reducible rfl
                  rotate_left
                  · simp only [Act.put, List.setIfInBounds_toArray, List.set_cons_zero, List.set_cons_succ]
                    rfl
                  refine pure_ (i := 8) (N := some 89) (v := ?_) (a' := ?_) #[true, true, true, true, true, true, true, true, true, false, false, false, false, false, false, false, false, false, false, false, false, false, false, false, false, false, false, false, false, false, false, false, false, false, false, false, false, false, false, false, false, false, false, false, false, false, false] rfl rfl (by kernel_rfl) (fun _ _ _ h => h) (Or.inl ⟨by rfl, ?_⟩) ?_ ?_
                  rotate_left
                  · intro w'
                    go_simp
                    with_reducible rfl
                  rotate_left
                  · simp only [Act.put, List.setIfInBounds_toArray, List.set_cons_zero, List.set_cons_succ]
                    rfl
                  refine pure_ (i := 9) (N := some 90) (v := ?_) (a' := ?_) #[true, true, true, true, true, true, true, true, true, true, false, false, false, false, false, false, false, false, false, false, false, false, false, false, false, false, false, false, false, false, false, false, false, false, false, false, false, false, false, false, false, false, false, false, false, false, false] rfl rfl (by kernel_rfl) (fun _ _ _ h => h) (Or.inl ⟨by rfl, ?_⟩) ?_ ?_
                  rotate_left
                  · intro w'
                    go_simp
                    with_reducible rfl
                  rotate_left
                  · simp only [Act.put, List.setIfInBounds_toArray, List.set_cons_zero, List.set_cons_succ]
                    rfl
                  refine pure_ (i := 10) (N := some 91) (v := ?_) (a' := ?_) #[true, true, true, true, true, true, true, true, true, true, true, false, false, false, false, false, false, false, false, false, false, false, false, false, false, false, false, false, false, false, false, false, false, false, false, false, false, false, false, false, false, false, false, false, false, false, false] rfl rfl (by kernel_rfl) (fun _ _ _ h => h) (Or.inl ⟨by rfl, ?_⟩) ?_ ?_
                  rotate_left
                  · intro w'
                    go_simp
                    with_reducible rfl
                  rotate_left
                  · simp only [Act.put, List.setIfInBounds_toArray, List.set_cons_zero, List.set_cons_succ]
                    rfl
                  refine pure_ (i := 11) (N := some 92) (v := ?_) (a' := ?_) #[true, true, true, true, true, true, true, true, true, true, true, true, false, false, false, false, false, false, false, false, false, false, false, false, false, false, false, false, false, false, false, false, false, false, false, false, false, false, false, false, false, false, false, false, false, false, false] rfl rfl (by kernel_rfl) (fun _ _ _ h => h) (Or.inl ⟨by rfl, ?_⟩) ?_ ?_
                  rotate_left
                  · intro w'
                    go_simp
                    with_reducible rfl
                  rotate_left
                  · simp only [Act.put, List.setIfInBounds_toArray, List.set_cons_zero, List.set_cons_succ]
                    rfl
                  refine take_ (i := 12) (N := some 93) (v := ?_) (a' := ?_) #[true, true, true, true, true, true, true, true, true, true, true, true, true, false, false, false, false, false, false, false, false, false, false, false, false, false, false, false, false, false, false, false, false, false, false, false, false, false, false, false, false, false, false, false, false, false, false] rfl rfl (by kernel_rfl) (fun _ _ _ h => h) (Or.inl ⟨by rfl, ?_⟩) hHeld ?_ ?_
                  rotate_left
                  · rintro w' ⟨s0, s1, s2, s3⟩
                    go_simp
                    with_reducible rfl
                  rotate_left
                  · simp only [Act.put, List.setIfInBounds_toArray, List.set_cons_zero, List.set_cons_succ]
                    rfl
                  refine pure_ (i := 13) (N := some 94) (v := ?_) (a' := ?_) #[true, true, true, true, true, true, true, true, true, true, true, true, true, true, false, false, false, false, false, false, false, false, false, false, false, false, false, false, false, false, false, false, false, false, false, false, false, false, false, false, false, false, false, false, false, false, false] rfl rfl (by kernel_rfl) (fun _ _ _ h => h) (Or.inl ⟨by rfl, ?_⟩) ?_ ?_
                  rotate_left
                  · intro w'
                    go_simp
                    with_reducible rfl
                  rotate_left
                  · simp only [Act.put, List.setIfInBounds_toArray, List.set_cons_zero, List.set_cons_succ]
                    rfl
                  refine pure_ (i := 14) (N := some 95) (v := ?_) (a' := ?_) #[true, true, true, true, true, true, true, true, true, true, true, true, true, true, true, false, false, false, false, false, false, false, false, false, false, false, false, false, false, false, false, false, false, false, false, false, false, false, false, false, false, false, false, false, false, false, false] rfl rfl (by kernel_rfl) (fun _ _ _ h => h) (Or.inl ⟨by rfl, ?_⟩) ?_ ?_
                  rotate_left
                  · intro w'
                    go_simp
                    with_reducible rfl
                  rotate_left
                  · simp only [Act.put, List.setIfInBounds_toArray, List.set_cons_zero, List.set_cons_succ]
                    rfl
                  refine take_ (i := 15) (N := some 96) (v := ?_) (a' := ?_) #[true, true, true, true, true, true, true, true, true, true, true, true, true, true, true, true, false, false, false, false, false, false, false, false, false, false, false, false, false, false, false, false, false, false, false, false, false, false, false, false, false, false, false, false, false, false, false] rfl rfl (by kernel_rfl) (fun _ _ _ h => h) (Or.inl ⟨by rfl, ?_⟩) hHeld ?_ ?_
                  rotate_left
                  · rintro w' ⟨s0, s1, s2, s3⟩
                    go_simp
                    with_reducible rfl
                  rotate_left
                  · simp only [Act.put, List.setIfInBounds_toArray, List.set_cons_zero, List.set_cons_succ]
                    rfl
                  refine pure_ (i := 16) (N := some 97) (v := ?_) (a' := ?_) #[true, true, true, true, true, true, true, true, true, true, true, true, true, true, true, true, true, false, false, false, false, false, false, false, false, false, false, false, false, false, false, false, false, false, false, false, false, false, false, false, false, false, false, false, false, false, false] rfl rfl (by kernel_rfl) (fun _ _ _ h => h) (Or.inl ⟨by rfl, ?_⟩) ?_ ?_
                  rotate_left
                  · intro w'
                    go_simp
                    with_reducible rfl
                  rotate_left
                  · simp only [Act.put, List.setIfInBounds_toArray, List.set_cons_zero, List.set_cons_succ]
                    rfl
                  refine pure_ (i := 17) (N := some 98) (v := ?_) (a' := ?_) #[true, true, true, true, true, true, true, true, true, true, true, true, true, true, true, true, true, true, false, false, false, false, false, false, false, false, false, false, false, false, false, false, false, false, false, false, false, false, false, false, false, false, false, false, false, false, false] rfl rfl (by kernel_rfl) (fun _ _ _ h => h) (Or.inl ⟨by rfl, ?_⟩) ?_ ?_
                  rotate_left
                  · intro w'
                    go_simp
                    with_reducible rfl
                  rotate_left
                  · simp only [Act.put, List.setIfInBounds_toArray, List.set_cons_zero, List.set_cons_succ]
                    rfl
                  refine pure_ (i := 18) (N := some 99) (v := ?_) (a' := ?_) #[true, true, true, true, true, true, true, true, true, true, true, true, true, true, true, true, true, true, true, false, false, false, false, false, false, false, false, false, false, false, false, false, false, false, false, false, false, false, false, false, false, false, false, false, false, false, false] rfl rfl (by kernel_rfl) (fun _ _ _ h => h) (Or.inl ⟨by rfl, ?_⟩) ?_ ?_
                  rotate_left
                  · intro w'
                    go_simp
                    with_reducible rfl
                  rotate_left
                  · simp only [Act.put, List.setIfInBounds_toArray, List.set_cons_zero, List.set_cons_succ]
                    rfl
                  refine take_ (i := 19) (N := some 100) (v := ?_) (a' := ?_) #[true, true, true, true, true, true, true, true, true, true, true, true, true, true, true, true, true, true, true, true, false, false, false, false, false, false, false, false, false, false, false, false, false, false, false, false, false, false, false, false, false, false, false, false, false, false, false] rfl rfl (by kernel_rfl) (fun _ _ _ h => h) (Or.inl ⟨by rfl, ?_⟩) hHeld ?_ ?_
                  rotate_left
                  · rintro w' ⟨s0, s1, s2, s3⟩
                    go_simp
                    with_reducible rfl
                  rotate_left
                  · simp only [Act.put, List.setIfInBounds_toArray, List.set_cons_zero, List.set_cons_succ]
                    rfl
                  refine pure_ (i := 20) (N := some 101) (v := ?_) (a' := ?_) #[true, true, true, true, true, true, true, true, true, true, true, true, true, true, true, true, true, true, true, true, true, false, false, false, false, false, false, false, false, false, false, false, false, false, false, false, false, false, false, false, false, false, false, false, false, false, false] rfl rfl (by kernel_rfl) (fun _ _ _ h => h) (Or.inl ⟨by rfl, ?_⟩) ?_ ?_
                  rotate_left
                  · intro w'
                    go_simp
                    with_reducible rfl
                  rotate_left
                  · simp only [Act.put, List.setIfInBounds_toArray, List.set_cons_zero, List.set_cons_succ]
                    rfl
                  refine pure_ (i := 21) (N := some 102) (v := ?_) (a' := ?_) #[true, true, true, true, true, true, true, true, true, true, true, true, true, true, true, true, true, true, true, true, true, true, false, false, false, false, false, false, false, false, false, false, false, false, false, false, false, false, false, false, false, false, false, false, false, false, false] rfl rfl (by kernel_rfl) (fun _ _ _ h => h) (Or.inl ⟨by rfl, ?_⟩) ?_ ?_
                  rotate_left
                  · intro w'
                    go_simp
                    with_reducible rfl
                  rotate_left
                  · simp only [Act.put, List.setIfInBounds_toArray, List.set_cons_zero, List.set_cons_succ]
                    rfl
                  refine pure_ (i := 22) (N := some 103) (v := ?_) (a' := ?_) #[true, true, true, true, true, true, true, true, true, true, true, true, true, true, true, true, true, true, true, true, true, true, true, false, false, false, false, false, false, false, false, false, false, false, false, false, false, false, false, false, false, false, false, false, false, false, false] rfl rfl (by kernel_rfl) (fun _ _ _ h => h) (Or.inl ⟨by rfl, ?_⟩) ?_ ?_
                  rotate_left
                  · intro w'
                    go_simp
                    with_reducible rfl
                  rotate_left
                  · simp only [Act.put, List.setIfInBounds_toArray, List.set_cons_zero, List.set_cons_succ]
                    rfl
                  refine pure_ (i := 23) (N := some 104) (v := ?_) (a' := ?_) #[true, true, true, true, true, true, true, true, true, true, true, true, true, true, true, true, true, true, true, true, true, true, true, true, false, false, false, false, false, false, false, false, false, false, false, false, false, false, false, false, false, false, false, false, false, false, false] rfl rfl (by kernel_rfl) (fun _ _ _ h => h) (Or.inl ⟨by rfl, ?_⟩) ?_ ?_
                  rotate_left
                  · intro w'
                    go_simp
                    with_reducible rfl
                  rotate_left
                  · simp only [Act.put, List.setIfInBounds_toArray, List.set_cons_zero, List.set_cons_succ]
                    rfl
                  refine pure_ (i := 24) (N := some 105) (v := ?_) (a' := ?_) #[true, true, true, true, true, true, true, true, true, true, true, true, true, true, true, true, true, true, true, true, true, true, true, true, true, false, false, false, false, false, false, false, false, false, false, false, false, false, false, false, false, false, false, false, false, false, false] rfl rfl (by kernel_rfl) (fun _ _ _ h => h) (Or.inl ⟨by rfl, ?_⟩) ?_ ?_
                  rotate_left
                  · intro w'
                    go_simp
                    with_reducible rfl
                  rotate_left
                  · simp only [Act.put, List.setIfInBounds_toArray, List.set_cons_zero, List.set_cons_succ]
                    rfl
                  refine take_ (i := 25) (N := some 106) (v := ?_) (a' := ?_) #[true, true, true, true, true, true, true, true, true, true, true, true, true, true, true, true, true, true, true, true, true, true, true, true, true, true, false, false, false, false, false, false, false, false, false, false, false, false, false, false, false, false, false, false, false, false, false] rfl rfl (by kernel_rfl) (fun _ _ _ h => h) (Or.inl ⟨by rfl, ?_⟩) hHeld ?_ ?_
                  rotate_left
                  · rintro w' ⟨s0, s1, s2, s3⟩
                    go_simp
                    with_reducible rfl
                  rotate_left
                  · simp only [Act.put, List.setIfInBounds_toArray, List.set_cons_zero, List.set_cons_succ]
                    rfl
                  refine pure_ (i := 26) (N := some 107) (v := ?_) (a' := ?_) #[true, true, true, true, true, true, true, true, true, true, true, true, true, true, true, true, true, true, true, true, true, true, true, true, true, true, true, false, false, false, false, false, false, false, false, false, false, false, false, false, false, false, false, false, false, false, false] rfl rfl (by kernel_rfl) (fun _ _ _ h => h) (Or.inl ⟨by rfl, ?_⟩) ?_ ?_
                  rotate_left
                  · intro w'
                    go_simp
                    with_reducible rfl
                  rotate_left
                  · simp only [Act.put, List.setIfInBounds_toArray, List.set_cons_zero, List.set_cons_succ]
                    rfl
                  refine pure_ (i := 27) (N := some 108) (v := ?_) (a' := ?_) #[true, true, true, true, true, true, true, true, true, true, true, true, true, true, true, true, true, true, true, true, true, true, true, true, true, true, true, true, false, false, false, false, false, false, false, false, false, false, false, false, false, false, false, false, false, false, false] rfl rfl (by kernel_rfl) (fun _ _ _ h => h) (Or.inl ⟨by rfl, ?_⟩) ?_ ?_
                  rotate_left
                  · intro w'
                    go_simp
                    with_reducible rfl
                  rotate_left
                  · simp only [Act.put, List.setIfInBounds_toArray, List.set_cons_zero, List.set_cons_succ]
                    rfl
                  refine take_ (i := 28) (N := some 109) (v := ?_) (a' := ?_) #[true, true, true, true, true, true, true, true, true, true, true, true, true, true, true, true, true, true, true, true, true, true, true, true, true, true, true, true, true, false, false, false, false, false, false, false, false, false, false, false, false, false, false, false, false, false, false] rfl rfl (by kernel_rfl) (fun _ _ _ h => h) (Or.inl ⟨by rfl, ?_⟩) hHeld ?_ ?_
                  rotate_left
                  · rintro w' ⟨s0, s1, s2, s3⟩
                    go_simp
                    with_reducible rfl
                  rotate_left
                  · simp only [Act.put, List.setIfInBounds_toArray, List.set_cons_zero, List.set_cons_succ]
                    rfl
                  refine pure_ (i := 30) (N := some 111) (v := ?_) (a' := ?_) #[true, true, true, true, true, true, true, true, true, true, true, true, true, true, true, true, true, true, true, true, true, true, true, true, true, true, true, true, true, false, true, false, false, false, false, false, false, false, false, false, false, false, false, false, false, false, false] rfl rfl (by kernel_rfl) (fun _ _ _ h => h) (Or.inl ⟨by rfl, ?_⟩) ?_ ?_
                  rotate_left
                  · intro w'
                    go_simp
                    with_reducible rfl
                  rotate_left
                  · simp only [Act.put, List.setIfInBounds_toArray, List.set_cons_zero, List.set_cons_succ]
                    rfl
                  refine one_ (i := 29) (N := some 110) #[true, true, true, true, true, true, true, true, true, true, true, true, true, true, true, true, true, true, true, true, true, true, true, true, true, true, true, true, true, true, true, false, false, false, false, false, false, false, false, false, false, false, false, false, false, false, false] rfl rfl (by kernel_rfl) (by decide) (fun K hK => ?_)
                  refine goes_ Tryd.func14 (by kernel_rfl) rfl #[.int .i64 y.f1, .int .i64 64] (by rfl) rfl rfl (by simp only [List.map_toArray, List.map_cons, List.map_nil]; rfl) ?_
                  refine (md_calls 64 y.f1 r1 _ (by decide) (by decide) hmd.out).mono ?_
                  rintro e w6 ⟨rfl, hb6⟩
                  refine ⟨_, rfl, ?_⟩
                  refine hK.out _ _ (kp.out _ (below_step hbD.out hb6)) (fun hHeld => ?_)
                  clear hK K
                  refine norm_ (a' := ?_) ?_ ?_
                  rotate_left
                  · show Act.put _ (some 110) _ = _
                    simp only [Act.put, List.setIfInBounds_toArray, List.set_cons_zero, List.set_cons_succ]
                    rfl
                  refine pure_ (i := 31) (N := some 112) (v := ?_) (a' := ?_) #[true, true, true, true, true, true, true, true, true, true, true, true, true, true, true, true, true, true, true, true, true, true, true, true, true, true, true, true, true, true, true, true, false, false, false, false, false, false, false, false, false, false, false, false, false, false, false] rfl rfl (by kernel_rfl) (fun _ _ _ h => h) (Or.inl ⟨by rfl, ?_⟩) ?_ ?_
                  rotate_left
                  · intro w'
                    go_simp
                    with_reducible rfl
                  rotate_left
                  · simp only [Act.put, List.setIfInBounds_toArray, List.set_cons_zero, List.set_cons_succ]
                    rfl
                  refine pure_ (i := 32) (N := some 113) (v := ?_) (a' := ?_) #[true, true, true, true, true, true, true, true, true, true, true, true, true, true, true, true, true, true, true, true, true, true, true, true, true, true, true, true, true, true, true, true, true, false, false, false, false, false, false, false, false, false, false, false, false, false, false] rfl rfl (by kernel_rfl) (fun _ _ _ h => h) (Or.inl ⟨by rfl, ?_⟩) ?_ ?_
                  rotate_left
                  · intro w'
                    go_simp
                    with_reducible rfl
                  rotate_left
                  · simp only [Act.put, List.setIfInBounds_toArray, List.set_cons_zero, List.set_cons_succ]
                    rfl
                  refine pure_ (i := 33) (N := some 114) (v := ?_) (a' := ?_) #[true, true, true, true, true, true, true, true, true, true, true, true, true, true, true, true, true, true, true, true, true, true, true, true, true, true, true, true, true, true, true, true, true, true, false, false, false, false, false, false, false, false, false, false, false, false, false] rfl rfl (by kernel_rfl) (fun _ _ _ h => h) (Or.inl ⟨by rfl, ?_⟩) ?_ ?_
                  rotate_left
                  · intro w'
                    go_simp
                    with_reducible rfl
                  rotate_left
                  · simp only [Act.put, List.setIfInBounds_toArray, List.set_cons_zero, List.set_cons_succ]
                    rfl
                  refine pure_ (i := 34) (N := some 115) (v := ?_) (a' := ?_) #[true, true, true, true, true, true, true, true, true, true, true, true, true, true, true, true, true, true, true, true, true, true, true, true, true, true, true, true, true, true, true, true, true, true, true, false, false, false, false, false, false, false, false, false, false, false, false] rfl rfl (by kernel_rfl) (fun _ _ _ h => h) (Or.inl ⟨by rfl, ?_⟩) ?_ ?_
                  rotate_left
                  · intro w'
                    go_simp
                    with_reducible rfl
                  rotate_left
                  · simp only [Act.put, List.setIfInBounds_toArray, List.set_cons_zero, List.set_cons_succ]
                    rfl
                  refine pure_ (i := 35) (N := some 116) (v := ?_) (a' := ?_) #[true, true, true, true, true, true, true, true, true, true, true, true, true, true, true, true, true, true, true, true, true, true, true, true, true, true, true, true, true, true, true, true, true, true, true, true, false, false, false, false, false, false, false, false, false, false, false] rfl rfl (by kernel_rfl) (fun _ _ _ h => h) (Or.inl ⟨by rfl, ?_⟩) ?_ ?_
                  rotate_left
                  · intro w'
                    go_simp
                    with_reducible rfl
                  rotate_left
                  · simp only [Act.put, List.setIfInBounds_toArray, List.set_cons_zero, List.set_cons_succ]
                    rfl
                  refine pure_ (i := 36) (N := some 117) (v := ?_) (a' := ?_) #[true, true, true, true, true, true, true, true, true, true, true, true, true, true, true, true, true, true, true, true, true, true, true, true, true, true, true, true, true, true, true, true, true, true, true, true, true, false, false, false, false, false, false, false, false, false, false] rfl rfl (by kernel_rfl) (fun _ _ _ h => h) (Or.inl ⟨by rfl, ?_⟩) ?_ ?_
                  rotate_left
                  · intro w'
                    go_simp
                    with_reducible rfl
                  rotate_left
                  · simp only [Act.put, List.setIfInBounds_toArray, List.set_cons_zero, List.set_cons_succ]
                    rfl
                  refine pure_ (i := 37) (N := some 118) (v := undef) (a' := ?_) #[true, true, true, true, true, true, true, true, true, true, true, true, true, true, true, true, true, true, true, true, true, true, true, true, true, true, true, true, true, true, true, true, true, true, true, true, true, true, false, false, false, false, false, false, false, false, false] rfl rfl (by kernel_rfl) (fun _ _ _ h => h) (Or.inr ⟨by rfl, rfl⟩) ?_ ?_
                  rotate_left
                  · simp only [Act.put, List.setIfInBounds_toArray, List.set_cons_zero, List.set_cons_succ]
                    rfl
                  refine pure_ (i := 38) (N := some 119) (v := undef) (a' := ?_) #[true, true, true, true, true, true, true, true, true, true, true, true, true, true, true, true, true, true, true, true, true, true, true, true, true, true, true, true, true, true, true, true, true, true, true, true, true, true, true, false, false, false, false, false, false, false, false] rfl rfl (by kernel_rfl) (fun _ _ _ h => h) (Or.inr ⟨by rfl, rfl⟩) ?_ ?_
                  rotate_left
                  · simp only [Act.put, List.setIfInBounds_toArray, List.set_cons_zero, List.set_cons_succ]
                    rfl
                  refine pure_ (i := 39) (N := some 120) (v := undef) (a' := ?_) #[true, true, true, true, true, true, true, true, true, true, true, true, true, true, true, true, true, true, true, true, true, true, true, true, true, true, true, true, true, true, true, true, true, true, true, true, true, true, true, true, false, false, false, false, false, false, false] rfl rfl (by kernel_rfl) (fun _ _ _ h => h) (Or.inr ⟨by rfl, rfl⟩) ?_ ?_
                  rotate_left
                  · simp only [Act.put, List.setIfInBounds_toArray, List.set_cons_zero, List.set_cons_succ]
                    rfl
                  refine pure_ (i := 40) (N := some 121) (v := undef) (a' := ?_) #[true, true, true, true, true, true, true, true, true, true, true, true, true, true, true, true, true, true, true, true, true, true, true, true, true, true, true, true, true, true, true, true, true, true, true, true, true, true, true, true, true, false, false, false, false, false, false] rfl rfl (by kernel_rfl) (fun _ _ _ h => h) (Or.inr ⟨by rfl, rfl⟩) ?_ ?_
                  rotate_left
                  · simp only [Act.put, List.setIfInBounds_toArray, List.set_cons_zero, List.set_cons_succ]
                    rfl
                  refine pure_ (i := 41) (N := some 122) (v := undef) (a' := ?_) #[true, true, true, true, true, true, true, true, true, true, true, true, true, true, true, true, true, true, true, true, true, true, true, true, true, true, true, true, true, true, true, true, true, true, true, true, true, true, true, true, true, true, false, false, false, false, false] rfl rfl (by kernel_rfl) (fun _ _ _ h => h) (Or.inr ⟨by rfl, rfl⟩) ?_ ?_
                  rotate_left
                  · simp only [Act.put, List.setIfInBounds_toArray, List.set_cons_zero, List.set_cons_succ]
                    rfl
                  refine pure_ (i := 42) (N := some 123) (v := undef) (a' := ?_) #[true, true, true, true, true, true, true, true, true, true, true, true, true, true, true, true, true, true, true, true, true, true, true, true, true, true, true, true, true, true, true, true, true, true, true, true, true, true, true, true, true, true, true, false, false, false, false] rfl rfl (by kernel_rfl) (fun _ _ _ h => h) (Or.inr ⟨by rfl, rfl⟩) ?_ ?_
                  rotate_left
                  · simp only [Act.put, List.setIfInBounds_toArray, List.set_cons_zero, List.set_cons_succ]
                    rfl
                  refine pure_ (i := 43) (N := some 124) (v := undef) (a' := ?_) #[true, true, true, true, true, true, true, true, true, true, true, true, true, true, true, true, true, true, true, true, true, true, true, true, true, true, true, true, true, true, true, true, true, true, true, true, true, true, true, true, true, true, true, true, false, false, false] rfl rfl (by kernel_rfl) (fun _ _ _ h => h) (Or.inr ⟨by rfl, rfl⟩) ?_ ?_
                  rotate_left
                  · simp only [Act.put, List.setIfInBounds_toArray, List.set_cons_zero, List.set_cons_succ]
                    rfl
                  refine pure_ (i := 44) (N := some 125) (v := undef) (a' := ?_) #[true, true, true, true, true, true, true, true, true, true, true, true, true, true, true, true, true, true, true, true, true, true, true, true, true, true, true, true, true, true, true, true, true, true, true, true, true, true, true, true, true, true, true, true, true, false, false] rfl rfl (by kernel_rfl) (fun _ _ _ h => h) (Or.inr ⟨by rfl, rfl⟩) ?_ ?_
                  rotate_left
                  · simp only [Act.put, List.setIfInBounds_toArray, List.set_cons_zero, List.set_cons_succ]
                    rfl
                  refine pure_ (i := 45) (N := some 126) (v := ?_) (a' := ?_) #[true, true, true, true, true, true, true, true, true, true, true, true, true, true, true, true, true, true, true, true, true, true, true, true, true, true, true, true, true, true, true, true, true, true, true, true, true, true, true, true, true, true, true, true, true, true, false] rfl rfl (by kernel_rfl) (fun _ _ _ h => h) (Or.inl ⟨by rfl, ?_⟩) ?_ ?_
                  rotate_left
                  · intro w'
                    go_simp
                    with_reducible rfl
                  rotate_left
                  · simp only [Act.put, List.setIfInBounds_toArray, List.set_cons_zero, List.set_cons_succ]
                    rfl
                  refine pure_ (i := 46) (N := some 127) (v := ?_) (a' := ?_) #[true, true, true, true, true, true, true, true, true, true, true, true, true, true, true, true, true, true, true, true, true, true, true, true, true, true, true, true, true, true, true, true, true, true, true, true, true, true, true, true, true, true, true, true, true, true, true] rfl rfl (by kernel_rfl) (fun _ _ _ h => h) (Or.inl ⟨by rfl, ?_⟩) ?_ ?_
                  rotate_left
                  · intro w'
                    go_simp
                    with_reducible rfl
                  rotate_left
                  · simp only [Act.put, List.setIfInBounds_toArray, List.set_cons_zero, List.set_cons_succ]
                    rfl
                  refine done_ (by kernel_rfl) ?_
                  go_wp2
                  go_roundg (L.length - (0 + 1))
                  case measure => omega
                  case rel => exact ⟨0 + 1, by go_num, by omega, Nat.le_refl _, ⟨below_step (below_step hBx.out hbD.out) hb6⟩⟩
                · obtain ⟨jj, hjj⟩ : ∃ jj : Int, (i : Int) - 1 = jj := ⟨_, rfl⟩
                  have hwj : IntKind.i64.wrap ((i : Int) - 1) = jj := by rw [i64_w]; unfold wrap64; omega
                  obtain ⟨a5, e1, p0, p1⟩ := at_T31 (Kd.R_reads' (Kd.R_below hV4.out hBx.out)).2.2 jj (by omega) (by omega)
                  cases e1
                  obtain ⟨z, hz⟩ : ∃ z, L[i - 1]'(by omega) = z := ⟨_, rfl⟩
                  have hrz : rd_T31 L jj = z := by
                    rw [show jj = ((i - 1 : Nat) : Int) by omega, rd_nat L (i - 1) (by omega), hz]
                  rw [hrz] at p0 p1
                  have hls : Aside0 (remontoirref05_Less.f z.f0 z.f1 (q : Int) y.f2.f1 = some true) := ⟨by
                    have h1 := so_rd hTD.out.so hTD.out.nd hi0 hlt
                    rw [hz, hdq.out] at h1
                    have h2 := less_is z (tk A q).f1
                    rw [h1] at h2
                    unfold tk at h2
                    rw [hy.out] at h2
                    exact h2⟩
                  have d3 : decide (0 < (i : Int)) = true := decide_eq_true (by omega)
                  have d4 : decide (0 < i) = true := decide_eq_true hi0
                  have j1 : 0 ≤ jj := by omega
                  have j2 : jj < (L.length : Int) := by omega
                  have k2 : Aside0 (∀ w', Below wa.heap.size wa w' → (w'.cell? ⟨X, 0, none⟩ = some (.int .i64 q) ∧ w'.cell? ⟨X, 1, none⟩ = some (.int .u64 y.f2.f1) ∧ w'.cell? ⟨(ad.add (q * 4)).block, (ad.add (q * 4)).off + 1, none⟩ = some (.int .i64 y.f1) ∧ w'.cell? ⟨(ad.add (q * 4)).block, (ad.add (q * 4)).off + 3, none⟩ = some (.int .u64 y.f2.f1) ∧ w'.cell? (a4.add (jj.toNat * 2)) = some (.int .i64 z.f0) ∧ w'.cell? ⟨(a4.add (jj.toNat * 2)).block, (a4.add (jj.toNat * 2)).off + 1, none⟩ = some (.int .u64 z.f1))) := ⟨fun w' hb => by
                    obtain ⟨s0, s1, s2, s3⟩ := kp.out w' hb
                    exact ⟨s0, s1, s2, s3, (hb.cell (World.block_lt_of_cell? _ _ p0)).trans p0, (hb.cell (World.block_lt_of_cell? _ _ p1)).trans p1⟩⟩
                  have hjj2 := Aside0.mk hjj
                  clear kp hz hrz p0 p1 hjj
                  go_region_held3 (fun w' => w'.cell? ⟨X, 0, none⟩ = some (.int .i64 q) ∧ w'.cell? ⟨X, 1, none⟩ = some (.int .u64 y.f2.f1) ∧ w'.cell? ⟨(ad.add (q * 4)).block, (ad.add (q * 4)).off + 1, none⟩ = some (.int .i64 y.f1) ∧ w'.cell? ⟨(ad.add (q * 4)).block, (ad.add (q * 4)).off + 3, none⟩ = some (.int .u64 y.f2.f1) ∧ w'.cell? (a4.add (jj.toNat * 2)) = some (.int .i64 z.f0) ∧ w'.cell? ⟨(a4.add (jj.toNat * 2)).block, (a4.add (jj.toNat * 2)).off + 1, none⟩ = some (.int .u64 z.f1)) (first | exact k2.out _ hbD.out | exact k2.out _ (below_step hbD.out hb6) | exact k2.out _ (below_step (below_step hbD.out hb6) hb7)) ((first | (go_at_call 14; refine (md_calls 64 y.f1 r1 _ (by decide) (by decide) hmd.out).mono ?_; rintro e w6 ⟨rfl, hb6⟩) | (go_at_call 27; refine (remontoirref05_Less.calls _ _ _ _ true _ hls.out).mono ?_; rintro e w7 ⟨rfl, hd7⟩; have hb7 := LB hd7)))
                  go_wp2
                  go_roundg (L.length - (i + 1))
                  case measure => omega
                  case rel => exact ⟨i + 1, by go_num, by omega, Nat.le_refl _, ⟨below_step (below_step (below_step hBx.out hbD.out) hb6) hb7⟩⟩
              · obtain rfl : i = L.length := by omega
                have hltz : ¬ (L.length : Int) < (L.length : Int) := by omega
                go_wp2_with (fail)
                go_meet
                exact hB
          case rest =>
            as_aux_lemma =>
            have hmL : IntKind.i64.wrap ((m : Int) - (L.length : Int)) = (((takeT U r1).length : Nat) : Int) := by rw [i64_w]; unfold wrap64; omega
            have hJ5 : Aside0 (RJ W.heap.size (fun _ => False) wc R (takeT U r1)) := ⟨(hJ4.out.sub (fun _ h => h.elim)).step hcut.out⟩
            have hF5 := Aside0.mk ((hF3.out.trans hT2.out.b0).trans (Fr.of_b0 hcut.out))
            obtain ⟨ka, hka⟩ : ∃ ka : Nat, (r1 + 1).tmod 64 = (ka : Int) := ⟨((r1 + 1).tmod 64).toNat, by rw [Int.tmod_eq_emod_of_nonneg (by omega)]; omega⟩
            have hka2 : ka < 64 := by rw [Int.tmod_eq_emod_of_nonneg (by omega)] at hka; omega
            have hwr : IntKind.i64.wrap (r1 + 1) = r1 + 1 := by rw [i64_w]; unfold wrap64; omega
            have hsub2 : Aside0 (∀ l ∈ takeT U r1, l ∈ TH A n) := ⟨fun l hl => hsub.out l (List.mem_filter.1 hl).1⟩
            clear hJ4 hT2 hF3 hcut hV4 hJ3 hTD hL hptU hcell
            go_wp2
            go_roundg (m - 1)
            case measure => omega
            case rel => exact ⟨(takeT U r1).length, ka, takeT U r1, by first | exact congrArg (Value.int .i64) hmL | rfl | (simp [hmL]), by first | exact congrArg (Value.int .i64) hka | rfl | (simp [hka]), hka2, rfl, by omega, by omega, hsub2, hJ5, hF5⟩
        · obtain rfl : m = 0 := by omega
          have hU0 : U = [] := List.eq_nil_of_length_eq_zero hUm
          subst hU0
          have hmz : ¬ (0 : Int) < ((0 : Nat) : Int) := by omega
          go_wp2_with (fail)
          go_meet
          exact ⟨a, rfl, hJ, hF⟩
    case rest =>
      as_aux_lemma =>
      obtain ⟨a, rfl, hJ, hF⟩ := hcut
      clear hJ2 hF2 hHF hl0
      go_wp2_with (first
        | (go_at_call 26; have hT := first_J hJ.out (hF.out.tab (tab_pos HT.out) HT.out rfl) (a : Int); refine hT.mono ?_; clear hT; rintro e w3 ⟨fu, r, rfl, hU, hh, hi, hb3⟩; have hr := round_none hi (hs_empty hh); subst hr; clear hU hh hi)
        | (go_at_call 25; have hT := len_J (hJ.out.step hb3); refine hT.mono ?_; clear hT; rintro e w4 ⟨rfl, hb4⟩)
        | (go_at_call 28; have hT := mask_J (hJ.out.step (below_step hb3 hb4)); refine hT.mono ?_; clear hT; rintro e w5 ⟨fu, rfl, hU, hh, hb5⟩; have hz := fu_zero hU hh; subst hz; clear hU hh)
        | (go_at_call 24; refine (wakes5 _).mono ?_; rintro e w6 ⟨rfl, hb6⟩))
      go_ret
      exact ⟨rfl, (hF.out.trans (Fr.of_b0 (below_step (below_step (below_step hb3 hb4) hb5) hb6))).below (Nat.le_refl _) (fun k h => h)⟩
end Go.Proofs.YtedolmjealgeoaaDoor.Rg
