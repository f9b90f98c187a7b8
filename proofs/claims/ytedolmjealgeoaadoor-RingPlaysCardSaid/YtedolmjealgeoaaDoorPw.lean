/- RingPlays' walk. Conditions: the table's cells; the rows read. -/
import Derived.Test.YtedolmjealgeoaaDoorPa
import Derived.Test.YtedolmjealgeoaaDoorAcw
import Derived.Deep.DeepCutAuto
import Derived.Deep.CutBlock
set_option linter.unusedVariables false
namespace Go.Proofs.YtedolmjealgeoaaDoor.Rg
open Go.RowKit Go.Maps Go.Proofs.YtedolmjealgeoaaDoor.PBase Go.Proofs.YtedolmjealgeoaaDoor.Tz Go.Proofs.YtedolmjealgeoaaDoor.Cat Go.Proofs.YtedolmjealgeoaaDoorW.PrintWords Go.Proofs.YtedolmjealgeoaaDoorW.PrintLast Go.Proofs.YtedolmjealgeoaaDoorW.PrintMore
theorem Fr.tab {W w : World} {N : Nat} (h : Fr (fun k => N ≤ k) W w) (hN : 0 < N) (hT : TabOk W) (hb : N = W.heap.size) : TabOk w := fun j hj => h.cell (hT j hj) (by show ¬ N ≤ 0; omega)
theorem tab_pos {W : World} (hT : TabOk W) : 0 < W.heap.size := World.block_lt_of_cell? W _ (hT 0 (by decide))
theorem Fr.rd {N : Nat} {W w : World} (h : Fr (fun k => N ≤ k) W w) {a : Addr} {v : Value} (hc : W.cell? a = some v) (hN : W.heap.size ≤ N) : w.cell? a = some v := h.cell hc (by have := World.block_lt_of_cell? W a hc; show ¬ N ≤ a.block; omega)
theorem ring_start {N : Nat} {W w : World} {R : Nat} (hb : Below W.heap.size W w) (hN : N ≤ w.heap.size) (hWN : N = W.heap.size) (h : RJ N (fun _ => False) w R []) :
    PA N W R w.heap.size 0 (fun _ => False) (w.alloc (.cells #[.slice none 0 0] 28)) [] [] (.slice none 0 0) := by
  have hb1 := below_alloc (Below.refl w.heap.size w) (.cells #[.slice none 0 0] 28)
  have hs : (w.alloc (.cells #[.slice none 0 0] 28)).heap.size = w.heap.size + 1 := by simp
  refine ⟨Nat.le_refl _, List.Perm.refl _, PT.nil, ⟨blk_new _ _, Kd.R_nil _ _ _ _ _, hN⟩, (h.more (Y := fun k => k = w.heap.size) hb1 (fun k hk => ?_)).swap (Fr.refl _ _) (fun k hk => ?_), fun _ e => e.elim, ?_⟩
  · subst hk; exact ⟨Nat.le_refl _, by omega⟩
  · rcases hk with hk | hk | hk
    · exact hk.elim
    · exact ⟨.inl (.inr hk), by omega⟩
    · cases hk
  · exact Fr.of_below (below_step hb hb1)
set_option maxHeartbeats 4000000 in
set_option maxRecDepth 100000 in
theorem plays_walk (W : World) (hT : TabOk W) (A0 : Option Addr) (c : Nat) (A : List S33) (hr : Kd.C k33 W A0 A.length A) (hA : A5ok A) :
    Calls Tryd.prog 3 #[.slice A0 A.length c] W fun e w' => e = .returned (.bool true) ∧ Below W.heap.size W w' := by
  have HR := Aside0.mk hr
  have HA := Aside0.mk hA
  have HT := Aside0.mk hT
  clear hr hA hT
  go_enter Tryd.func3, Tryd.ntmps3
  go_upto_block 0 with (go_at_call 13; refine (new_J _).mono ?_; rintro e w1 ⟨R, rfl, hJ, hb1⟩)
  have hS := Aside0.mk (ring_start hb1 hb1.size rfl hJ)
  clear hJ hb1
  generalize w1.alloc (.cells #[.slice none 0 0] 28) = w3 at hS ⊢
  generalize w1.heap.size = V at hS ⊢
  go_cut [5] (fun v5 wc => PTo W.heap.size W R V 60 wc)
  case first =>
    as_aux_lemma =>
    go_wp2_with (fail)
    go_loopg [5] 60 (fun gg v5 wr => ∃ i : Nat, v5 = .int .i64 i ∧ i ≤ 60 ∧ i ≤ A.length ∧ 60 - i ≤ gg ∧ Aside0 (PTo W.heap.size W R V i wr))
    case atStart => exact ⟨0, rfl, by omega, by omega, by omega, ⟨_, _, _, hS.out⟩⟩
    case round =>
      obtain ⟨i, rfl, hi1, hi2, hgg, hP⟩ := hrel
      clear hS
      by_cases hi : i < A.length ∧ i < 60
      · have hj1 : (i : Int) < (A.length : Int) := by omega
        have hj2 : (i : Int) < 60 := by omega
        obtain ⟨T, U, v, h⟩ := hP.out
        clear hP
        have h := Aside0.mk h
        obtain ⟨ad, e1, hx0, hx1, hx2, hx3⟩ := at_T33 HR.out (i : Int) (by omega) hj1
        subst e1
        rw [Int.toNat_natCast] at hx0 hx1 hx2 hx3
        replace hx0 := h.out.fr.rd hx0 (Nat.le_refl _)
        replace hx1 := h.out.fr.rd hx1 (Nat.le_refl _)
        replace hx2 := h.out.fr.rd hx2 (Nat.le_refl _)
        replace hx3 := h.out.fr.rd hx3 (Nat.le_refl _)
        have hok : Aside0 ((Lit.int .i64 (rd_T33 A (i : Int)).f2.f0).wf = true) := ⟨by rw [rd33 A i hi.1]; exact (HA.out _ (List.getElem_mem hi.1)).2.1⟩
        obtain ⟨x, hx⟩ : ∃ x, rd_T33 A (i : Int) = x := ⟨_, rfl⟩
        rw [hx] at hx0 hx1 hx2 hx3 hok
        clear hx
        obtain ⟨kd, hkd⟩ : ∃ kd, md 5 x.f0 = kd := ⟨_, rfl⟩
        have hk6 := md_in 5 x.f0 (by decide)
        rw [hkd] at hk6
        have hkd := Aside0.mk hkd
        go_upto_block 2 with (first
          | (go_at_call 14; refine (md_calls 5 _ kd _ (by decide) (by decide) hkd.out).mono ?_; rintro e w5 ⟨rfl, hb5⟩))
        have hb6 := Aside0.mk (below_step (below_alloc (Below.refl wr.heap.size wr) (.cells #[.int .i64 x.f0, .int .i64 x.f1, .int .i64 x.f2.f0, .int .u64 x.f2.f1] 33)) hb5)
        have hbox := Aside0.mk (blk_below (blk_new wr (.cells #[.int .i64 x.f0, .int .i64 x.f1, .int .i64 x.f2.f0, .int .u64 x.f2.f1] 33)) hb5)
        have hQ := Aside0.mk (h.out.box hb6.out (g := wr.heap.size) rfl (blk_lt hbox.out))
        clear h hb5 hx0 hx1 hx2 hx3 hb6 hkd
        generalize wr.heap.size = g5 at hbox hQ ⊢
        go_cut [] (fun wx => Aside0 (PTo W.heap.size W R V (i + 1) wx))
        case first =>
          as_aux_lemma =>
          have hbD := Aside0.mk (below_drew1 (Below.refl w5.heap.size w5))
          have hTl : T.length ≤ 100000 := by have := hQ.out.len; omega
          have hUl : U.length ≤ 100000 := by rw [← hQ.out.pm.length_eq]; exact hTl
          have hTl := Aside0.mk hTl
          have hUl := Aside0.mk hUl
          rcases (show (kd = 0 ∨ kd = 1) ∨ kd = 2 ∨ kd = 3 ∨ kd = 4 by omega) with hk | rfl | rfl | rfl
          · have kp : Aside0 (∀ w', Fr (fun k => ¬ k = g5) w5 w' → w'.cell? ⟨g5, 1, none⟩ = some (.int .i64 x.f1) ∧ w'.cell? ⟨g5, 2, none⟩ = some (.int .i64 x.f2.f0) ∧ w'.cell? ⟨g5, 3, none⟩ = some (.int .u64 x.f2.f1)) := ⟨fun w' hf => by
              have hb := (hf.blk g5 (blk_lt hbox.out) (fun e => e rfl)).trans hbox.out
              exact ⟨(blk_cell hb 1).trans rfl, (blk_cell hb 2).trans rfl, (blk_cell hb 3).trans rfl⟩⟩
            obtain ⟨b, hb⟩ : ∃ b, putB T x.f1 x.f2 = b := ⟨_, rfl⟩
            have hpb := Aside0.mk (put_both hQ.out.pm hQ.out.pt hb hok.out)
            have hb2 : Aside0 (putB U x.f1 x.f2 = b) := ⟨(putB_perm hQ.out.pm _ _).symm.trans hb⟩
            have hb := Aside0.mk hb
            have hD := Aside0.mk (hQ.out.rj.step hbD.out)
            have hDs := Aside0.mk (hQ.out.rs.step hbD.out)
            clear hbox hk6
            rcases hk with rfl | rfl <;>
            (go_wp2
             go_region_held3 (fun w' => w'.cell? ⟨g5, 1, none⟩ = some (.int .i64 x.f1) ∧ w'.cell? ⟨g5, 2, none⟩ = some (.int .i64 x.f2.f0) ∧ w'.cell? ⟨g5, 3, none⟩ = some (.int .u64 x.f2.f1)) (first | exact kp.out _ (Fr.of_below hbD.out) | exact kp.out _ ((Fr.of_below hbD.out).trans (f6.weak (fun k e y => e.2 (.inl y)))) | exact kp.out _ (((Fr.of_below hbD.out).trans (f6.weak (fun k e y => e.2 (.inl y)))).trans (f7.weak (fun k e y => hQ.out.ap k y e))))
               (first
                 | (go_at_call 15; have hT := put_J hD.out x.f1 x.f2 hok.out hTl.out b hb.out _ rfl; refine hT.mono ?_; clear hT; rintro e w6 ⟨rfl, hj6, f6⟩; have hs6 := hDs.out.keep f6 (fun k hk e => e.2 (.inr hk)))
                 | (go_at_call 16; have hT := rput_calls hs6 x.f1 x.f2 b hb2.out hUl.out; refine hT.mono ?_; clear hT; rintro e w7 ⟨rfl, hg7⟩; have f7 := hg7.out.choose_spec.2.1))
             go_wp2_with (fail)
             go_meet
             exact ⟨PTo.both hQ.out.ap hj6 hs6 ((hQ.out.fr.trans (Fr.of_b0 hbD.out)).trans (f6.weak (fun k e => e.1))) hg7.out (Nat.le_trans hpb.out.2.2 (Nat.succ_le_succ hQ.out.len)) hpb.out.1 hpb.out.2.1 (Nat.le_refl _) hs6.xN⟩)
          · have c2 : w5.cell? ⟨g5, 2, none⟩ = some (.int .i64 x.f2.f0) := (blk_cell hbox.out 2).trans rfl
            obtain ⟨r, hr⟩ : ∃ r, slotOf T x.f2.f0 = r := ⟨_, rfl⟩
            have hr2 : slotOf U x.f2.f0 = r := (slotOf_perm hQ.out.pm (hQ.out.pt.perm hQ.out.pm.symm).nd _).symm.trans hr
            obtain ⟨j, hj⟩ : ∃ j, r.getD 0 = j := ⟨_, rfl⟩
            obtain ⟨b, hb⟩ : ∃ b, r.isSome = b := ⟨_, rfl⟩
            have hD := drop_J hQ.out.rj x.f2.f0 hok.out hTl.out r hr
            rw [hj, hb] at hD
            have hD := Aside0.mk hD
            have hE : Aside0 (∀ w6, RS W.heap.size w6 V v U → Calls Tryd.prog 18 #[.pointer (some ⟨V, 0, none⟩), .int .i64 x.f2.f0] w6 fun e w' => e = .returned (.agg #[.int .i64 j, .bool b]) ∧ Aside0 (RSo W.heap.size w6 V v w' (dropT U x.f2.f0))) := ⟨fun w6 h6 => by
              have h7 := rdrop_calls h6 x.f2.f0 hQ.out.pt.nd hUl.out
              rw [hr2, hj, hb] at h7
              exact h7⟩
            clear hbox hk6 hr hr2 hj hb hbD
            go_wp2_with (first
              | (go_at_call 17; refine hD.out.mono ?_; rintro e w6 ⟨rfl, hj6, f6⟩; have hs6 := Aside0.mk (hQ.out.rs.keep f6 (fun k hk e => e.2 (.inr hk))); have c3 : w6.cell? ⟨g5, 2, none⟩ = some (.int .i64 x.f2.f0) := f6.cell c2 (fun e => e.2 (.inl rfl)))
              | (go_at_call 18; refine (hE.out _ hs6.out).mono ?_; rintro e w7 ⟨rfl, hg7⟩))
            go_meet
            exact ⟨PTo.both hQ.out.ap hj6 hs6.out (hQ.out.fr.trans (f6.weak (fun k e => e.1))) hg7.out (Nat.le_trans (List.length_filter_le _ _) (Nat.le_succ_of_le hQ.out.len)) (hQ.out.pm.filter _) (hQ.out.pt.drop _) (Nat.le_refl _) hs6.out.xN⟩
          · have kp : Aside0 (∀ w', Fr (fun k => ¬ k = g5) w5 w' → w'.cell? ⟨g5, 1, none⟩ = some (.int .i64 x.f1)) := ⟨fun w' hf => by
              have hb := (hf.blk g5 (blk_lt hbox.out) (fun e => e rfl)).trans hbox.out
              exact (blk_cell hb 1).trans rfl⟩
            have hD := Aside0.mk (hQ.out.rj.step hbD.out)
            have hDs := Aside0.mk (hQ.out.rs.step hbD.out)
            have hlE : Aside0 (psort (atS U x.f1) = lst T x.f1) := ⟨by rw [psort_congr (atS_perm hQ.out.pm.symm x.f1), lst_eq (hQ.out.pt.perm hQ.out.pm.symm)]⟩
            have hlL : Aside0 ((lst T x.f1).length ≤ 1000000) := ⟨by rw [← hlE.out, psort_len]; exact Nat.le_trans (atS_len U x.f1) (Nat.le_trans hUl.out (by decide))⟩
            have hXl : Aside0 (∀ k, X2 V v k → k < w5.drew.heap.size) := ⟨fun k hk => hD.out.xs k (.inr hk)⟩
            clear hbox hk6
            go_wp2
            go_region_held3 (fun w' => w'.cell? ⟨g5, 1, none⟩ = some (.int .i64 x.f1)) (first | exact kp.out _ (Fr.of_below hbD.out) | exact kp.out _ ((Fr.of_below hbD.out).trans (f6.out.weak (fun k e y => e.2 (.inl y)))) | exact kp.out _ (((Fr.of_below hbD.out).trans (f6.out.weak (fun k e y => e.2 (.inl y)))).trans (f7.out.weak (fun k e y => hQ.out.ap k y e))) | exact kp.out _ ((((Fr.of_below hbD.out).trans (f6.out.weak (fun k e y => e.2 (.inl y)))).trans (f7.out.weak (fun k e y => hQ.out.ap k y e))).trans (Fr.of_below hb8)))
              (first
                | (go_at_call 20; have hT := take_J hD.out x.f1 hTl.out; refine hT.mono ?_; clear hT; rintro e w6 ⟨v6, rfl, hz6⟩; have hR6 := Aside0.mk hz6.out.1; have hj6 := Aside0.mk (hz6.out.2.1.sub (fun k hk => .inl hk)); have f6 := Aside0.mk hz6.out.2.2; clear hz6; have hs6 := Aside0.mk (hDs.out.keep f6.out (fun k hk e => e.2 (.inr hk))))
                | (go_at_call 21; have hT := rtake_calls hs6.out x.f1 hUl.out; rw [hlE.out] at hT; refine hT.mono ?_; clear hT; rintro e w7 ⟨v7, rfl, hz7⟩; have f7 := Aside0.mk hz7.out.2.choose_spec.2.1; have hg7 : Aside0 (RSo W.heap.size w6 V v w7 (takeT U x.f1)) := ⟨⟨_, hz7.out.2.choose_spec.1, f7.out, .inr (fun b hb => (hz7.out.2.choose_spec.2.2 b hb).1)⟩⟩; have hR7 := Aside0.mk hz7.out.1; have hR8 := Aside0.mk (Kd.R_kept hR6.out (S := fun k => X2 V v k) ⟨f7.out.size, fun i hi hn => f7.out.blk i hi hn⟩ (fun k hk e => Nat.lt_irrefl _ (Nat.lt_of_lt_of_le (hXl.out k e) (own_base (own_of_R hR6.out) k hk)))); clear hz7)
                | (go_at_call 19; refine (dues_calls hR8.out hR7.out hlL.out).mono ?_; rintro e w8 ⟨rfl, hb8⟩))
            go_wp2_with (fail)
            go_meet
            obtain ⟨T9, U9, v9, h9⟩ := PTo.both (m := i + 1) hQ.out.ap hj6.out hs6.out ((hQ.out.fr.trans (Fr.of_b0 hbD.out)).trans (f6.out.weak (fun k e => e.1))) hg7.out (Nat.le_trans (List.length_filter_le _ _) (Nat.le_succ_of_le hQ.out.len)) (hQ.out.pm.filter _) ⟨hQ.out.pt.nd.sublist (List.filter_sublist.map _), fun l hl => hQ.out.pt.sl l (List.mem_filter.1 hl).1, fun l hl => hQ.out.pt.wf l (List.mem_filter.1 hl).1⟩ (Nat.le_refl _) hs6.out.xN
            exact ⟨T9, U9, v9, h9.step h9.fr.size hb8⟩
          · have c1 : w5.cell? ⟨g5, 1, none⟩ = some (.int .i64 x.f1) := (blk_cell hbox.out 1).trans rfl
            have hL := list_J hQ.out.rj x.f1 hTl.out
            have hL := Aside0.mk hL
            clear hbox hk6 hbD
            go_upto_region 10 with (go_at_call 22; refine hL.out.mono ?_; rintro e w6 ⟨v6, rfl, hR6, hb6⟩)
            have hR6 := Aside0.mk hR6
            have hb6 := Aside0.mk hb6
            obtain ⟨L, hLe⟩ : ∃ L, lst T x.f1 = L := ⟨_, rfl⟩
            rw [hLe] at hR6
            clear hLe hL c1
            obtain ⟨T9, U9, v9, h9⟩ : PTo W.heap.size W R V (i + 1) w5 := ⟨T, U, v, { hQ.out with len := Nat.le_succ_of_le hQ.out.len, rj := hQ.out.rj.sub (fun k e => e.elim (fun e => e.elim) .inr), ap := fun _ e => e.elim }⟩
            have h9 := Aside0.mk h9
            clear hQ
            obtain ⟨A6, c6, rfl, hc6, hC6⟩ := Kd.R_reads hR6.out
            rcases Nat.eq_zero_or_pos L.length with e0 | e0
            · have e1 : ¬ (0 : Int) < (L.length : Int) := by omega
              have e2 : (L.length : Int) = 0 := by omega
              clear hC6
              go_wp2_with (fail)
              go_meet
              exact ⟨T9, U9, v9, h9.out.step h9.out.fr.size hb6.out⟩
            · have e1 : (0 : Int) < (L.length : Int) := by omega
              rcases (own_of_R hR6.out).2 with ⟨_, e2⟩ | ⟨g, cap, cur, hv, hge, hgb, _⟩
              · omega
              · injection hv with q0 _ _
                subst q0
                obtain ⟨ad, q1, y0, y1⟩ := at_T31 hC6 0 (by omega) (by omega)
                injection q1 with q1
                subst q1
                have z0 : w6.cell? ⟨g, 0, none⟩ = some (.int .i64 (rd_T31 L 0).f0) := y0
                have z1 : w6.cell? ⟨g, 1, none⟩ = some (.int .u64 (rd_T31 L 0).f1) := y1
                have f0 := blk_frozen hgb 0
                have f1 := blk_frozen hgb 1
                clear hC6 y0 y1 hgb
                go_wp2_with (fail)
                go_meet
                exact ⟨T9, U9, v9, h9.out.step h9.out.fr.size (below_set (below_set hb6.out hge) hge)⟩
        case rest =>
          as_aux_lemma =>
          obtain ⟨T1, U1, v1, h1⟩ := hcut.out
          clear hcut hQ hbox
          have h1 := Aside0.mk h1
          have ht := Aside0.mk (h1.out.fr.tab (tab_pos HT.out) HT.out rfl)
          by_cases hm : Int.tmod (i : Int) 8 = 7
          · go_wp2_with (first
              | (go_at_call 23; refine (same_calls h1.out.rj h1.out.rs h1.out.pm h1.out.pt (by have := h1.out.len; omega) ht.out).mono ?_; rintro e w8 ⟨rfl, hb8⟩))
            go_roundg (60 - (i + 1))
            case measure => omega
            case rel => exact ⟨i + 1, by go_num, by omega, by omega, Nat.le_refl _, ⟨_, _, _, h1.out.step h1.out.fr.size hb8⟩⟩
          · go_wp2_with (fail)
            go_roundg (60 - (i + 1))
            case measure => omega
            case rel => exact ⟨i + 1, by go_num, by omega, by omega, Nat.le_refl _, ⟨_, _, _, h1.out⟩⟩
      · by_cases hj1 : (i : Int) < (A.length : Int)
        · have hj2 : ¬ (i : Int) < 60 := by omega
          go_wp2_with (fail)
          go_meet
          obtain ⟨T, U, v, h⟩ := hP.out
          exact ⟨T, U, v, { h with len := Nat.le_trans h.len hi1 }⟩
        · go_wp2_with (fail)
          go_meet
          obtain ⟨T, U, v, h⟩ := hP.out
          exact ⟨T, U, v, { h with len := Nat.le_trans h.len hi1 }⟩
  case rest =>
    as_aux_lemma =>
    obtain ⟨T, U, v, h⟩ := hcut
    have h := Aside0.mk h
    have ht := Aside0.mk (h.out.fr.tab (tab_pos HT.out) HT.out rfl)
    go_wp2_with (first
      | (go_at_call 23; refine (same_calls h.out.rj h.out.rs h.out.pm h.out.pt (Nat.le_trans h.out.len (by decide)) ht.out).mono ?_; rintro e w5 ⟨rfl, hb5⟩)
      | (go_at_call 24; refine (wakes5 _).mono ?_; rintro e w8 ⟨rfl, hb8⟩))
    go_ret
    exact ⟨rfl, ((h.out.fr.trans (Fr.of_b0 hb5)).trans (Fr.of_b0 hb8)).below (Nat.le_refl _) (fun k h => h)⟩
end Go.Proofs.YtedolmjealgeoaaDoor.Rg
