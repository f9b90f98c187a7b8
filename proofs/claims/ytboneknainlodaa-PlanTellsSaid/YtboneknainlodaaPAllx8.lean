-- Printed by a program of ours (wip/common/mkprint.py), turned from the kit's print; Lean checks it.
import Derived.Test.YtboneknainlodaaPAllx0
namespace Go.Proofs.Ytboneknainlodaa.PAll
open Go.Proofs.Ytboneknainlodaa.PBase Go.Proofs.Ytboneknainlodaa.Giv
open Go.RowKit Go.Proofs.YtboneknainlodaaW.PrintWords Go.Proofs.YtboneknainlodaaW.PrintLast Go.Proofs.YtboneknainlodaaW.PrintMore
attribute [local go_sem] max2_int min2_int max_two min_two max_three min_three max_four min_four   -- for this text's walks alone
set_option linter.unusedVariables false
set_option linter.unusedSimpArgs false

/-! ### remontoirref07_Split: function 17 -/
def remontoirref07_Split.l0 : Nat → List (S32) → Int → Int → List (S32) → List (S32) → Option ((List (S32)) × (List (S32)))
  | 0, _, _, _, _, _ => none
  | k + 1, x0, x1, x6, x267000, x267001 => if x6 < (x0.length : Int) then (if 0 ≤ x6 then (if ((rd_T32 x0 x6).f1) ≤ x1 then (if x267000.length < 8796093022208 then (remontoirref07_Split.l0 k x0 x1 (wrap64 (x6 + 1)) (x267000 ++ [(⟨(rd_T32 x0 x6).f0, (rd_T32 x0 x6).f1⟩ : S32)]) x267001) else (none)) else (if x267001.length < 8796093022208 then (remontoirref07_Split.l0 k x0 x1 (wrap64 (x6 + 1)) x267000 (x267001 ++ [(⟨(rd_T32 x0 x6).f0, (rd_T32 x0 x6).f1⟩ : S32)])) else (none))) else (none)) else (some (x267000, x267001))
def remontoirref07_Split.f (k : Nat) (l0 : List (S32)) (a1 : Int) : Option ((List (S32)) × (List (S32))) := remontoirref07_Split.l0 k l0 a1 0 ([] : List (S32)) ([] : List (S32))
theorem remontoirref07_Split.mono_l : ∀ k, (∀ y0 y1 y2 y3 y4, LeO (remontoirref07_Split.l0 k y0 y1 y2 y3 y4) (remontoirref07_Split.l0 (k + 1) y0 y1 y2 y3 y4))
  | 0 => fun _ _ _ _ _ r h => by simp [remontoirref07_Split.l0] at h
  | k + 1 => by
    have ih0 := remontoirref07_Split.mono_l k
    · intro y0 y1 y2 y3 y4
      unfold remontoirref07_Split.l0
      repeat' first
      | (with_reducible exact ih0 _ _ _ _ _)
      | (with_reducible exact LeO.refl _)
      | (with_reducible exact LeO.none _)
      | (with_reducible refine LeO.ite ?_ ?_)
      | (with_reducible refine LeO.bind ?_ (fun _ => ?_))
      | exact ih0 _ _ _ _ _
      | exact LeO.none _
      | refine LeO.ite ?_ ?_
      | refine LeO.bind ?_ (fun _ => ?_)
theorem remontoirref07_Split.mono : ∀ a0 a1 k, LeO (remontoirref07_Split.f k a0 a1) (remontoirref07_Split.f (k + 1) a0 a1) := by
  intro a0 a1 k
  have ih0 := remontoirref07_Split.mono_l k
  unfold remontoirref07_Split.f
  repeat' first
      | (with_reducible exact ih0 _ _ _ _ _)
      | (with_reducible exact LeO.refl _)
      | (with_reducible exact LeO.none _)
      | (with_reducible refine LeO.ite ?_ ?_)
      | (with_reducible refine LeO.bind ?_ (fun _ => ?_))
      | exact ih0 _ _ _ _ _
      | exact LeO.none _
      | refine LeO.ite ?_ ?_
      | refine LeO.bind ?_ (fun _ => ?_)
def remontoirref07_Split.T6 : Bool × List (List Nat × List Nat) := (true, [([], []), ([0], [0]), ([], []), ([], []), ([2, 3], [2, 3]), ([4], [4]), ([5], [5]), ([1, 6], [1, 6]), ([0, 1, 2, 3, 4, 5, 6, 7], []), ([8, 7, 7, 0, 1, 2, 3, 4, 5, 6, 7], [7, 8])])
def remontoirref07_Split.B6 : List Nat := [0, 1, 0, 0, 12, 28, 60, 127, 255, 511]
theorem remontoirref07_Split.tab6 : rtab .any (opsOf Try.f17 6) = remontoirref07_Split.T6 := by kernel_rfl
theorem remontoirref07_Split.bits6 : waitsOk remontoirref07_Split.T6.2 remontoirref07_Split.B6 = true := by kernel_rfl
def remontoirref07_Split.T7 : Bool × List (List Nat × List Nat) := (true, [([], []), ([0], [0]), ([], []), ([], []), ([2, 3], [2, 3]), ([4], [4]), ([5], [5]), ([1, 6], [1, 6]), ([0, 1, 2, 3, 4, 5, 6, 7], []), ([8, 7, 7, 0, 1, 2, 3, 4, 5, 6, 7], [7, 8])])
def remontoirref07_Split.B7 : List Nat := [0, 1, 0, 0, 12, 28, 60, 127, 255, 511]
theorem remontoirref07_Split.tab7 : rtab .any (opsOf Try.f17 7) = remontoirref07_Split.T7 := by kernel_rfl
theorem remontoirref07_Split.bits7 : waitsOk remontoirref07_Split.T7.2 remontoirref07_Split.B7 = true := by kernel_rfl
set_option maxHeartbeats 8000000 in
set_option maxRecDepth 100000 in
theorem remontoirref07_Split.calls (k : Nat) (A0 : Option Addr) (c0 : Nat) (l0 : List (S32)) (a1 : Int) (r1 : List (S32)) (r2 : List (S32)) (w : World) (hr0 : Kd.C k32 w A0 l0.length l0) (hc0 : l0.length ≤ c0) (h : remontoirref07_Split.f k l0 a1 = some (r1, r2)) :
    Calls Try.prog 17 #[.slice A0 l0.length c0, .int .u64 a1] w fun e w' => ∃ v0_ v1_ : Value, e = .returned (.agg #[v0_, v1_]) ∧ Kd.R k32 32 w' w.heap.size (fun k_ => some k_ ≠ (v1_ : Value).ownBlock) v0_ r1 ∧ Kd.R k32 32 w' w.heap.size (fun k_ => some k_ ≠ (v0_ : Value).ownBlock) v1_ r2 ∧ Below w.heap.size w w' := by
  have hu42 := Try.underlying42
  have hu32 := Try.underlying32
  have HR0 := Aside0.mk hr0
  have HC0 := Aside0.mk hc0
  clear hr0 hc0
  have HB := Aside0.mk (Below.refl w.heap.size w)
  have H : (remontoirref07_Split.l0 k l0 a1 0 ([] : List (S32)) ([] : List (S32))) = some (r1, r2) := h
  clear h
  have H' := Aside0.mk H
  clear H
  go_enter Try.func17, Try.ntmps17
  go_wp2_with (first | ((with_reducible refine gate_dst (N := 4) rfl ?_); refine box_event ?hg (N := 4) ?hd (cs := #[.slice none 0 0, .slice none 0 0]) (t := 42) ?hr ?_; (case hd => rfl); (case hg => rfl); (case hr => first | (go_simp; done) | (go_simp; rfl)); intro gb265 hg w3 hbox hb; have n0_ := Aside0.mk (below_step (by repeat (first | (with_reducible first | exact HB.out | apply below_alloc | apply pw_below_drewN | apply below_drew1) | exact HB.out)) hb); have n1_ := Aside0.mk (hbox); have n2_ := Aside0.mk ((by rw [hg]; exact (below_size (by repeat (first | (with_reducible first | exact HB.out | apply below_alloc | apply pw_below_drewN | apply below_drew1) | exact HB.out))) : w.heap.size ≤ gb265)); have n3_ := Aside0.mk ((by rw [hg]; exact (below_size (by repeat (first | (with_reducible first | exact HB.out | apply below_alloc | apply pw_below_drewN | apply below_drew1) | exact HB.out))) : w.heap.size ≤ gb265)); clear HB; have HB := n0_; have BK265 := n1_; have GW265 := n2_; have GE265 := n3_; clear n0_ n1_ n2_ n3_; clear hb hbox hg) | ((with_reducible refine gate_dst (N := 5) rfl ?_); refine box_event ?hg (N := 5) ?hd (cs := #[.slice none 0 0, .slice none 0 0]) (t := 42) ?hr ?_; (case hd => rfl); (case hg => rfl); (case hr => first | (go_simp; done) | (go_simp; rfl)); intro gb266 hg w4 hbox hb; have n0_ := Aside0.mk (blk_below (g := gb265) (o := .cells #[.slice none 0 0, .slice none 0 0] 42 (0, 0)) (by (with_reducible repeat (first | refine blk_drewN ?_ _ | refine blk_drew ?_ | refine blk_alloc ?_ _)); exact BK265.out) hb); have n1_ := Aside0.mk (below_step (by repeat (first | (with_reducible first | exact HB.out | apply below_alloc | apply pw_below_drewN | apply below_drew1 | refine below_set ?_ GE265.out) | exact HB.out)) hb); have n2_ := Aside0.mk (hbox); have n3_ := Aside0.mk ((by rw [hg]; exact (below_size (by repeat (first | (with_reducible first | exact HB.out | apply below_alloc | apply pw_below_drewN | apply below_drew1 | refine below_set ?_ GE265.out) | exact HB.out))) : w.heap.size ≤ gb266)); have n4_ := Aside0.mk ((by rw [hg]; exact (below_size (by repeat (first | (with_reducible first | exact HB.out | apply below_alloc | apply pw_below_drewN | apply below_drew1 | refine below_set ?_ GE265.out) | exact HB.out))) : w.heap.size ≤ gb266)); have n5_ := Aside0.mk ((by rw [hg]; exact Nat.ne_of_lt (blk_lt (g := gb265) (o := .cells #[.slice none 0 0, .slice none 0 0] 42 (0, 0)) (by (with_reducible repeat (first | refine blk_drewN ?_ _ | refine blk_drew ?_ | refine blk_alloc ?_ _)); exact BK265.out)) : gb265 ≠ gb266)); have n6_ := Aside0.mk ((by rw [hg]; exact Nat.ne_of_gt (blk_lt (g := gb265) (o := .cells #[.slice none 0 0, .slice none 0 0] 42 (0, 0)) (by (with_reducible repeat (first | refine blk_drewN ?_ _ | refine blk_drew ?_ | refine blk_alloc ?_ _)); exact BK265.out)) : gb266 ≠ gb265)); clear BK265; clear HB; have BK265 := n0_; have HB := n1_; have BK266 := n2_; have GW266 := n3_; have GE266 := n4_; have NB265_266 := n5_; have NB266_265 := n6_; clear n0_ n1_ n2_ n3_ n4_ n5_ n6_; clear hb hbox hg))
  go_loopg [6] k (fun kq v6 w' => ∃ (x6_1 : Int) (x267000_1 : List (S32)) (x267001_1 : List (S32)) (u267000 : Value) (u267001 : Value), v6 = .int .i64 x6_1 ∧ Aside0 (remontoirref07_Split.l0 kq l0 a1 x6_1 x267000_1 x267001_1 = some (r1, r2)) ∧ Aside0 (kq ≤ k) ∧ Aside0 (Kd.R k32 32 w' w.heap.size (fun k_ => some k_ ≠ (u267001 : Value).ownBlock) u267000 x267000_1) ∧ Aside0 (Kd.R k32 32 w' w.heap.size (fun k_ => some k_ ≠ (u267000 : Value).ownBlock) u267001 x267001_1) ∧ Aside0 (w'.heap[gb265]? = some (.cells #[(.slice none 0 0), (.slice none 0 0)] 42 (0, 0))) ∧ Aside0 (w'.heap[gb266]? = some (.cells #[u267000, u267001] 42 (0, 0))) ∧ Aside0 (Below w.heap.size w w'))
  case atStart => exact ⟨(0), (([] : List (S32))), (([] : List (S32))), (.slice none 0 0), (.slice none 0 0), (by first | rfl | (simp; done) | (simp [*]; done)), H', ⟨Nat.le_refl _⟩, ⟨by first | exact Kd.R_nil _ _ _ _ _ | exact Kd.N_nil _ _ _ _ _ | exact Kd.V_nil _ _ _ _ _ | exact Kd.Q_nil _ _ _ _ _ | exact Kd.S_nil _ _ _ _ _⟩, ⟨by first | exact Kd.R_nil _ _ _ _ _ | exact Kd.N_nil _ _ _ _ _ | exact Kd.V_nil _ _ _ _ _ | exact Kd.Q_nil _ _ _ _ _ | exact Kd.S_nil _ _ _ _ _⟩, ⟨by (with_reducible repeat (first | refine blk_drewN ?_ _ | refine blk_drew ?_ | refine blk_alloc ?_ _)); exact BK265.out⟩, ⟨by (with_reducible repeat (first | refine blk_drewN ?_ _ | refine blk_drew ?_ | refine blk_alloc ?_ _)); exact BK266.out⟩, ⟨by repeat (first | (with_reducible first | exact HB.out | apply below_alloc | apply pw_below_drewN | apply below_drew1 | refine below_set ?_ GE265.out | refine below_set ?_ GE266.out) | exact HB.out)⟩⟩
  case round =>
    clear H'
    try clear c1
    try clear p2
    obtain ⟨x6_1, x267000_1, x267001_1, u267000, u267001, rfl, HA, HK1, HO_267000, HO_267001, BK265, BK266, HB⟩ := hrel
    cases gk with
    | zero => exact absurd HA.out (by simp [remontoirref07_Split.l0])
    | succ k1 =>
      have H := HA.out
      clear HA
      simp only [remontoirref07_Split.l0] at H
      by_cases c5 : x6_1 < (l0.length : Int)
      · rw [if_pos c5] at H
        have c5b0 : decide (x6_1 < (l0.length : Int)) = true := decide_eq_true c5
        clear c5
        by_cases c6 : 0 ≤ x6_1
        · rw [if_pos c6] at H
          have c6b0 : decide (0 ≤ x6_1) = true := decide_eq_true c6
          clear c6
          by_cases c7 : ((rd_T32 l0 x6_1).f1) ≤ a1
          · rw [if_pos c7] at H
            have c7b0 : decide (((rd_T32 l0 x6_1).f1) ≤ a1) = true := decide_eq_true c7
            clear c7
            by_cases c8 : x267000_1.length < 8796093022208
            · rw [if_pos c8] at H
              have LMc8 := Aside0.mk c8
              clear c8
              obtain ⟨y269, hy269⟩ : ∃ y_ : List (S32), y_ = (x267000_1 ++ [(⟨(rd_T32 l0 x6_1).f0, (rd_T32 l0 x6_1).f1⟩ : S32)]) := ⟨_, rfl⟩
              replace H : (remontoirref07_Split.l0 k1 l0 a1 (wrap64 (x6_1 + 1)) y269 x267001_1) = some (r1, r2) := by first | (rw [hy269]; with_reducible exact H) | (have H2_ := (Option.bind_some _ _).symm.trans H; rw [hy269]; with_reducible exact H2_) | (have H2_ := (Option.bind_some _ _).symm.trans H; with_reducible exact H2_) | with_reducible exact H | (rw [hy269]; exact H) | exact H
              have Ny269 := Aside0.mk hy269
              clear hy269
              have H' := Aside0.mk H
              clear H
              have p267 : 0 ≤ (x6_1 : Int) := of_decide_eq_true (by first | (with_reducible assumption) | assumption)
              have q267 : x6_1 < (l0.length : Int) := of_decide_eq_true (by first | (with_reducible assumption) | assumption)
              obtain ⟨ad267, e267, hx267_0, hx267_1⟩ := at_T32 HR0.out x6_1 p267 q267
              cases e267
              replace hx267_0 := (HB.out.cell (World.block_lt_of_cell? w _ hx267_0)).trans hx267_0
              replace hx267_1 := (HB.out.cell (World.block_lt_of_cell? w _ hx267_1)).trans hx267_1
              replace p267 := eq_true p267
              replace q267 := eq_true q267
              try go_wp2
              have n0_ := Aside0.mk (Kd.R_drew HO_267000.out)
              have n1_ := Aside0.mk (Kd.R_drew HO_267001.out)
              have n2_ := Aside0.mk (blk_drew BK265.out)
              have n3_ := Aside0.mk (blk_drew BK266.out)
              have n4_ := Aside0.mk (below_drew1 HB.out)
              clear HO_267000
              clear HO_267001
              clear BK265
              clear BK266
              clear HB
              have HO_267000 := n0_
              have HO_267001 := n1_
              have BK265 := n2_
              have BK266 := n3_
              have HB := n4_
              clear n0_ n1_ n2_ n3_ n4_
              have p268 : 0 ≤ (x6_1 : Int) := of_decide_eq_true (by first | (with_reducible assumption) | assumption)
              have q268 : x6_1 < (l0.length : Int) := of_decide_eq_true (by first | (with_reducible assumption) | assumption)
              obtain ⟨ad268, e268, hx268_0, hx268_1⟩ := at_T32 HR0.out x6_1 p268 q268
              have hw268_1 := hx268_1
              have hw268_0 := hx268_0
              obtain rfl : ad267 = ad268 := (by injection e268)
              replace hx268_0 := (HB.out.cell (World.block_lt_of_cell? w _ hx268_0)).trans hx268_0
              replace hx268_1 := (HB.out.cell (World.block_lt_of_cell? w _ hx268_1)).trans hx268_1
              replace p268 := eq_true p268
              replace q268 := eq_true q268
              refine start_ (n := 10) (S := fun w' => w'.cell? ⟨gb266, 0, none⟩ = some (u267000) ∧ w'.cell? ⟨gb266, 1, none⟩ = some (u267001) ∧ w'.cell? (ad267.add ((x6_1).toNat * 2)) = some (.int .i64 ((rd_T32 l0 x6_1).f0)) ∧ w'.cell? ⟨(ad267.add ((x6_1).toNat * 2)).block, (ad267.add ((x6_1).toNat * 2)).off + 1, none⟩ = some (.int .u64 ((rd_T32 l0 x6_1).f1))) (ds := [9]) #[false, false, false, false, false, false, false, false, false, false] (by kernel_rfl) rfl rfl ⟨(blk_cell BK266.out 0).trans rfl, (blk_cell BK266.out 1).trans rfl, ((HB.out.cell (World.block_lt_of_cell? w _ hw268_0)).trans hw268_0), ((HB.out.cell (World.block_lt_of_cell? w _ hw268_1)).trans hw268_1)⟩ (fun hHeld => ?_); refine with_tabW remontoirref07_Split.tab6 remontoirref07_Split.bits6 (fun HT_ HW_ => ?_)
              generalize wr.drew = w9 at HO_267000 HO_267001 BK265 BK266 HB hx268_0 hx268_1 hHeld ⊢
              refine pure_ (i := 0) (N := some 20) (v := ?_) (a' := ?_) #[true, false, false, false, false, false, false, false, false, false] rfl rfl (any_of HT_.out (by kernel_rfl)) (fun _ _ _ h => h) (Or.inl ⟨by rfl, ?_⟩) ?_ ?_
              rotate_left
              · intro w'
                go_simp
                with_reducible rfl
              rotate_left
              · simp only [Act.put, List.setIfInBounds_toArray, List.set_cons_zero, List.set_cons_succ, i64_w, i32_w]
                rfl
              refine pure_ (i := 2) (N := some 22) (v := ?_) (a' := ?_) #[true, false, true, false, false, false, false, false, false, false] rfl rfl (any_of HT_.out (by kernel_rfl)) (fun _ _ _ h => h) (Or.inl ⟨by rfl, ?_⟩) ?_ ?_
              rotate_left
              · intro w'
                go_simp
                with_reducible rfl
              rotate_left
              · simp only [Act.put, List.setIfInBounds_toArray, List.set_cons_zero, List.set_cons_succ, i64_w, i32_w]
                rfl
              refine pure_ (i := 3) (N := some 23) (v := ?_) (a' := ?_) #[true, false, true, true, false, false, false, false, false, false] rfl rfl (any_of HT_.out (by kernel_rfl)) (fun _ _ _ h => h) (Or.inl ⟨by rfl, ?_⟩) ?_ ?_
              rotate_left
              · intro w'
                go_simp
                with_reducible rfl
              rotate_left
              · simp only [Act.put, List.setIfInBounds_toArray, List.set_cons_zero, List.set_cons_succ, i64_w, i32_w]
                rfl
              refine pure_ (i := 4) (N := some 24) (v := ?_) (a' := ?_) #[true, false, true, true, true, false, false, false, false, false] rfl rfl (any_of HT_.out (by kernel_rfl)) (fun _ _ _ h => h) (Or.inl ⟨by rfl, ?_⟩) ?_ ?_
              rotate_left
              · intro w'
                go_simp
                with_reducible rfl
              rotate_left
              · simp only [Act.put, List.setIfInBounds_toArray, List.set_cons_zero, List.set_cons_succ, i64_w, i32_w]
                rfl
              refine take_ (i := 1) (N := some 21) (v := ?_) (a' := ?_) #[true, true, true, true, true, false, false, false, false, false] rfl rfl (take_ofW HT_.out HW_.out (by kernel_rfl)) (fun _ _ _ h => h) (Or.inl ⟨by rfl, ?_⟩) hHeld ?_ ?_
              rotate_left
              · rintro w' ⟨s0, s1, s2, s3⟩
                go_simp
                with_reducible rfl
              rotate_left
              · simp only [Act.put, List.setIfInBounds_toArray, List.set_cons_zero, List.set_cons_succ, i64_w, i32_w]
                rfl
              refine take_ (i := 5) (N := some 25) (v := ?_) (a' := ?_) #[true, true, true, true, true, true, false, false, false, false] rfl rfl (take_ofW HT_.out HW_.out (by kernel_rfl)) (fun _ _ _ h => h) (Or.inl ⟨by rfl, ?_⟩) hHeld ?_ ?_
              rotate_left
              · rintro w' ⟨s0, s1, s2, s3⟩
                go_simp
                with_reducible rfl
              rotate_left
              · simp only [Act.put, List.setIfInBounds_toArray, List.set_cons_zero, List.set_cons_succ, i64_w, i32_w]
                rfl
              refine one_ (i := 6) (N := some 26) #[true, true, true, true, true, true, true, false, false, false] rfl rfl (one_of HT_.out (by kernel_rfl)) (by decide) (fun K hK => ?_)
              refine value_ (w1 := ?_) (v := ?_) (by rfl) rfl ?_ ?_
              rotate_left 2
              · go_simp
                constructor
                · rfl
                · rfl
              refine hK.out _ _ ⟨(blk_cell (blk_alloc BK266.out _) 0).trans rfl, (blk_cell (blk_alloc BK266.out _) 1).trans rfl, (World.cell?_alloc_lt _ _ _ (World.block_lt_of_cell? _ _ (((HB.out.cell (World.block_lt_of_cell? w _ hw268_0)).trans hw268_0)))).trans (((HB.out.cell (World.block_lt_of_cell? w _ hw268_0)).trans hw268_0)), (World.cell?_alloc_lt _ _ _ (World.block_lt_of_cell? _ _ (((HB.out.cell (World.block_lt_of_cell? w _ hw268_1)).trans hw268_1)))).trans (((HB.out.cell (World.block_lt_of_cell? w _ hw268_1)).trans hw268_1))⟩ (fun hHeld => ?_)
              clear hK K
              refine norm_ (a' := ?_) ?_ ?_
              rotate_left
              · show Act.put _ (some 26) _ = _
                simp only [Act.put, List.setIfInBounds_toArray, List.set_cons_zero, List.set_cons_succ, i64_w, i32_w]
                rfl
              refine one_ (i := 7) (N := some 27) #[true, true, true, true, true, true, true, true, false, false] rfl rfl (one_of HT_.out (by kernel_rfl)) (by decide) (fun K hK => ?_)
              refine Kd.R_append_step k32 (w0 := w) w.heap.size (by rfl) (.tmp 21) (.tmp 26) 22 32 (.agg #[(.int .i64 0), (.int .u64 0)]) 16 rfl Try.underlying22 info32 rfl (by decide) (by omega) u267000 x267000_1 (⟨(rd_T32 l0 x6_1).f0, (rd_T32 l0 x6_1).f1⟩ : S32) [.int .i64 ((rd_T32 l0 x6_1).f0), .int .u64 ((rd_T32 l0 x6_1).f1)] (fun k_ => some k_ ≠ (u267001 : Value).ownBlock) (fun _ => False) rfl rfl ?aP (fun _ hk => hk.elim) ?aF ?aO ?aB ?aS ?aL ?_
              (case aP => exact k32_mkM _ _ _ (⟨(rd_T32 l0 x6_1).f0, (rd_T32 l0 x6_1).f1⟩ : S32))
              (case aB => exact (by repeat (first | (with_reducible first | exact HB.out | apply below_alloc | apply pw_below_drewN | apply below_drew1 | refine below_set ?_ GE265.out | refine below_set ?_ GE266.out) | exact HB.out)))
              (case aF => exact (fun k_ hk => Kd.fresh' (Kd.R_lt (by (with_reducible repeat (first | apply Kd.R_alloc | apply Kd.R_drewN | apply Kd.R_drew)); exact HO_267001.out)) k_ hk))
              (case aO => exact (by (with_reducible repeat (first | apply Kd.R_alloc | apply Kd.R_drewN | apply Kd.R_drew)); exact HO_267000.out))
              (case aS => exact (below_size (by repeat (first | (with_reducible first | exact HB.out | apply below_alloc | apply pw_below_drewN | apply below_drew1 | refine below_set ?_ GE265.out | refine below_set ?_ GE266.out) | exact HB.out))))
              (case aL => have := LMc8.out; omega)
              intro v270 w10 ho hb hg hat
              rw [← Ny269.out] at ho
              have n0_ := Aside0.mk (Kd.R_after (ok := (fun _ => True)) (by (with_reducible repeat (first | apply Kd.R_alloc | apply Kd.R_drewN | apply Kd.R_drew)); exact Kd.R_mono HO_267001.out (fun _ hk => ⟨trivial, hk⟩)) hg hat)
              have n1_ := Aside0.mk (blk_grown (g := gb265) (o := .cells #[.slice none 0 0, .slice none 0 0] 42 (0, 0)) (by (with_reducible repeat (first | refine blk_drewN ?_ _ | refine blk_drew ?_ | refine blk_alloc ?_ _)); exact BK265.out) hg (Kd.R_ne HO_267000.out BK265.out (by decide)))
              have n2_ := Aside0.mk (blk_grown (g := gb266) (o := .cells #[u267000, u267001] 42 (0, 0)) (by (with_reducible repeat (first | refine blk_drewN ?_ _ | refine blk_drew ?_ | refine blk_alloc ?_ _)); exact BK266.out) hg (Kd.R_ne HO_267000.out BK266.out (by decide)))
              have n3_ := Aside0.mk (hb)
              have n4_ := Aside0.mk (ho)
              clear HO_267001
              clear BK265
              clear BK266
              clear HB
              clear HO_267000
              have HO_267001 := n0_
              have BK265 := n1_
              have BK266 := n2_
              have HB := n3_
              have HO271 := n4_
              clear n0_ n1_ n2_ n3_ n4_
              clear ho hb hg hat
              obtain ⟨Ao11, co11, eo11⟩ := Kd.R_slice HO271.out
              (first | subst eo11 | (injection eo11 with f1_ f2_ f3_; have f4_ := f1_.symm; have f5_ := f3_.symm; clear f1_ f2_ f3_; subst f4_; subst f5_))
              refine hK.out _ _ ⟨(blk_cell BK266.out 0).trans rfl, (blk_cell BK266.out 1).trans rfl, ((HB.out.cell (World.block_lt_of_cell? w _ hw268_0)).trans hw268_0), ((HB.out.cell (World.block_lt_of_cell? w _ hw268_1)).trans hw268_1)⟩ (fun hHeld => ?_)
              clear hK K
              refine norm_ (a' := ?_) ?_ ?_
              rotate_left
              · show Act.put _ (some 27) _ = _
                simp only [Act.put, List.setIfInBounds_toArray, List.set_cons_zero, List.set_cons_succ, i64_w, i32_w]
                rfl
              refine pure_ (i := 8) (N := some 28) (v := ?_) (a' := ?_) #[true, true, true, true, true, true, true, true, true, false] rfl rfl (any_of HT_.out (by kernel_rfl)) (fun _ _ _ h => h) (Or.inl ⟨by rfl, ?_⟩) ?_ ?_
              rotate_left
              · intro w'
                go_simp
                with_reducible rfl
              rotate_left
              · simp only [Act.put, List.setIfInBounds_toArray, List.set_cons_zero, List.set_cons_succ, i64_w, i32_w]
                rfl
              refine last_ (i := 9) (N := none) #[true, true, true, true, true, true, true, true, true, true] rfl rfl (one_of HT_.out (by kernel_rfl)) (by decide) (fun K hK => ?_)
              have hs12 : w10.cell? ⟨gb266, 0, none⟩ = some (u267000) := (blk_cell BK266.out 0).trans rfl
              have hfs12 := blk_frozen BK266.out 0
              have hns12_0 := NB265_266.out
              have hms12_0 := NB266_265.out
              refine skip_ (w1 := ?_) (by rfl) rfl ?_ ?_
              rotate_left
              · go_simp
                rfl
              refine hK.out _ _ ?_
              clear hK K
              refine done_ (done_of HT_.out (by kernel_rfl)) ?_
              try go_wp2
              go_roundg k1
              case measure => have := HK1.out; omega
              case rel => exact ⟨(wrap64 (x6_1 + 1)), (y269), (x267001_1), (.slice Ao11 y269.length co11), (u267001), (by first | rfl | (simp; done) | (simp [*]; done)), H', ⟨by have := HK1.out; omega⟩, ⟨by (with_reducible repeat (first | apply Kd.R_alloc | apply Kd.R_drewN | apply Kd.R_drew)); exact Kd.R_mono (Kd.R_far (p := ⟨gb266, 0, none⟩) (Kd.R_types HO271.out BK266.out (by decide)) (fun _ hk => hk.2) (.slice Ao11 y269.length co11)) (fun _ hk => hk.1)⟩, ⟨by (with_reducible repeat (first | apply Kd.R_alloc | apply Kd.R_drewN | apply Kd.R_drew)); exact Kd.R_mono (Kd.R_far (p := ⟨gb266, 0, none⟩) (Kd.R_types HO_267001.out BK266.out (by decide)) (fun _ hk => hk.2) (.slice Ao11 y269.length co11)) (fun _ hk => hk.1.2)⟩, ⟨by (with_reducible repeat (first | refine blk_drewN ?_ _ | refine blk_drew ?_ | refine blk_alloc ?_ _)); refine blk_far ?_ NB265_266.out _; (with_reducible repeat (first | refine blk_drewN ?_ _ | refine blk_drew ?_ | refine blk_alloc ?_ _)); exact BK265.out⟩, ⟨by (with_reducible repeat (first | refine blk_drewN ?_ _ | refine blk_drew ?_ | refine blk_alloc ?_ _)); refine blk_put (cs := #[u267000, u267001]) ?_ 0 _ rfl; (with_reducible repeat (first | refine blk_drewN ?_ _ | refine blk_drew ?_ | refine blk_alloc ?_ _)); exact BK266.out⟩, ⟨by repeat (first | (with_reducible first | exact HB.out | apply below_alloc | apply pw_below_drewN | apply below_drew1 | refine below_set ?_ GE265.out | refine below_set ?_ GE266.out) | exact HB.out)⟩⟩
            · rw [if_neg c8] at H
              exact absurd H (by simp)
          · rw [if_neg c7] at H
            have c7b0 : decide (((rd_T32 l0 x6_1).f1) ≤ a1) = false := decide_eq_false c7
            clear c7
            by_cases c13 : x267001_1.length < 8796093022208
            · rw [if_pos c13] at H
              have LMc13 := Aside0.mk c13
              clear c13
              obtain ⟨y273, hy273⟩ : ∃ y_ : List (S32), y_ = (x267001_1 ++ [(⟨(rd_T32 l0 x6_1).f0, (rd_T32 l0 x6_1).f1⟩ : S32)]) := ⟨_, rfl⟩
              replace H : (remontoirref07_Split.l0 k1 l0 a1 (wrap64 (x6_1 + 1)) x267000_1 y273) = some (r1, r2) := by first | (rw [hy273]; with_reducible exact H) | (have H2_ := (Option.bind_some _ _).symm.trans H; rw [hy273]; with_reducible exact H2_) | (have H2_ := (Option.bind_some _ _).symm.trans H; with_reducible exact H2_) | with_reducible exact H | (rw [hy273]; exact H) | exact H
              have Ny273 := Aside0.mk hy273
              clear hy273
              have H' := Aside0.mk H
              clear H
              have p267 : 0 ≤ (x6_1 : Int) := of_decide_eq_true (by first | (with_reducible assumption) | assumption)
              have q267 : x6_1 < (l0.length : Int) := of_decide_eq_true (by first | (with_reducible assumption) | assumption)
              obtain ⟨ad267, e267, hx267_0, hx267_1⟩ := at_T32 HR0.out x6_1 p267 q267
              cases e267
              replace hx267_0 := (HB.out.cell (World.block_lt_of_cell? w _ hx267_0)).trans hx267_0
              replace hx267_1 := (HB.out.cell (World.block_lt_of_cell? w _ hx267_1)).trans hx267_1
              replace p267 := eq_true p267
              replace q267 := eq_true q267
              try go_wp2
              have n0_ := Aside0.mk (Kd.R_drew HO_267000.out)
              have n1_ := Aside0.mk (Kd.R_drew HO_267001.out)
              have n2_ := Aside0.mk (blk_drew BK265.out)
              have n3_ := Aside0.mk (blk_drew BK266.out)
              have n4_ := Aside0.mk (below_drew1 HB.out)
              clear HO_267000
              clear HO_267001
              clear BK265
              clear BK266
              clear HB
              have HO_267000 := n0_
              have HO_267001 := n1_
              have BK265 := n2_
              have BK266 := n3_
              have HB := n4_
              clear n0_ n1_ n2_ n3_ n4_
              have p272 : 0 ≤ (x6_1 : Int) := of_decide_eq_true (by first | (with_reducible assumption) | assumption)
              have q272 : x6_1 < (l0.length : Int) := of_decide_eq_true (by first | (with_reducible assumption) | assumption)
              obtain ⟨ad272, e272, hx272_0, hx272_1⟩ := at_T32 HR0.out x6_1 p272 q272
              have hw272_1 := hx272_1
              have hw272_0 := hx272_0
              obtain rfl : ad267 = ad272 := (by injection e272)
              replace hx272_0 := (HB.out.cell (World.block_lt_of_cell? w _ hx272_0)).trans hx272_0
              replace hx272_1 := (HB.out.cell (World.block_lt_of_cell? w _ hx272_1)).trans hx272_1
              replace p272 := eq_true p272
              replace q272 := eq_true q272
              refine start_ (n := 10) (S := fun w' => w'.cell? ⟨gb266, 0, none⟩ = some (u267000) ∧ w'.cell? ⟨gb266, 1, none⟩ = some (u267001) ∧ w'.cell? (ad267.add ((x6_1).toNat * 2)) = some (.int .i64 ((rd_T32 l0 x6_1).f0)) ∧ w'.cell? ⟨(ad267.add ((x6_1).toNat * 2)).block, (ad267.add ((x6_1).toNat * 2)).off + 1, none⟩ = some (.int .u64 ((rd_T32 l0 x6_1).f1))) (ds := [9]) #[false, false, false, false, false, false, false, false, false, false] (by kernel_rfl) rfl rfl ⟨(blk_cell BK266.out 0).trans rfl, (blk_cell BK266.out 1).trans rfl, ((HB.out.cell (World.block_lt_of_cell? w _ hw272_0)).trans hw272_0), ((HB.out.cell (World.block_lt_of_cell? w _ hw272_1)).trans hw272_1)⟩ (fun hHeld => ?_); refine with_tabW remontoirref07_Split.tab7 remontoirref07_Split.bits7 (fun HT_ HW_ => ?_)
              generalize wr.drew = w14 at HO_267000 HO_267001 BK265 BK266 HB hx272_0 hx272_1 hHeld ⊢
              refine pure_ (i := 0) (N := some 29) (v := ?_) (a' := ?_) #[true, false, false, false, false, false, false, false, false, false] rfl rfl (any_of HT_.out (by kernel_rfl)) (fun _ _ _ h => h) (Or.inl ⟨by rfl, ?_⟩) ?_ ?_
              rotate_left
              · intro w'
                go_simp
                with_reducible rfl
              rotate_left
              · simp only [Act.put, List.setIfInBounds_toArray, List.set_cons_zero, List.set_cons_succ, i64_w, i32_w]
                rfl
              refine pure_ (i := 2) (N := some 31) (v := ?_) (a' := ?_) #[true, false, true, false, false, false, false, false, false, false] rfl rfl (any_of HT_.out (by kernel_rfl)) (fun _ _ _ h => h) (Or.inl ⟨by rfl, ?_⟩) ?_ ?_
              rotate_left
              · intro w'
                go_simp
                with_reducible rfl
              rotate_left
              · simp only [Act.put, List.setIfInBounds_toArray, List.set_cons_zero, List.set_cons_succ, i64_w, i32_w]
                rfl
              refine pure_ (i := 3) (N := some 32) (v := ?_) (a' := ?_) #[true, false, true, true, false, false, false, false, false, false] rfl rfl (any_of HT_.out (by kernel_rfl)) (fun _ _ _ h => h) (Or.inl ⟨by rfl, ?_⟩) ?_ ?_
              rotate_left
              · intro w'
                go_simp
                with_reducible rfl
              rotate_left
              · simp only [Act.put, List.setIfInBounds_toArray, List.set_cons_zero, List.set_cons_succ, i64_w, i32_w]
                rfl
              refine pure_ (i := 4) (N := some 33) (v := ?_) (a' := ?_) #[true, false, true, true, true, false, false, false, false, false] rfl rfl (any_of HT_.out (by kernel_rfl)) (fun _ _ _ h => h) (Or.inl ⟨by rfl, ?_⟩) ?_ ?_
              rotate_left
              · intro w'
                go_simp
                with_reducible rfl
              rotate_left
              · simp only [Act.put, List.setIfInBounds_toArray, List.set_cons_zero, List.set_cons_succ, i64_w, i32_w]
                rfl
              refine take_ (i := 1) (N := some 30) (v := ?_) (a' := ?_) #[true, true, true, true, true, false, false, false, false, false] rfl rfl (take_ofW HT_.out HW_.out (by kernel_rfl)) (fun _ _ _ h => h) (Or.inl ⟨by rfl, ?_⟩) hHeld ?_ ?_
              rotate_left
              · rintro w' ⟨s0, s1, s2, s3⟩
                go_simp
                with_reducible rfl
              rotate_left
              · simp only [Act.put, List.setIfInBounds_toArray, List.set_cons_zero, List.set_cons_succ, i64_w, i32_w]
                rfl
              refine take_ (i := 5) (N := some 34) (v := ?_) (a' := ?_) #[true, true, true, true, true, true, false, false, false, false] rfl rfl (take_ofW HT_.out HW_.out (by kernel_rfl)) (fun _ _ _ h => h) (Or.inl ⟨by rfl, ?_⟩) hHeld ?_ ?_
              rotate_left
              · rintro w' ⟨s0, s1, s2, s3⟩
                go_simp
                with_reducible rfl
              rotate_left
              · simp only [Act.put, List.setIfInBounds_toArray, List.set_cons_zero, List.set_cons_succ, i64_w, i32_w]
                rfl
              refine one_ (i := 6) (N := some 35) #[true, true, true, true, true, true, true, false, false, false] rfl rfl (one_of HT_.out (by kernel_rfl)) (by decide) (fun K hK => ?_)
              refine value_ (w1 := ?_) (v := ?_) (by rfl) rfl ?_ ?_
              rotate_left 2
              · go_simp
                constructor
                · rfl
                · rfl
              refine hK.out _ _ ⟨(blk_cell (blk_alloc BK266.out _) 0).trans rfl, (blk_cell (blk_alloc BK266.out _) 1).trans rfl, (World.cell?_alloc_lt _ _ _ (World.block_lt_of_cell? _ _ (((HB.out.cell (World.block_lt_of_cell? w _ hw272_0)).trans hw272_0)))).trans (((HB.out.cell (World.block_lt_of_cell? w _ hw272_0)).trans hw272_0)), (World.cell?_alloc_lt _ _ _ (World.block_lt_of_cell? _ _ (((HB.out.cell (World.block_lt_of_cell? w _ hw272_1)).trans hw272_1)))).trans (((HB.out.cell (World.block_lt_of_cell? w _ hw272_1)).trans hw272_1))⟩ (fun hHeld => ?_)
              clear hK K
              refine norm_ (a' := ?_) ?_ ?_
              rotate_left
              · show Act.put _ (some 35) _ = _
                simp only [Act.put, List.setIfInBounds_toArray, List.set_cons_zero, List.set_cons_succ, i64_w, i32_w]
                rfl
              refine one_ (i := 7) (N := some 36) #[true, true, true, true, true, true, true, true, false, false] rfl rfl (one_of HT_.out (by kernel_rfl)) (by decide) (fun K hK => ?_)
              refine Kd.R_append_step k32 (w0 := w) w.heap.size (by rfl) (.tmp 30) (.tmp 35) 22 32 (.agg #[(.int .i64 0), (.int .u64 0)]) 16 rfl Try.underlying22 info32 rfl (by decide) (by omega) u267001 x267001_1 (⟨(rd_T32 l0 x6_1).f0, (rd_T32 l0 x6_1).f1⟩ : S32) [.int .i64 ((rd_T32 l0 x6_1).f0), .int .u64 ((rd_T32 l0 x6_1).f1)] (fun k_ => some k_ ≠ (u267000 : Value).ownBlock) (fun _ => False) rfl rfl ?aP (fun _ hk => hk.elim) ?aF ?aO ?aB ?aS ?aL ?_
              (case aP => exact k32_mkM _ _ _ (⟨(rd_T32 l0 x6_1).f0, (rd_T32 l0 x6_1).f1⟩ : S32))
              (case aB => exact (by repeat (first | (with_reducible first | exact HB.out | apply below_alloc | apply pw_below_drewN | apply below_drew1 | refine below_set ?_ GE265.out | refine below_set ?_ GE266.out) | exact HB.out)))
              (case aF => exact (fun k_ hk => Kd.fresh' (Kd.R_lt (by (with_reducible repeat (first | apply Kd.R_alloc | apply Kd.R_drewN | apply Kd.R_drew)); exact HO_267000.out)) k_ hk))
              (case aO => exact (by (with_reducible repeat (first | apply Kd.R_alloc | apply Kd.R_drewN | apply Kd.R_drew)); exact HO_267001.out))
              (case aS => exact (below_size (by repeat (first | (with_reducible first | exact HB.out | apply below_alloc | apply pw_below_drewN | apply below_drew1 | refine below_set ?_ GE265.out | refine below_set ?_ GE266.out) | exact HB.out))))
              (case aL => have := LMc13.out; omega)
              intro v274 w15 ho hb hg hat
              rw [← Ny273.out] at ho
              have n0_ := Aside0.mk (Kd.R_after (ok := (fun _ => True)) (by (with_reducible repeat (first | apply Kd.R_alloc | apply Kd.R_drewN | apply Kd.R_drew)); exact Kd.R_mono HO_267000.out (fun _ hk => ⟨trivial, hk⟩)) hg hat)
              have n1_ := Aside0.mk (blk_grown (g := gb265) (o := .cells #[.slice none 0 0, .slice none 0 0] 42 (0, 0)) (by (with_reducible repeat (first | refine blk_drewN ?_ _ | refine blk_drew ?_ | refine blk_alloc ?_ _)); exact BK265.out) hg (Kd.R_ne HO_267001.out BK265.out (by decide)))
              have n2_ := Aside0.mk (blk_grown (g := gb266) (o := .cells #[u267000, u267001] 42 (0, 0)) (by (with_reducible repeat (first | refine blk_drewN ?_ _ | refine blk_drew ?_ | refine blk_alloc ?_ _)); exact BK266.out) hg (Kd.R_ne HO_267001.out BK266.out (by decide)))
              have n3_ := Aside0.mk (hb)
              have n4_ := Aside0.mk (ho)
              clear HO_267000
              clear BK265
              clear BK266
              clear HB
              clear HO_267001
              have HO_267000 := n0_
              have BK265 := n1_
              have BK266 := n2_
              have HB := n3_
              have HO275 := n4_
              clear n0_ n1_ n2_ n3_ n4_
              clear ho hb hg hat
              obtain ⟨Ao16, co16, eo16⟩ := Kd.R_slice HO275.out
              (first | subst eo16 | (injection eo16 with f1_ f2_ f3_; have f4_ := f1_.symm; have f5_ := f3_.symm; clear f1_ f2_ f3_; subst f4_; subst f5_))
              refine hK.out _ _ ⟨(blk_cell BK266.out 0).trans rfl, (blk_cell BK266.out 1).trans rfl, ((HB.out.cell (World.block_lt_of_cell? w _ hw272_0)).trans hw272_0), ((HB.out.cell (World.block_lt_of_cell? w _ hw272_1)).trans hw272_1)⟩ (fun hHeld => ?_)
              clear hK K
              refine norm_ (a' := ?_) ?_ ?_
              rotate_left
              · show Act.put _ (some 36) _ = _
                simp only [Act.put, List.setIfInBounds_toArray, List.set_cons_zero, List.set_cons_succ, i64_w, i32_w]
                rfl
              refine pure_ (i := 8) (N := some 37) (v := ?_) (a' := ?_) #[true, true, true, true, true, true, true, true, true, false] rfl rfl (any_of HT_.out (by kernel_rfl)) (fun _ _ _ h => h) (Or.inl ⟨by rfl, ?_⟩) ?_ ?_
              rotate_left
              · intro w'
                go_simp
                with_reducible rfl
              rotate_left
              · simp only [Act.put, List.setIfInBounds_toArray, List.set_cons_zero, List.set_cons_succ, i64_w, i32_w]
                rfl
              refine last_ (i := 9) (N := none) #[true, true, true, true, true, true, true, true, true, true] rfl rfl (one_of HT_.out (by kernel_rfl)) (by decide) (fun K hK => ?_)
              have hs17 : w15.cell? ⟨gb266, 1, none⟩ = some (u267001) := (blk_cell BK266.out 1).trans rfl
              have hfs17 := blk_frozen BK266.out 1
              have hns17_0 := NB265_266.out
              have hms17_0 := NB266_265.out
              refine skip_ (w1 := ?_) (by rfl) rfl ?_ ?_
              rotate_left
              · go_simp
                rfl
              refine hK.out _ _ ?_
              clear hK K
              refine done_ (done_of HT_.out (by kernel_rfl)) ?_
              try go_wp2
              go_roundg k1
              case measure => have := HK1.out; omega
              case rel => exact ⟨(wrap64 (x6_1 + 1)), (x267000_1), (y273), (u267000), (.slice Ao16 y273.length co16), (by first | rfl | (simp; done) | (simp [*]; done)), H', ⟨by have := HK1.out; omega⟩, ⟨by (with_reducible repeat (first | apply Kd.R_alloc | apply Kd.R_drewN | apply Kd.R_drew)); exact Kd.R_mono (Kd.R_far (p := ⟨gb266, 1, none⟩) (Kd.R_types HO_267000.out BK266.out (by decide)) (fun _ hk => hk.2) (.slice Ao16 y273.length co16)) (fun _ hk => hk.1.2)⟩, ⟨by (with_reducible repeat (first | apply Kd.R_alloc | apply Kd.R_drewN | apply Kd.R_drew)); exact Kd.R_mono (Kd.R_far (p := ⟨gb266, 1, none⟩) (Kd.R_types HO275.out BK266.out (by decide)) (fun _ hk => hk.2) (.slice Ao16 y273.length co16)) (fun _ hk => hk.1)⟩, ⟨by (with_reducible repeat (first | refine blk_drewN ?_ _ | refine blk_drew ?_ | refine blk_alloc ?_ _)); refine blk_far ?_ NB265_266.out _; (with_reducible repeat (first | refine blk_drewN ?_ _ | refine blk_drew ?_ | refine blk_alloc ?_ _)); exact BK265.out⟩, ⟨by (with_reducible repeat (first | refine blk_drewN ?_ _ | refine blk_drew ?_ | refine blk_alloc ?_ _)); refine blk_put (cs := #[u267000, u267001]) ?_ 1 _ rfl; (with_reducible repeat (first | refine blk_drewN ?_ _ | refine blk_drew ?_ | refine blk_alloc ?_ _)); exact BK266.out⟩, ⟨by repeat (first | (with_reducible first | exact HB.out | apply below_alloc | apply pw_below_drewN | apply below_drew1 | refine below_set ?_ GE265.out | refine below_set ?_ GE266.out) | exact HB.out)⟩⟩
            · rw [if_neg c13] at H
              exact absurd H (by simp)
        · rw [if_neg c6] at H
          exact absurd H (by simp)
      · rw [if_neg c5] at H
        have c5b0 : decide (x6_1 < (l0.length : Int)) = false := decide_eq_false c5
        clear c5
        simp only [Option.some.injEq, Prod.mk.injEq] at H
        obtain ⟨rfl, rfl⟩ := H
        have hnb18 := NB266_265.out
        have hnc18 := NB265_266.out
        have hcz19_0 : wr.cell? ⟨gb266, 0, none⟩ = some (u267000) := (blk_cell BK266.out 0).trans rfl
        have hcz19_1 : wr.cell? ⟨gb266, 1, none⟩ = some (u267001) := (blk_cell BK266.out 1).trans rfl
        have hfz19_0 := blk_frozen BK266.out 0
        have hfz19_1 := blk_frozen BK266.out 1
        obtain ⟨Ao20, co20, eo20⟩ := Kd.R_slice HO_267000.out
        subst eo20
        have hcz21_0 : wr.cell? ⟨gb265, 0, none⟩ = some (.slice none 0 0) := (blk_cell BK265.out 0).trans rfl
        have hcz21_1 : wr.cell? ⟨gb265, 1, none⟩ = some (.slice none 0 0) := (blk_cell BK265.out 1).trans rfl
        have hfz21_0 := blk_frozen BK265.out 0
        have hfz21_1 := blk_frozen BK265.out 1
        obtain ⟨Ao22, co22, eo22⟩ := Kd.R_slice HO_267001.out
        subst eo22
        go_wp2
        refine bodyPost_ret (results_cell_row rfl _ _ gb265 42 #[.slice Ao20 x267000_1.length co20, .slice Ao22 x267001_1.length co22] (0, 0) _ rfl (by (with_reducible repeat (first | refine blk_drewN ?_ _ | refine blk_drew ?_ | refine blk_alloc ?_ _)); refine blk_put (cs := #[.slice Ao20 x267000_1.length co20, .slice none 0 0]) ?_ 1 _ rfl; (with_reducible repeat (first | refine blk_drewN ?_ _ | refine blk_drew ?_ | refine blk_alloc ?_ _)); refine blk_put (cs := #[.slice none 0 0, .slice none 0 0]) ?_ 0 _ rfl; (with_reducible repeat (first | refine blk_drewN ?_ _ | refine blk_drew ?_ | refine blk_alloc ?_ _)); exact BK265.out) Try.underlying42 rfl (by kernel_rfl)) rfl ?_
        exact ⟨_, _, by first | rfl | (simp [errW_none, errW_some] <;> rfl) | (simp [*, errW_none, errW_some] <;> rfl), by (with_reducible repeat (first | apply Kd.R_alloc | apply Kd.R_drewN | apply Kd.R_drew)); exact Kd.R_mono (Kd.R_far (p := ⟨gb265, 1, none⟩) (Kd.R_far (p := ⟨gb265, 0, none⟩) (Kd.R_types HO_267000.out BK265.out (by decide)) (fun _ hk => hk.2) (.slice Ao20 x267000_1.length co20)) (fun _ hk => hk.2) (.slice Ao22 x267001_1.length co22)) (fun _ hk => hk.1), by (with_reducible repeat (first | apply Kd.R_alloc | apply Kd.R_drewN | apply Kd.R_drew)); exact Kd.R_mono (Kd.R_far (p := ⟨gb265, 1, none⟩) (Kd.R_far (p := ⟨gb265, 0, none⟩) (Kd.R_types HO_267001.out BK265.out (by decide)) (fun _ hk => hk.2) (.slice Ao20 x267000_1.length co20)) (fun _ hk => hk.2) (.slice Ao22 x267001_1.length co22)) (fun _ hk => hk.1), by repeat (first | (with_reducible first | exact HB.out | apply below_alloc | apply pw_below_drewN | apply below_drew1 | refine below_set ?_ GE265.out | refine below_set ?_ GE266.out) | exact HB.out)⟩

end Go.Proofs.Ytboneknainlodaa.PAll
