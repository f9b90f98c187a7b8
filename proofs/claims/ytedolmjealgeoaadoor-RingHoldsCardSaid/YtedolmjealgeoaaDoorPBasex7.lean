-- Printed by a program of ours (wip/common/mkprint.py), turned from the kit's print; Lean checks it.
import Derived.Test.YtedolmjealgeoaaDoorPBasex0
import Derived.Test.YtedolmjealgeoaaDoorPBasex2
import Derived.Test.YtedolmjealgeoaaDoorPBasex5
import Derived.Test.YtedolmjealgeoaaDoorPBasex6
namespace Go.Proofs.YtedolmjealgeoaaDoor.PBase
open Go.Proofs.YtedolmjealgeoaaDoor.Gv
open Go.RowKit Go.Proofs.YtedolmjealgeoaaDoorW.PrintWords Go.Proofs.YtedolmjealgeoaaDoorW.PrintLast Go.Proofs.YtedolmjealgeoaaDoorW.PrintMore
attribute [local go_sem] max2_int min2_int max_two min_two max_three min_three max_four min_four   -- for this text's walks alone
set_option linter.unusedVariables false
set_option linter.unusedSimpArgs false

/-! ### remontoirref06_Wheel_level: function 77 -/
def remontoirref06_Wheel_level.f (k : Nat) (s0_0 : List (S31)) (s0_1 : Int) (a1 : Int) : Option (Int × Int) := (remontoirref01_Top.f k a1 s0_1).bind fun t251 => (some (mn (mx t251 0) 6, s0_1))
theorem remontoirref06_Wheel_level.mono : ∀ a0 a1 a2 k, LeO (remontoirref06_Wheel_level.f k a0 a1 a2) (remontoirref06_Wheel_level.f (k + 1) a0 a1 a2) := by
  intro a0 a1 a2 k
  unfold remontoirref06_Wheel_level.f
  repeat' first
      | (with_reducible exact remontoirref01_Top.mono _ _ _)
      | (with_reducible exact LeO.refl _)
      | (with_reducible exact LeO.none _)
      | (with_reducible refine LeO.ite ?_ ?_)
      | (with_reducible refine LeO.bind ?_ (fun _ => ?_))
      | exact remontoirref01_Top.mono _ _ _
      | exact LeO.none _
      | refine LeO.ite ?_ ?_
      | refine LeO.bind ?_ (fun _ => ?_)
set_option maxHeartbeats 8000000 in
set_option maxRecDepth 100000 in
theorem remontoirref06_Wheel_level.calls (k : Nat) (g : Nat) (s0_0 : List (S31)) (s0_1 : Int) (a1 : Int) (r1 : Int) (r2 : Int) (w0 w : World) (hI : IsS80 w0 w g s0_0 s0_1) (hB : Below w0.heap.size w0 w) (h : remontoirref06_Wheel_level.f k s0_0 s0_1 a1 = some (r1, r2)) :
    Calls Tryd.prog 77 #[.pointer (some ⟨g, 0, none⟩), .int .u64 a1] w fun e w' => e = .returned (.int .i64 r1) ∧ IsS80 w0 w' g s0_0 r2 ∧ Below w0.heap.size w0 w' ∧ KeepBut w w' g none := by
  have HI0 := Aside0.mk hI
  have HK := Aside0.mk (KeepBut.refl w g none)
  have HL := Aside0.mk hB.size
  clear hI
  have HW0 := Aside0.mk hB.size
  have HB := Aside0.mk hB
  clear hB
  have H : ((remontoirref01_Top.f k a1 s0_1).bind fun t251 => (some (mn (mx t251 0) 6, s0_1))) = some (r1, r2) := h
  clear h
  replace H := Option.bind_eq_some_iff.mp H
  obtain ⟨t251, A30, H⟩ := H
  replace H : (some (mn (mx t251 0) 6, s0_1)) = some (r1, r2) := H
  have A3 := Aside0.mk A30
  clear A30
  obtain ⟨ji4, hji4⟩ : ∃ j_ : Int, (mx t251 0) = j_ := ⟨_, rfl⟩
  replace H : (some (mn (ji4) 6, s0_1)) = some (r1, r2) := by first | (rw [hji4] at H; exact H) | (simp only [hji4] at H ⊢; exact H)
  (try rw [hji4] at A3)
  (try (have hji4l : 0 ≤ ji4 := by (rw [← hji4]; unfold mx; (repeat' split) <;> omega)))
  (try (have hji4m : 0 ≤ ji4 := by omega))
  have hji4_ : (if t251 < 0 then 0 else t251) = ji4 := hji4
  obtain ⟨ji5, hji5⟩ : ∃ j_ : Int, (mn (ji4) 6) = j_ := ⟨_, rfl⟩
  replace H : (some (ji5, s0_1)) = some (r1, r2) := by first | (rw [hji5] at H; exact H) | (simp only [hji5] at H ⊢; exact H)
  (try rw [hji5] at A3)
  have hji5_ : (if 6 < (ji4) then 6 else (ji4)) = ji5 := hji5
  simp only [Option.some.injEq, Prod.mk.injEq] at H
  obtain ⟨rfl, rfl⟩ := H
  obtain ⟨ASz6_0, cSz6_0, HGz6, hgz6, HSz6_0⟩ := HI0.out
  have hcz6_0 := cellS80_0 HGz6
  have hcz6_1 := cellS80_1 HGz6
  have hfz6_1 := blk_frozen HGz6 1
  clear HGz6 hgz6
  go_enter Tryd.func77, Tryd.ntmps77
  go_wp2_with (first | ((with_reducible refine gate_callee (f := 98) rfl ?_); refine goesL_ (some 10) rfl rfl Tryd.func98 (by kernel_rfl) rfl #[.int .u64 a1, .int .u64 s0_1] rfl (by (try simp only [List.map_toArray, List.map_cons, List.map_nil]); first | done | rfl | (simp only [List.length_drop, List.length_take]; rfl)) ?_; (with_reducible refine (remontoirref01_Top.calls k a1 s0_1 t251 _ A3.out).mono ?_); rintro e w7 ⟨rfl, hb⟩; refine ⟨_, rfl, ?_⟩; have n0_ := Aside0.mk (IsS80.below (by repeat (first | (with_reducible first | exact HI0.out | apply IsS80.alloc | apply IsS80.drewN | apply IsS80.drew | apply IsS80.set_1) | exact HI0.out)) hb); have n1_ := Aside0.mk (KeepBut.trans (by repeat (first | (with_reducible first | exact HK.out | apply KeepBut.set_ | apply keep_drewN | apply keep_drew | apply keep_alloc) | exact HK.out)) (KeepBut.of_below hb g none) (.inl rfl)); have n2_ := Aside0.mk (below_step (by repeat (first | (with_reducible first | exact HB.out | apply below_alloc | apply pw_below_drewN | apply below_drew1 | refine below_set ?_ (IsS80.ge HI0.out)) | exact HB.out)) hb); clear HI0; clear HK; clear HB; have HI0 := n0_; have HK := n1_; have HB := n2_; clear n0_ n1_ n2_; (try clear hb); (try clear hb2); (try clear hk); (try clear hi)))
  go_ret
  exact ⟨by first | rfl | (simp [errW_none, errW_some] <;> rfl) | (simp only [← hji4, ← hji5]; first | rfl | (simp [errW_none, errW_some] <;> rfl)) | (simp [*, errW_none, errW_some] <;> rfl), by repeat (first | (with_reducible first | exact HI0.out | apply IsS80.alloc | apply IsS80.drewN | apply IsS80.drew | apply IsS80.set_1) | exact HI0.out), by repeat (first | (with_reducible first | exact HB.out | apply below_alloc | apply pw_below_drewN | apply below_drew1 | refine below_set ?_ (IsS80.ge HI0.out)) | exact HB.out), by repeat (first | (with_reducible first | exact HK.out | apply KeepBut.set_ | apply keep_drewN | apply keep_drew | apply keep_alloc) | exact HK.out)⟩

-- NOT PRINTED: function 47 (remontoirref06_Wheel_Place)

/-! ### remontoirref06_Wheel_Load: function 79 -/
def remontoirref06_Wheel_Load.l0 : Nat → Int → List (S31) → Int → Int → Int → Int → Int → Int → Int → Int → Option (Int × Int × Int × Int × Int × Int × Int × Int)
  | 0, _, _, _, _, _, _, _, _, _, _ => none
  | k + 1, x4, x1000, x1001, x254000, x254001, x254002, x254003, x254004, x254005, x254006 => if x4 < (x1000.length : Int) then (if 0 ≤ x4 then ((remontoirref06_Wheel_level.f k x1000 x1001 ((rd_T31 x1000 x4).f1)).bind fun bt255 => (if bt255.1 = 0 then (remontoirref06_Wheel_Load.l0 k (wrap64 (x4 + 1)) x1000 bt255.2 (wrap64 (x254000 + 1)) x254001 x254002 x254003 x254004 x254005 x254006) else (if bt255.1 = 1 then (remontoirref06_Wheel_Load.l0 k (wrap64 (x4 + 1)) x1000 bt255.2 x254000 (wrap64 (x254001 + 1)) x254002 x254003 x254004 x254005 x254006) else (if bt255.1 = 2 then (remontoirref06_Wheel_Load.l0 k (wrap64 (x4 + 1)) x1000 bt255.2 x254000 x254001 (wrap64 (x254002 + 1)) x254003 x254004 x254005 x254006) else (if bt255.1 = 3 then (remontoirref06_Wheel_Load.l0 k (wrap64 (x4 + 1)) x1000 bt255.2 x254000 x254001 x254002 (wrap64 (x254003 + 1)) x254004 x254005 x254006) else (if bt255.1 = 4 then (remontoirref06_Wheel_Load.l0 k (wrap64 (x4 + 1)) x1000 bt255.2 x254000 x254001 x254002 x254003 (wrap64 (x254004 + 1)) x254005 x254006) else (if bt255.1 = 5 then (remontoirref06_Wheel_Load.l0 k (wrap64 (x4 + 1)) x1000 bt255.2 x254000 x254001 x254002 x254003 x254004 (wrap64 (x254005 + 1)) x254006) else (if bt255.1 = 6 then (remontoirref06_Wheel_Load.l0 k (wrap64 (x4 + 1)) x1000 bt255.2 x254000 x254001 x254002 x254003 x254004 x254005 (wrap64 (x254006 + 1))) else (none))))))))) else (none)) else (some (x254000, x254001, x254002, x254003, x254004, x254005, x254006, x1001))
def remontoirref06_Wheel_Load.f (k : Nat) (s0_0 : List (S31)) (s0_1 : Int) : Option (Int × Int × Int × Int × Int × Int × Int × Int) := remontoirref06_Wheel_Load.l0 k 0 s0_0 s0_1 0 0 0 0 0 0 0
theorem remontoirref06_Wheel_Load.mono_l : ∀ k, (∀ y0 y1 y2 y3 y4 y5 y6 y7 y8 y9, LeO (remontoirref06_Wheel_Load.l0 k y0 y1 y2 y3 y4 y5 y6 y7 y8 y9) (remontoirref06_Wheel_Load.l0 (k + 1) y0 y1 y2 y3 y4 y5 y6 y7 y8 y9))
  | 0 => fun _ _ _ _ _ _ _ _ _ _ r h => by simp [remontoirref06_Wheel_Load.l0] at h
  | k + 1 => by
    have ih0 := remontoirref06_Wheel_Load.mono_l k
    · intro y0 y1 y2 y3 y4 y5 y6 y7 y8 y9
      unfold remontoirref06_Wheel_Load.l0
      repeat' first
      | (with_reducible exact ih0 _ _ _ _ _ _ _ _ _ _)
      | (with_reducible exact remontoirref06_Wheel_level.mono _ _ _ _)
      | (with_reducible exact LeO.refl _)
      | (with_reducible exact LeO.none _)
      | (with_reducible refine LeO.ite ?_ ?_)
      | (with_reducible refine LeO.bind ?_ (fun _ => ?_))
      | exact ih0 _ _ _ _ _ _ _ _ _ _
      | exact remontoirref06_Wheel_level.mono _ _ _ _
      | exact LeO.none _
      | refine LeO.ite ?_ ?_
      | refine LeO.bind ?_ (fun _ => ?_)
theorem remontoirref06_Wheel_Load.mono : ∀ a0 a1 k, LeO (remontoirref06_Wheel_Load.f k a0 a1) (remontoirref06_Wheel_Load.f (k + 1) a0 a1) := by
  intro a0 a1 k
  have ih0 := remontoirref06_Wheel_Load.mono_l k
  unfold remontoirref06_Wheel_Load.f
  repeat' first
      | (with_reducible exact ih0 _ _ _ _ _ _ _ _ _ _)
      | (with_reducible exact remontoirref06_Wheel_level.mono _ _ _ _)
      | (with_reducible exact LeO.refl _)
      | (with_reducible exact LeO.none _)
      | (with_reducible refine LeO.ite ?_ ?_)
      | (with_reducible refine LeO.bind ?_ (fun _ => ?_))
      | exact ih0 _ _ _ _ _ _ _ _ _ _
      | exact remontoirref06_Wheel_level.mono _ _ _ _
      | exact LeO.none _
      | refine LeO.ite ?_ ?_
      | refine LeO.bind ?_ (fun _ => ?_)
set_option maxHeartbeats 8000000 in
set_option maxRecDepth 100000 in
theorem remontoirref06_Wheel_Load.calls (k : Nat) (g : Nat) (s0_0 : List (S31)) (s0_1 : Int) (r1 : Int) (r2 : Int) (r3 : Int) (r4 : Int) (r5 : Int) (r6 : Int) (r7 : Int) (r8 : Int) (w0 w : World) (hI : IsS80 w0 w g s0_0 s0_1) (hB : Below w0.heap.size w0 w) (h : remontoirref06_Wheel_Load.f k s0_0 s0_1 = some (r1, r2, r3, r4, r5, r6, r7, r8)) :
    Calls Tryd.prog 79 #[.pointer (some ⟨g, 0, none⟩)] w fun e w' => e = .returned (.agg #[.int .i64 r1, .int .i64 r2, .int .i64 r3, .int .i64 r4, .int .i64 r5, .int .i64 r6, .int .i64 r7]) ∧ IsS80 w0 w' g s0_0 r8 ∧ Below w0.heap.size w0 w' ∧ KeepBut w w' g none := by
  have hu74 := Tryd.underlying74
  have HI0 := Aside0.mk hI
  have HK := Aside0.mk (KeepBut.refl w g none)
  have HL := Aside0.mk hB.size
  clear hI
  have HW0 := Aside0.mk hB.size
  have HB := Aside0.mk hB
  clear hB
  have H : (remontoirref06_Wheel_Load.l0 k 0 s0_0 s0_1 0 0 0 0 0 0 0) = some (r1, r2, r3, r4, r5, r6, r7, r8) := h
  clear h
  have H' := Aside0.mk H
  clear H
  go_enter Tryd.func79, Tryd.ntmps79
  go_wp2_with (first | ((with_reducible refine gate_dst (N := 2) rfl ?_); refine box_event ?hg (N := 2) ?hd (cs := #[.int .i64 0, .int .i64 0, .int .i64 0, .int .i64 0, .int .i64 0, .int .i64 0, .int .i64 0]) (t := 74) ?hr ?_; (case hd => rfl); (case hg => rfl); (case hr => first | (go_simp; done) | (go_simp; rfl)); intro gb252 hg w2 hbox hb; have n0_ := Aside0.mk (IsS80.below (by repeat (first | (with_reducible first | exact HI0.out | apply IsS80.alloc | apply IsS80.drewN | apply IsS80.drew | apply IsS80.set_1) | exact HI0.out)) hb); have n1_ := Aside0.mk (KeepBut.trans (by repeat (first | (with_reducible first | exact HK.out | apply KeepBut.set_ | apply keep_drewN | apply keep_drew | apply keep_alloc) | exact HK.out)) (KeepBut.of_below hb g none) (.inl rfl)); have n2_ := Aside0.mk (below_step (by repeat (first | (with_reducible first | exact HB.out | apply below_alloc | apply pw_below_drewN | apply below_drew1 | refine below_set ?_ (IsS80.ge HI0.out)) | exact HB.out)) hb); have n3_ := Aside0.mk (hbox); have n4_ := Aside0.mk ((by rw [hg]; exact (keep_size (w := w) (g := g) (row := none) (by repeat (first | (with_reducible first | exact HK.out | apply KeepBut.set_ | apply keep_drewN | apply keep_drew | apply keep_alloc) | exact HK.out))) : w.heap.size ≤ gb252)); have n5_ := Aside0.mk ((Nat.le_trans HW0.out (by rw [hg]; exact (keep_size (w := w) (g := g) (row := none) (by repeat (first | (with_reducible first | exact HK.out | apply KeepBut.set_ | apply keep_drewN | apply keep_drew | apply keep_alloc) | exact HK.out))) : w.heap.size ≤ gb252) : w0.heap.size ≤ gb252)); have n6_ := Aside0.mk ((by rw [hg]; exact Nat.ne_of_lt (IsS80.lt (show IsS80 w0 _ g s0_0 s0_1 from by repeat (first | (with_reducible first | exact HI0.out | apply IsS80.alloc | apply IsS80.drewN | apply IsS80.drew | apply IsS80.set_1) | exact HI0.out))) : g ≠ gb252)); have n7_ := Aside0.mk ((by rw [hg]; exact Nat.ne_of_gt (IsS80.lt (show IsS80 w0 _ g s0_0 s0_1 from by repeat (first | (with_reducible first | exact HI0.out | apply IsS80.alloc | apply IsS80.drewN | apply IsS80.drew | apply IsS80.set_1) | exact HI0.out))) : gb252 ≠ g)); clear HI0; clear HK; clear HB; have HI0 := n0_; have HK := n1_; have HB := n2_; have BK252 := n3_; have GW252 := n4_; have GE252 := n5_; have NB0_252 := n6_; have NB252_0 := n7_; clear n0_ n1_ n2_ n3_ n4_ n5_ n6_ n7_; clear hb hbox hg) | ((with_reducible refine gate_dst (N := 3) rfl ?_); refine box_event ?hg (N := 3) ?hd (cs := #[.int .i64 0, .int .i64 0, .int .i64 0, .int .i64 0, .int .i64 0, .int .i64 0, .int .i64 0]) (t := 74) ?hr ?_; (case hd => rfl); (case hg => rfl); (case hr => first | (go_simp; done) | (go_simp; rfl)); intro gb253 hg w3 hbox hb; have n0_ := Aside0.mk (IsS80.below (by repeat (first | (with_reducible first | exact HI0.out | apply IsS80.alloc | apply IsS80.drewN | apply IsS80.drew | apply IsS80.set_1 | refine IsS80.far ?_ NB0_252.out _) | exact HI0.out)) hb); have n1_ := Aside0.mk (blk_below (g := gb252) (o := .cells #[.int .i64 0, .int .i64 0, .int .i64 0, .int .i64 0, .int .i64 0, .int .i64 0, .int .i64 0] 74 (0, 0)) (by (with_reducible repeat (first | refine blk_drewN ?_ _ | refine blk_drew ?_ | refine blk_alloc ?_ _)); exact BK252.out) hb); have n2_ := Aside0.mk (KeepBut.trans (by repeat (first | (with_reducible first | exact HK.out | apply KeepBut.set_ | apply keep_drewN | apply keep_drew | apply keep_alloc | refine keep_far ?_ GW252.out _) | exact HK.out)) (KeepBut.of_below hb g none) (.inl rfl)); have n3_ := Aside0.mk (below_step (by repeat (first | (with_reducible first | exact HB.out | apply below_alloc | apply pw_below_drewN | apply below_drew1 | refine below_set ?_ (IsS80.ge HI0.out) | refine below_set ?_ GE252.out) | exact HB.out)) hb); have n4_ := Aside0.mk (hbox); have n5_ := Aside0.mk ((by rw [hg]; exact (keep_size (w := w) (g := g) (row := none) (by repeat (first | (with_reducible first | exact HK.out | apply KeepBut.set_ | apply keep_drewN | apply keep_drew | apply keep_alloc | refine keep_far ?_ GW252.out _) | exact HK.out))) : w.heap.size ≤ gb253)); have n6_ := Aside0.mk ((Nat.le_trans HW0.out (by rw [hg]; exact (keep_size (w := w) (g := g) (row := none) (by repeat (first | (with_reducible first | exact HK.out | apply KeepBut.set_ | apply keep_drewN | apply keep_drew | apply keep_alloc | refine keep_far ?_ GW252.out _) | exact HK.out))) : w.heap.size ≤ gb253) : w0.heap.size ≤ gb253)); have n7_ := Aside0.mk ((by rw [hg]; exact Nat.ne_of_lt (blk_lt (g := gb252) (o := .cells #[.int .i64 0, .int .i64 0, .int .i64 0, .int .i64 0, .int .i64 0, .int .i64 0, .int .i64 0] 74 (0, 0)) (by (with_reducible repeat (first | refine blk_drewN ?_ _ | refine blk_drew ?_ | refine blk_alloc ?_ _)); exact BK252.out)) : gb252 ≠ gb253)); have n8_ := Aside0.mk ((by rw [hg]; exact Nat.ne_of_gt (blk_lt (g := gb252) (o := .cells #[.int .i64 0, .int .i64 0, .int .i64 0, .int .i64 0, .int .i64 0, .int .i64 0, .int .i64 0] 74 (0, 0)) (by (with_reducible repeat (first | refine blk_drewN ?_ _ | refine blk_drew ?_ | refine blk_alloc ?_ _)); exact BK252.out)) : gb253 ≠ gb252)); have n9_ := Aside0.mk ((by rw [hg]; exact Nat.ne_of_lt (IsS80.lt (show IsS80 w0 _ g s0_0 s0_1 from by repeat (first | (with_reducible first | exact HI0.out | apply IsS80.alloc | apply IsS80.drewN | apply IsS80.drew | apply IsS80.set_1 | refine IsS80.far ?_ NB0_252.out _) | exact HI0.out))) : g ≠ gb253)); have n10_ := Aside0.mk ((by rw [hg]; exact Nat.ne_of_gt (IsS80.lt (show IsS80 w0 _ g s0_0 s0_1 from by repeat (first | (with_reducible first | exact HI0.out | apply IsS80.alloc | apply IsS80.drewN | apply IsS80.drew | apply IsS80.set_1 | refine IsS80.far ?_ NB0_252.out _) | exact HI0.out))) : gb253 ≠ g)); clear HI0; clear BK252; clear HK; clear HB; have HI0 := n0_; have BK252 := n1_; have HK := n2_; have HB := n3_; have BK253 := n4_; have GW253 := n5_; have GE253 := n6_; have NB252_253 := n7_; have NB253_252 := n8_; have NB0_253 := n9_; have NB253_0 := n10_; clear n0_ n1_ n2_ n3_ n4_ n5_ n6_ n7_ n8_ n9_ n10_; clear hb hbox hg))
  go_loopg [4] k (fun kq v4 w' => ∃ (x4_1 : Int) (x1001_1 : Int) (x254000_1 : Int) (x254001_1 : Int) (x254002_1 : Int) (x254003_1 : Int) (x254004_1 : Int) (x254005_1 : Int) (x254006_1 : Int), v4 = .int .i64 x4_1 ∧ Aside0 (remontoirref06_Wheel_Load.l0 kq x4_1 s0_0 x1001_1 x254000_1 x254001_1 x254002_1 x254003_1 x254004_1 x254005_1 x254006_1 = some (r1, r2, r3, r4, r5, r6, r7, r8)) ∧ Aside0 (kq ≤ k) ∧ Aside0 (w'.heap[gb252]? = some (.cells #[.int .i64 0, .int .i64 0, .int .i64 0, .int .i64 0, .int .i64 0, .int .i64 0, .int .i64 0] 74 (0, 0))) ∧ Aside0 (w'.heap[gb253]? = some (.cells #[.int .i64 x254000_1, .int .i64 x254001_1, .int .i64 x254002_1, .int .i64 x254003_1, .int .i64 x254004_1, .int .i64 x254005_1, .int .i64 x254006_1] 74 (0, 0))) ∧ Aside0 (IsS80 w0 w' g s0_0 x1001_1) ∧ Aside0 (KeepBut w w' g none) ∧ Aside0 (Below w0.heap.size w0 w'))
  case atStart => exact ⟨(0), (s0_1), (0), (0), (0), (0), (0), (0), (0), (by first | rfl | (simp; done) | (simp [*]; done) | (simp; decide +kernel)), H', ⟨Nat.le_refl _⟩, ⟨by (with_reducible repeat (first | refine blk_drewN ?_ _ | refine blk_drew ?_ | refine blk_alloc ?_ _)); exact BK252.out⟩, ⟨by (with_reducible repeat (first | refine blk_drewN ?_ _ | refine blk_drew ?_ | refine blk_alloc ?_ _)); exact BK253.out⟩, ⟨by repeat (first | (with_reducible first | exact HI0.out | apply IsS80.alloc | apply IsS80.drewN | apply IsS80.drew | apply IsS80.set_1 | refine IsS80.far ?_ NB0_252.out _ | refine IsS80.far ?_ NB0_253.out _) | exact HI0.out)⟩, ⟨by repeat (first | (with_reducible first | exact HK.out | apply KeepBut.set_ | apply keep_drewN | apply keep_drew | apply keep_alloc | refine keep_far ?_ GW252.out _ | refine keep_far ?_ GW253.out _) | exact HK.out)⟩, ⟨by repeat (first | (with_reducible first | exact HB.out | apply below_alloc | apply pw_below_drewN | apply below_drew1 | refine below_set ?_ (IsS80.ge HI0.out) | refine below_set ?_ GE252.out | refine below_set ?_ GE253.out) | exact HB.out)⟩⟩
  case round =>
    clear H'
    try clear p2
    obtain ⟨x4_1, x1001_1, x254000_1, x254001_1, x254002_1, x254003_1, x254004_1, x254005_1, x254006_1, rfl, HA, HK1, BK252, BK253, HI0, HK, HB⟩ := hrel
    cases gk with
    | zero => exact absurd HA.out (by simp [remontoirref06_Wheel_Load.l0])
    | succ k1 =>
      have H := HA.out
      clear HA
      simp only [remontoirref06_Wheel_Load.l0] at H
      by_cases c4 : x4_1 < (s0_0.length : Int)
      · rw [if_pos c4] at H
        have c4b0 : decide (x4_1 < (s0_0.length : Int)) = true := decide_eq_true c4
        clear c4
        by_cases c5 : 0 ≤ x4_1
        · rw [if_pos c5] at H
          have c5b0 : decide (0 ≤ x4_1) = true := decide_eq_true c5
          clear c5
          replace H := Option.bind_eq_some_iff.mp H
          obtain ⟨⟨t255, t256⟩, A60, H⟩ := H
          replace H : (if t255 = 0 then (remontoirref06_Wheel_Load.l0 k1 (wrap64 (x4_1 + 1)) s0_0 t256 (wrap64 (x254000_1 + 1)) x254001_1 x254002_1 x254003_1 x254004_1 x254005_1 x254006_1) else (if t255 = 1 then (remontoirref06_Wheel_Load.l0 k1 (wrap64 (x4_1 + 1)) s0_0 t256 x254000_1 (wrap64 (x254001_1 + 1)) x254002_1 x254003_1 x254004_1 x254005_1 x254006_1) else (if t255 = 2 then (remontoirref06_Wheel_Load.l0 k1 (wrap64 (x4_1 + 1)) s0_0 t256 x254000_1 x254001_1 (wrap64 (x254002_1 + 1)) x254003_1 x254004_1 x254005_1 x254006_1) else (if t255 = 3 then (remontoirref06_Wheel_Load.l0 k1 (wrap64 (x4_1 + 1)) s0_0 t256 x254000_1 x254001_1 x254002_1 (wrap64 (x254003_1 + 1)) x254004_1 x254005_1 x254006_1) else (if t255 = 4 then (remontoirref06_Wheel_Load.l0 k1 (wrap64 (x4_1 + 1)) s0_0 t256 x254000_1 x254001_1 x254002_1 x254003_1 (wrap64 (x254004_1 + 1)) x254005_1 x254006_1) else (if t255 = 5 then (remontoirref06_Wheel_Load.l0 k1 (wrap64 (x4_1 + 1)) s0_0 t256 x254000_1 x254001_1 x254002_1 x254003_1 x254004_1 (wrap64 (x254005_1 + 1)) x254006_1) else (if t255 = 6 then (remontoirref06_Wheel_Load.l0 k1 (wrap64 (x4_1 + 1)) s0_0 t256 x254000_1 x254001_1 x254002_1 x254003_1 x254004_1 x254005_1 (wrap64 (x254006_1 + 1))) else (none)))))))) = some (r1, r2, r3, r4, r5, r6, r7, r8) := H
          have A6 := Aside0.mk A60
          clear A60
          by_cases c7 : t255 = 0
          · subst c7
            rw [if_pos rfl] at H
            have H' := Aside0.mk H
            clear H
            obtain ⟨ASz8_0, cSz8_0, HGz8, hgz8, HSz8_0⟩ := HI0.out
            have hcz8_0 := cellS80_0 HGz8
            have hcz8_1 := cellS80_1 HGz8
            have hfz8_1 := blk_frozen HGz8 1
            clear HGz8 hgz8
            have p254 : 0 ≤ (x4_1 : Int) := of_decide_eq_true (by first | (with_reducible assumption) | assumption)
            have q254 : x4_1 < (s0_0.length : Int) := of_decide_eq_true (by first | (with_reducible assumption) | assumption)
            obtain ⟨ad254, e254, hx254_0, hx254_1⟩ := at_T31 HSz8_0 x4_1 p254 q254
            cases e254
            replace hx254_0 := pw_cell_below HB.out hx254_0
            replace hx254_1 := pw_cell_below HB.out hx254_1
            replace p254 := eq_true p254
            replace q254 := eq_true q254
            go_wp2_with (first | ((with_reducible refine gate_callee (f := 77) rfl ?_); refine goesL_ (some 23) rfl rfl Tryd.func77 (by kernel_rfl) rfl #[.pointer (some ⟨g, 0, none⟩), .int .u64 ((rd_T31 s0_0 x4_1).f1)] rfl (by (try simp only [List.map_toArray, List.map_cons, List.map_nil]); first | done | rfl | (simp only [List.length_drop, List.length_take]; rfl)) ?_; (with_reducible refine (remontoirref06_Wheel_level.calls k1 g s0_0 x1001_1 ((rd_T31 s0_0 x4_1).f1) (0 : Int) t256 w0 _ ?side1 ?side2 A6.out).mono ?_); (case side1 => repeat (first | (with_reducible first | exact HI0.out | apply IsS80.alloc | apply IsS80.drewN | apply IsS80.drew | apply IsS80.set_1 | refine IsS80.far ?_ NB0_252.out _ | refine IsS80.far ?_ NB0_253.out _) | exact HI0.out)); (case side2 => repeat (first | (with_reducible first | exact HB.out | apply below_alloc | apply pw_below_drewN | apply below_drew1 | refine below_set ?_ (IsS80.ge HI0.out) | refine below_set ?_ GE252.out | refine below_set ?_ GE253.out) | exact HB.out)); rintro e w9 ⟨rfl, hi, hb, hk⟩; refine ⟨_, rfl, ?_⟩; have n0_ := Aside0.mk (KeepBut.blk hk (g' := gb252) (o := .cells #[.int .i64 0, .int .i64 0, .int .i64 0, .int .i64 0, .int .i64 0, .int .i64 0, .int .i64 0] 74 (0, 0)) (by (with_reducible repeat (first | refine blk_drewN ?_ _ | refine blk_drew ?_ | refine blk_alloc ?_ _)); exact BK252.out) NB252_0.out (by simp)); have n1_ := Aside0.mk (KeepBut.blk hk (g' := gb253) (o := .cells #[.int .i64 x254000_1, .int .i64 x254001_1, .int .i64 x254002_1, .int .i64 x254003_1, .int .i64 x254004_1, .int .i64 x254005_1, .int .i64 x254006_1] 74 (0, 0)) (by (with_reducible repeat (first | refine blk_drewN ?_ _ | refine blk_drew ?_ | refine blk_alloc ?_ _)); exact BK253.out) NB253_0.out (by simp)); have n2_ := Aside0.mk (KeepBut.trans (by repeat (first | (with_reducible first | exact HK.out | apply KeepBut.set_ | apply keep_drewN | apply keep_drew | apply keep_alloc | refine keep_far ?_ GW252.out _ | refine keep_far ?_ GW253.out _) | exact HK.out)) hk (.inl rfl)); have n3_ := Aside0.mk (hb); have n4_ := Aside0.mk (hi); clear BK252; clear BK253; clear HK; clear HB; clear HI0; have BK252 := n0_; have BK253 := n1_; have HK := n2_; have HB := n3_; have HI0 := n4_; clear n0_ n1_ n2_ n3_ n4_; (try clear hb); (try clear hb2); (try clear hk); (try clear hi); have hnb10 := NB253_252.out; have hnc10 := NB252_253.out; have hnb11 := NB253_0.out; have hnc11 := NB0_253.out; have hcz12_0 : w9.cell? ⟨gb253, 0, none⟩ = some (.int .i64 x254000_1) := (blk_cell BK253.out 0).trans rfl; have hcz12_1 : w9.cell? ⟨gb253, 1, none⟩ = some (.int .i64 x254001_1) := (blk_cell BK253.out 1).trans rfl; have hcz12_2 : w9.cell? ⟨gb253, 2, none⟩ = some (.int .i64 x254002_1) := (blk_cell BK253.out 2).trans rfl; have hcz12_3 : w9.cell? ⟨gb253, 3, none⟩ = some (.int .i64 x254003_1) := (blk_cell BK253.out 3).trans rfl; have hcz12_4 : w9.cell? ⟨gb253, 4, none⟩ = some (.int .i64 x254004_1) := (blk_cell BK253.out 4).trans rfl; have hcz12_5 : w9.cell? ⟨gb253, 5, none⟩ = some (.int .i64 x254005_1) := (blk_cell BK253.out 5).trans rfl; have hcz12_6 : w9.cell? ⟨gb253, 6, none⟩ = some (.int .i64 x254006_1) := (blk_cell BK253.out 6).trans rfl; have hfz12_0 := blk_frozen BK253.out 0; have hfz12_1 := blk_frozen BK253.out 1; have hfz12_2 := blk_frozen BK253.out 2; have hfz12_3 := blk_frozen BK253.out 3; have hfz12_4 := blk_frozen BK253.out 4; have hfz12_5 := blk_frozen BK253.out 5; have hfz12_6 := blk_frozen BK253.out 6))
            go_roundg k1
            case measure => have := HK1.out; omega
            case rel => exact ⟨(wrap64 (x4_1 + 1)), (t256), (wrap64 (x254000_1 + 1)), (x254001_1), (x254002_1), (x254003_1), (x254004_1), (x254005_1), (x254006_1), (by first | rfl | (simp; done) | (simp [*]; done) | (simp; decide +kernel)), H', ⟨by have := HK1.out; omega⟩, ⟨by (with_reducible repeat (first | refine blk_drewN ?_ _ | refine blk_drew ?_ | refine blk_alloc ?_ _)); refine blk_far ?_ NB252_253.out _; (with_reducible repeat (first | refine blk_drewN ?_ _ | refine blk_drew ?_ | refine blk_alloc ?_ _)); exact BK252.out⟩, ⟨by (with_reducible repeat (first | refine blk_drewN ?_ _ | refine blk_drew ?_ | refine blk_alloc ?_ _)); refine blk_put (cs := #[.int .i64 x254000_1, .int .i64 x254001_1, .int .i64 x254002_1, .int .i64 x254003_1, .int .i64 x254004_1, .int .i64 x254005_1, .int .i64 x254006_1]) ?_ 0 _ rfl; (with_reducible repeat (first | refine blk_drewN ?_ _ | refine blk_drew ?_ | refine blk_alloc ?_ _)); exact BK253.out⟩, ⟨by repeat (first | (with_reducible first | exact HI0.out | apply IsS80.alloc | apply IsS80.drewN | apply IsS80.drew | apply IsS80.set_1 | refine IsS80.far ?_ NB0_252.out _ | refine IsS80.far ?_ NB0_253.out _) | exact HI0.out)⟩, ⟨by repeat (first | (with_reducible first | exact HK.out | apply KeepBut.set_ | apply keep_drewN | apply keep_drew | apply keep_alloc | refine keep_far ?_ GW252.out _ | refine keep_far ?_ GW253.out _) | exact HK.out)⟩, ⟨by repeat (first | (with_reducible first | exact HB.out | apply below_alloc | apply pw_below_drewN | apply below_drew1 | refine below_set ?_ (IsS80.ge HI0.out) | refine below_set ?_ GE252.out | refine below_set ?_ GE253.out) | exact HB.out)⟩⟩
          · rw [if_neg c7] at H
            clear c7
            by_cases c13 : t255 = 1
            · subst c13
              rw [if_pos rfl] at H
              have H' := Aside0.mk H
              clear H
              obtain ⟨ASz14_0, cSz14_0, HGz14, hgz14, HSz14_0⟩ := HI0.out
              have hcz14_0 := cellS80_0 HGz14
              have hcz14_1 := cellS80_1 HGz14
              have hfz14_1 := blk_frozen HGz14 1
              clear HGz14 hgz14
              have p254 : 0 ≤ (x4_1 : Int) := of_decide_eq_true (by first | (with_reducible assumption) | assumption)
              have q254 : x4_1 < (s0_0.length : Int) := of_decide_eq_true (by first | (with_reducible assumption) | assumption)
              obtain ⟨ad254, e254, hx254_0, hx254_1⟩ := at_T31 HSz14_0 x4_1 p254 q254
              cases e254
              replace hx254_0 := pw_cell_below HB.out hx254_0
              replace hx254_1 := pw_cell_below HB.out hx254_1
              replace p254 := eq_true p254
              replace q254 := eq_true q254
              go_wp2_with (first | ((with_reducible refine gate_callee (f := 77) rfl ?_); refine goesL_ (some 23) rfl rfl Tryd.func77 (by kernel_rfl) rfl #[.pointer (some ⟨g, 0, none⟩), .int .u64 ((rd_T31 s0_0 x4_1).f1)] rfl (by (try simp only [List.map_toArray, List.map_cons, List.map_nil]); first | done | rfl | (simp only [List.length_drop, List.length_take]; rfl)) ?_; (with_reducible refine (remontoirref06_Wheel_level.calls k1 g s0_0 x1001_1 ((rd_T31 s0_0 x4_1).f1) (1 : Int) t256 w0 _ ?side1 ?side2 A6.out).mono ?_); (case side1 => repeat (first | (with_reducible first | exact HI0.out | apply IsS80.alloc | apply IsS80.drewN | apply IsS80.drew | apply IsS80.set_1 | refine IsS80.far ?_ NB0_252.out _ | refine IsS80.far ?_ NB0_253.out _) | exact HI0.out)); (case side2 => repeat (first | (with_reducible first | exact HB.out | apply below_alloc | apply pw_below_drewN | apply below_drew1 | refine below_set ?_ (IsS80.ge HI0.out) | refine below_set ?_ GE252.out | refine below_set ?_ GE253.out) | exact HB.out)); rintro e w15 ⟨rfl, hi, hb, hk⟩; refine ⟨_, rfl, ?_⟩; have n0_ := Aside0.mk (KeepBut.blk hk (g' := gb252) (o := .cells #[.int .i64 0, .int .i64 0, .int .i64 0, .int .i64 0, .int .i64 0, .int .i64 0, .int .i64 0] 74 (0, 0)) (by (with_reducible repeat (first | refine blk_drewN ?_ _ | refine blk_drew ?_ | refine blk_alloc ?_ _)); exact BK252.out) NB252_0.out (by simp)); have n1_ := Aside0.mk (KeepBut.blk hk (g' := gb253) (o := .cells #[.int .i64 x254000_1, .int .i64 x254001_1, .int .i64 x254002_1, .int .i64 x254003_1, .int .i64 x254004_1, .int .i64 x254005_1, .int .i64 x254006_1] 74 (0, 0)) (by (with_reducible repeat (first | refine blk_drewN ?_ _ | refine blk_drew ?_ | refine blk_alloc ?_ _)); exact BK253.out) NB253_0.out (by simp)); have n2_ := Aside0.mk (KeepBut.trans (by repeat (first | (with_reducible first | exact HK.out | apply KeepBut.set_ | apply keep_drewN | apply keep_drew | apply keep_alloc | refine keep_far ?_ GW252.out _ | refine keep_far ?_ GW253.out _) | exact HK.out)) hk (.inl rfl)); have n3_ := Aside0.mk (hb); have n4_ := Aside0.mk (hi); clear BK252; clear BK253; clear HK; clear HB; clear HI0; have BK252 := n0_; have BK253 := n1_; have HK := n2_; have HB := n3_; have HI0 := n4_; clear n0_ n1_ n2_ n3_ n4_; (try clear hb); (try clear hb2); (try clear hk); (try clear hi); have hnb16 := NB253_252.out; have hnc16 := NB252_253.out; have hnb17 := NB253_0.out; have hnc17 := NB0_253.out; have hcz18_0 : w15.cell? ⟨gb253, 0, none⟩ = some (.int .i64 x254000_1) := (blk_cell BK253.out 0).trans rfl; have hcz18_1 : w15.cell? ⟨gb253, 1, none⟩ = some (.int .i64 x254001_1) := (blk_cell BK253.out 1).trans rfl; have hcz18_2 : w15.cell? ⟨gb253, 2, none⟩ = some (.int .i64 x254002_1) := (blk_cell BK253.out 2).trans rfl; have hcz18_3 : w15.cell? ⟨gb253, 3, none⟩ = some (.int .i64 x254003_1) := (blk_cell BK253.out 3).trans rfl; have hcz18_4 : w15.cell? ⟨gb253, 4, none⟩ = some (.int .i64 x254004_1) := (blk_cell BK253.out 4).trans rfl; have hcz18_5 : w15.cell? ⟨gb253, 5, none⟩ = some (.int .i64 x254005_1) := (blk_cell BK253.out 5).trans rfl; have hcz18_6 : w15.cell? ⟨gb253, 6, none⟩ = some (.int .i64 x254006_1) := (blk_cell BK253.out 6).trans rfl; have hfz18_0 := blk_frozen BK253.out 0; have hfz18_1 := blk_frozen BK253.out 1; have hfz18_2 := blk_frozen BK253.out 2; have hfz18_3 := blk_frozen BK253.out 3; have hfz18_4 := blk_frozen BK253.out 4; have hfz18_5 := blk_frozen BK253.out 5; have hfz18_6 := blk_frozen BK253.out 6))
              go_roundg k1
              case measure => have := HK1.out; omega
              case rel => exact ⟨(wrap64 (x4_1 + 1)), (t256), (x254000_1), (wrap64 (x254001_1 + 1)), (x254002_1), (x254003_1), (x254004_1), (x254005_1), (x254006_1), (by first | rfl | (simp; done) | (simp [*]; done) | (simp; decide +kernel)), H', ⟨by have := HK1.out; omega⟩, ⟨by (with_reducible repeat (first | refine blk_drewN ?_ _ | refine blk_drew ?_ | refine blk_alloc ?_ _)); refine blk_far ?_ NB252_253.out _; (with_reducible repeat (first | refine blk_drewN ?_ _ | refine blk_drew ?_ | refine blk_alloc ?_ _)); exact BK252.out⟩, ⟨by (with_reducible repeat (first | refine blk_drewN ?_ _ | refine blk_drew ?_ | refine blk_alloc ?_ _)); refine blk_put (cs := #[.int .i64 x254000_1, .int .i64 x254001_1, .int .i64 x254002_1, .int .i64 x254003_1, .int .i64 x254004_1, .int .i64 x254005_1, .int .i64 x254006_1]) ?_ 1 _ rfl; (with_reducible repeat (first | refine blk_drewN ?_ _ | refine blk_drew ?_ | refine blk_alloc ?_ _)); exact BK253.out⟩, ⟨by repeat (first | (with_reducible first | exact HI0.out | apply IsS80.alloc | apply IsS80.drewN | apply IsS80.drew | apply IsS80.set_1 | refine IsS80.far ?_ NB0_252.out _ | refine IsS80.far ?_ NB0_253.out _) | exact HI0.out)⟩, ⟨by repeat (first | (with_reducible first | exact HK.out | apply KeepBut.set_ | apply keep_drewN | apply keep_drew | apply keep_alloc | refine keep_far ?_ GW252.out _ | refine keep_far ?_ GW253.out _) | exact HK.out)⟩, ⟨by repeat (first | (with_reducible first | exact HB.out | apply below_alloc | apply pw_below_drewN | apply below_drew1 | refine below_set ?_ (IsS80.ge HI0.out) | refine below_set ?_ GE252.out | refine below_set ?_ GE253.out) | exact HB.out)⟩⟩
            · rw [if_neg c13] at H
              clear c13
              by_cases c19 : t255 = 2
              · subst c19
                rw [if_pos rfl] at H
                have H' := Aside0.mk H
                clear H
                obtain ⟨ASz20_0, cSz20_0, HGz20, hgz20, HSz20_0⟩ := HI0.out
                have hcz20_0 := cellS80_0 HGz20
                have hcz20_1 := cellS80_1 HGz20
                have hfz20_1 := blk_frozen HGz20 1
                clear HGz20 hgz20
                have p254 : 0 ≤ (x4_1 : Int) := of_decide_eq_true (by first | (with_reducible assumption) | assumption)
                have q254 : x4_1 < (s0_0.length : Int) := of_decide_eq_true (by first | (with_reducible assumption) | assumption)
                obtain ⟨ad254, e254, hx254_0, hx254_1⟩ := at_T31 HSz20_0 x4_1 p254 q254
                cases e254
                replace hx254_0 := pw_cell_below HB.out hx254_0
                replace hx254_1 := pw_cell_below HB.out hx254_1
                replace p254 := eq_true p254
                replace q254 := eq_true q254
                go_wp2_with (first | ((with_reducible refine gate_callee (f := 77) rfl ?_); refine goesL_ (some 23) rfl rfl Tryd.func77 (by kernel_rfl) rfl #[.pointer (some ⟨g, 0, none⟩), .int .u64 ((rd_T31 s0_0 x4_1).f1)] rfl (by (try simp only [List.map_toArray, List.map_cons, List.map_nil]); first | done | rfl | (simp only [List.length_drop, List.length_take]; rfl)) ?_; (with_reducible refine (remontoirref06_Wheel_level.calls k1 g s0_0 x1001_1 ((rd_T31 s0_0 x4_1).f1) (2 : Int) t256 w0 _ ?side1 ?side2 A6.out).mono ?_); (case side1 => repeat (first | (with_reducible first | exact HI0.out | apply IsS80.alloc | apply IsS80.drewN | apply IsS80.drew | apply IsS80.set_1 | refine IsS80.far ?_ NB0_252.out _ | refine IsS80.far ?_ NB0_253.out _) | exact HI0.out)); (case side2 => repeat (first | (with_reducible first | exact HB.out | apply below_alloc | apply pw_below_drewN | apply below_drew1 | refine below_set ?_ (IsS80.ge HI0.out) | refine below_set ?_ GE252.out | refine below_set ?_ GE253.out) | exact HB.out)); rintro e w21 ⟨rfl, hi, hb, hk⟩; refine ⟨_, rfl, ?_⟩; have n0_ := Aside0.mk (KeepBut.blk hk (g' := gb252) (o := .cells #[.int .i64 0, .int .i64 0, .int .i64 0, .int .i64 0, .int .i64 0, .int .i64 0, .int .i64 0] 74 (0, 0)) (by (with_reducible repeat (first | refine blk_drewN ?_ _ | refine blk_drew ?_ | refine blk_alloc ?_ _)); exact BK252.out) NB252_0.out (by simp)); have n1_ := Aside0.mk (KeepBut.blk hk (g' := gb253) (o := .cells #[.int .i64 x254000_1, .int .i64 x254001_1, .int .i64 x254002_1, .int .i64 x254003_1, .int .i64 x254004_1, .int .i64 x254005_1, .int .i64 x254006_1] 74 (0, 0)) (by (with_reducible repeat (first | refine blk_drewN ?_ _ | refine blk_drew ?_ | refine blk_alloc ?_ _)); exact BK253.out) NB253_0.out (by simp)); have n2_ := Aside0.mk (KeepBut.trans (by repeat (first | (with_reducible first | exact HK.out | apply KeepBut.set_ | apply keep_drewN | apply keep_drew | apply keep_alloc | refine keep_far ?_ GW252.out _ | refine keep_far ?_ GW253.out _) | exact HK.out)) hk (.inl rfl)); have n3_ := Aside0.mk (hb); have n4_ := Aside0.mk (hi); clear BK252; clear BK253; clear HK; clear HB; clear HI0; have BK252 := n0_; have BK253 := n1_; have HK := n2_; have HB := n3_; have HI0 := n4_; clear n0_ n1_ n2_ n3_ n4_; (try clear hb); (try clear hb2); (try clear hk); (try clear hi); have hnb22 := NB253_252.out; have hnc22 := NB252_253.out; have hnb23 := NB253_0.out; have hnc23 := NB0_253.out; have hcz24_0 : w21.cell? ⟨gb253, 0, none⟩ = some (.int .i64 x254000_1) := (blk_cell BK253.out 0).trans rfl; have hcz24_1 : w21.cell? ⟨gb253, 1, none⟩ = some (.int .i64 x254001_1) := (blk_cell BK253.out 1).trans rfl; have hcz24_2 : w21.cell? ⟨gb253, 2, none⟩ = some (.int .i64 x254002_1) := (blk_cell BK253.out 2).trans rfl; have hcz24_3 : w21.cell? ⟨gb253, 3, none⟩ = some (.int .i64 x254003_1) := (blk_cell BK253.out 3).trans rfl; have hcz24_4 : w21.cell? ⟨gb253, 4, none⟩ = some (.int .i64 x254004_1) := (blk_cell BK253.out 4).trans rfl; have hcz24_5 : w21.cell? ⟨gb253, 5, none⟩ = some (.int .i64 x254005_1) := (blk_cell BK253.out 5).trans rfl; have hcz24_6 : w21.cell? ⟨gb253, 6, none⟩ = some (.int .i64 x254006_1) := (blk_cell BK253.out 6).trans rfl; have hfz24_0 := blk_frozen BK253.out 0; have hfz24_1 := blk_frozen BK253.out 1; have hfz24_2 := blk_frozen BK253.out 2; have hfz24_3 := blk_frozen BK253.out 3; have hfz24_4 := blk_frozen BK253.out 4; have hfz24_5 := blk_frozen BK253.out 5; have hfz24_6 := blk_frozen BK253.out 6))
                go_roundg k1
                case measure => have := HK1.out; omega
                case rel => exact ⟨(wrap64 (x4_1 + 1)), (t256), (x254000_1), (x254001_1), (wrap64 (x254002_1 + 1)), (x254003_1), (x254004_1), (x254005_1), (x254006_1), (by first | rfl | (simp; done) | (simp [*]; done) | (simp; decide +kernel)), H', ⟨by have := HK1.out; omega⟩, ⟨by (with_reducible repeat (first | refine blk_drewN ?_ _ | refine blk_drew ?_ | refine blk_alloc ?_ _)); refine blk_far ?_ NB252_253.out _; (with_reducible repeat (first | refine blk_drewN ?_ _ | refine blk_drew ?_ | refine blk_alloc ?_ _)); exact BK252.out⟩, ⟨by (with_reducible repeat (first | refine blk_drewN ?_ _ | refine blk_drew ?_ | refine blk_alloc ?_ _)); refine blk_put (cs := #[.int .i64 x254000_1, .int .i64 x254001_1, .int .i64 x254002_1, .int .i64 x254003_1, .int .i64 x254004_1, .int .i64 x254005_1, .int .i64 x254006_1]) ?_ 2 _ rfl; (with_reducible repeat (first | refine blk_drewN ?_ _ | refine blk_drew ?_ | refine blk_alloc ?_ _)); exact BK253.out⟩, ⟨by repeat (first | (with_reducible first | exact HI0.out | apply IsS80.alloc | apply IsS80.drewN | apply IsS80.drew | apply IsS80.set_1 | refine IsS80.far ?_ NB0_252.out _ | refine IsS80.far ?_ NB0_253.out _) | exact HI0.out)⟩, ⟨by repeat (first | (with_reducible first | exact HK.out | apply KeepBut.set_ | apply keep_drewN | apply keep_drew | apply keep_alloc | refine keep_far ?_ GW252.out _ | refine keep_far ?_ GW253.out _) | exact HK.out)⟩, ⟨by repeat (first | (with_reducible first | exact HB.out | apply below_alloc | apply pw_below_drewN | apply below_drew1 | refine below_set ?_ (IsS80.ge HI0.out) | refine below_set ?_ GE252.out | refine below_set ?_ GE253.out) | exact HB.out)⟩⟩
              · rw [if_neg c19] at H
                clear c19
                by_cases c25 : t255 = 3
                · subst c25
                  rw [if_pos rfl] at H
                  have H' := Aside0.mk H
                  clear H
                  obtain ⟨ASz26_0, cSz26_0, HGz26, hgz26, HSz26_0⟩ := HI0.out
                  have hcz26_0 := cellS80_0 HGz26
                  have hcz26_1 := cellS80_1 HGz26
                  have hfz26_1 := blk_frozen HGz26 1
                  clear HGz26 hgz26
                  have p254 : 0 ≤ (x4_1 : Int) := of_decide_eq_true (by first | (with_reducible assumption) | assumption)
                  have q254 : x4_1 < (s0_0.length : Int) := of_decide_eq_true (by first | (with_reducible assumption) | assumption)
                  obtain ⟨ad254, e254, hx254_0, hx254_1⟩ := at_T31 HSz26_0 x4_1 p254 q254
                  cases e254
                  replace hx254_0 := pw_cell_below HB.out hx254_0
                  replace hx254_1 := pw_cell_below HB.out hx254_1
                  replace p254 := eq_true p254
                  replace q254 := eq_true q254
                  go_wp2_with (first | ((with_reducible refine gate_callee (f := 77) rfl ?_); refine goesL_ (some 23) rfl rfl Tryd.func77 (by kernel_rfl) rfl #[.pointer (some ⟨g, 0, none⟩), .int .u64 ((rd_T31 s0_0 x4_1).f1)] rfl (by (try simp only [List.map_toArray, List.map_cons, List.map_nil]); first | done | rfl | (simp only [List.length_drop, List.length_take]; rfl)) ?_; (with_reducible refine (remontoirref06_Wheel_level.calls k1 g s0_0 x1001_1 ((rd_T31 s0_0 x4_1).f1) (3 : Int) t256 w0 _ ?side1 ?side2 A6.out).mono ?_); (case side1 => repeat (first | (with_reducible first | exact HI0.out | apply IsS80.alloc | apply IsS80.drewN | apply IsS80.drew | apply IsS80.set_1 | refine IsS80.far ?_ NB0_252.out _ | refine IsS80.far ?_ NB0_253.out _) | exact HI0.out)); (case side2 => repeat (first | (with_reducible first | exact HB.out | apply below_alloc | apply pw_below_drewN | apply below_drew1 | refine below_set ?_ (IsS80.ge HI0.out) | refine below_set ?_ GE252.out | refine below_set ?_ GE253.out) | exact HB.out)); rintro e w27 ⟨rfl, hi, hb, hk⟩; refine ⟨_, rfl, ?_⟩; have n0_ := Aside0.mk (KeepBut.blk hk (g' := gb252) (o := .cells #[.int .i64 0, .int .i64 0, .int .i64 0, .int .i64 0, .int .i64 0, .int .i64 0, .int .i64 0] 74 (0, 0)) (by (with_reducible repeat (first | refine blk_drewN ?_ _ | refine blk_drew ?_ | refine blk_alloc ?_ _)); exact BK252.out) NB252_0.out (by simp)); have n1_ := Aside0.mk (KeepBut.blk hk (g' := gb253) (o := .cells #[.int .i64 x254000_1, .int .i64 x254001_1, .int .i64 x254002_1, .int .i64 x254003_1, .int .i64 x254004_1, .int .i64 x254005_1, .int .i64 x254006_1] 74 (0, 0)) (by (with_reducible repeat (first | refine blk_drewN ?_ _ | refine blk_drew ?_ | refine blk_alloc ?_ _)); exact BK253.out) NB253_0.out (by simp)); have n2_ := Aside0.mk (KeepBut.trans (by repeat (first | (with_reducible first | exact HK.out | apply KeepBut.set_ | apply keep_drewN | apply keep_drew | apply keep_alloc | refine keep_far ?_ GW252.out _ | refine keep_far ?_ GW253.out _) | exact HK.out)) hk (.inl rfl)); have n3_ := Aside0.mk (hb); have n4_ := Aside0.mk (hi); clear BK252; clear BK253; clear HK; clear HB; clear HI0; have BK252 := n0_; have BK253 := n1_; have HK := n2_; have HB := n3_; have HI0 := n4_; clear n0_ n1_ n2_ n3_ n4_; (try clear hb); (try clear hb2); (try clear hk); (try clear hi); have hnb28 := NB253_252.out; have hnc28 := NB252_253.out; have hnb29 := NB253_0.out; have hnc29 := NB0_253.out; have hcz30_0 : w27.cell? ⟨gb253, 0, none⟩ = some (.int .i64 x254000_1) := (blk_cell BK253.out 0).trans rfl; have hcz30_1 : w27.cell? ⟨gb253, 1, none⟩ = some (.int .i64 x254001_1) := (blk_cell BK253.out 1).trans rfl; have hcz30_2 : w27.cell? ⟨gb253, 2, none⟩ = some (.int .i64 x254002_1) := (blk_cell BK253.out 2).trans rfl; have hcz30_3 : w27.cell? ⟨gb253, 3, none⟩ = some (.int .i64 x254003_1) := (blk_cell BK253.out 3).trans rfl; have hcz30_4 : w27.cell? ⟨gb253, 4, none⟩ = some (.int .i64 x254004_1) := (blk_cell BK253.out 4).trans rfl; have hcz30_5 : w27.cell? ⟨gb253, 5, none⟩ = some (.int .i64 x254005_1) := (blk_cell BK253.out 5).trans rfl; have hcz30_6 : w27.cell? ⟨gb253, 6, none⟩ = some (.int .i64 x254006_1) := (blk_cell BK253.out 6).trans rfl; have hfz30_0 := blk_frozen BK253.out 0; have hfz30_1 := blk_frozen BK253.out 1; have hfz30_2 := blk_frozen BK253.out 2; have hfz30_3 := blk_frozen BK253.out 3; have hfz30_4 := blk_frozen BK253.out 4; have hfz30_5 := blk_frozen BK253.out 5; have hfz30_6 := blk_frozen BK253.out 6))
                  go_roundg k1
                  case measure => have := HK1.out; omega
                  case rel => exact ⟨(wrap64 (x4_1 + 1)), (t256), (x254000_1), (x254001_1), (x254002_1), (wrap64 (x254003_1 + 1)), (x254004_1), (x254005_1), (x254006_1), (by first | rfl | (simp; done) | (simp [*]; done) | (simp; decide +kernel)), H', ⟨by have := HK1.out; omega⟩, ⟨by (with_reducible repeat (first | refine blk_drewN ?_ _ | refine blk_drew ?_ | refine blk_alloc ?_ _)); refine blk_far ?_ NB252_253.out _; (with_reducible repeat (first | refine blk_drewN ?_ _ | refine blk_drew ?_ | refine blk_alloc ?_ _)); exact BK252.out⟩, ⟨by (with_reducible repeat (first | refine blk_drewN ?_ _ | refine blk_drew ?_ | refine blk_alloc ?_ _)); refine blk_put (cs := #[.int .i64 x254000_1, .int .i64 x254001_1, .int .i64 x254002_1, .int .i64 x254003_1, .int .i64 x254004_1, .int .i64 x254005_1, .int .i64 x254006_1]) ?_ 3 _ rfl; (with_reducible repeat (first | refine blk_drewN ?_ _ | refine blk_drew ?_ | refine blk_alloc ?_ _)); exact BK253.out⟩, ⟨by repeat (first | (with_reducible first | exact HI0.out | apply IsS80.alloc | apply IsS80.drewN | apply IsS80.drew | apply IsS80.set_1 | refine IsS80.far ?_ NB0_252.out _ | refine IsS80.far ?_ NB0_253.out _) | exact HI0.out)⟩, ⟨by repeat (first | (with_reducible first | exact HK.out | apply KeepBut.set_ | apply keep_drewN | apply keep_drew | apply keep_alloc | refine keep_far ?_ GW252.out _ | refine keep_far ?_ GW253.out _) | exact HK.out)⟩, ⟨by repeat (first | (with_reducible first | exact HB.out | apply below_alloc | apply pw_below_drewN | apply below_drew1 | refine below_set ?_ (IsS80.ge HI0.out) | refine below_set ?_ GE252.out | refine below_set ?_ GE253.out) | exact HB.out)⟩⟩
                · rw [if_neg c25] at H
                  clear c25
                  by_cases c31 : t255 = 4
                  · subst c31
                    rw [if_pos rfl] at H
                    have H' := Aside0.mk H
                    clear H
                    obtain ⟨ASz32_0, cSz32_0, HGz32, hgz32, HSz32_0⟩ := HI0.out
                    have hcz32_0 := cellS80_0 HGz32
                    have hcz32_1 := cellS80_1 HGz32
                    have hfz32_1 := blk_frozen HGz32 1
                    clear HGz32 hgz32
                    have p254 : 0 ≤ (x4_1 : Int) := of_decide_eq_true (by first | (with_reducible assumption) | assumption)
                    have q254 : x4_1 < (s0_0.length : Int) := of_decide_eq_true (by first | (with_reducible assumption) | assumption)
                    obtain ⟨ad254, e254, hx254_0, hx254_1⟩ := at_T31 HSz32_0 x4_1 p254 q254
                    cases e254
                    replace hx254_0 := pw_cell_below HB.out hx254_0
                    replace hx254_1 := pw_cell_below HB.out hx254_1
                    replace p254 := eq_true p254
                    replace q254 := eq_true q254
                    go_wp2_with (first | ((with_reducible refine gate_callee (f := 77) rfl ?_); refine goesL_ (some 23) rfl rfl Tryd.func77 (by kernel_rfl) rfl #[.pointer (some ⟨g, 0, none⟩), .int .u64 ((rd_T31 s0_0 x4_1).f1)] rfl (by (try simp only [List.map_toArray, List.map_cons, List.map_nil]); first | done | rfl | (simp only [List.length_drop, List.length_take]; rfl)) ?_; (with_reducible refine (remontoirref06_Wheel_level.calls k1 g s0_0 x1001_1 ((rd_T31 s0_0 x4_1).f1) (4 : Int) t256 w0 _ ?side1 ?side2 A6.out).mono ?_); (case side1 => repeat (first | (with_reducible first | exact HI0.out | apply IsS80.alloc | apply IsS80.drewN | apply IsS80.drew | apply IsS80.set_1 | refine IsS80.far ?_ NB0_252.out _ | refine IsS80.far ?_ NB0_253.out _) | exact HI0.out)); (case side2 => repeat (first | (with_reducible first | exact HB.out | apply below_alloc | apply pw_below_drewN | apply below_drew1 | refine below_set ?_ (IsS80.ge HI0.out) | refine below_set ?_ GE252.out | refine below_set ?_ GE253.out) | exact HB.out)); rintro e w33 ⟨rfl, hi, hb, hk⟩; refine ⟨_, rfl, ?_⟩; have n0_ := Aside0.mk (KeepBut.blk hk (g' := gb252) (o := .cells #[.int .i64 0, .int .i64 0, .int .i64 0, .int .i64 0, .int .i64 0, .int .i64 0, .int .i64 0] 74 (0, 0)) (by (with_reducible repeat (first | refine blk_drewN ?_ _ | refine blk_drew ?_ | refine blk_alloc ?_ _)); exact BK252.out) NB252_0.out (by simp)); have n1_ := Aside0.mk (KeepBut.blk hk (g' := gb253) (o := .cells #[.int .i64 x254000_1, .int .i64 x254001_1, .int .i64 x254002_1, .int .i64 x254003_1, .int .i64 x254004_1, .int .i64 x254005_1, .int .i64 x254006_1] 74 (0, 0)) (by (with_reducible repeat (first | refine blk_drewN ?_ _ | refine blk_drew ?_ | refine blk_alloc ?_ _)); exact BK253.out) NB253_0.out (by simp)); have n2_ := Aside0.mk (KeepBut.trans (by repeat (first | (with_reducible first | exact HK.out | apply KeepBut.set_ | apply keep_drewN | apply keep_drew | apply keep_alloc | refine keep_far ?_ GW252.out _ | refine keep_far ?_ GW253.out _) | exact HK.out)) hk (.inl rfl)); have n3_ := Aside0.mk (hb); have n4_ := Aside0.mk (hi); clear BK252; clear BK253; clear HK; clear HB; clear HI0; have BK252 := n0_; have BK253 := n1_; have HK := n2_; have HB := n3_; have HI0 := n4_; clear n0_ n1_ n2_ n3_ n4_; (try clear hb); (try clear hb2); (try clear hk); (try clear hi); have hnb34 := NB253_252.out; have hnc34 := NB252_253.out; have hnb35 := NB253_0.out; have hnc35 := NB0_253.out; have hcz36_0 : w33.cell? ⟨gb253, 0, none⟩ = some (.int .i64 x254000_1) := (blk_cell BK253.out 0).trans rfl; have hcz36_1 : w33.cell? ⟨gb253, 1, none⟩ = some (.int .i64 x254001_1) := (blk_cell BK253.out 1).trans rfl; have hcz36_2 : w33.cell? ⟨gb253, 2, none⟩ = some (.int .i64 x254002_1) := (blk_cell BK253.out 2).trans rfl; have hcz36_3 : w33.cell? ⟨gb253, 3, none⟩ = some (.int .i64 x254003_1) := (blk_cell BK253.out 3).trans rfl; have hcz36_4 : w33.cell? ⟨gb253, 4, none⟩ = some (.int .i64 x254004_1) := (blk_cell BK253.out 4).trans rfl; have hcz36_5 : w33.cell? ⟨gb253, 5, none⟩ = some (.int .i64 x254005_1) := (blk_cell BK253.out 5).trans rfl; have hcz36_6 : w33.cell? ⟨gb253, 6, none⟩ = some (.int .i64 x254006_1) := (blk_cell BK253.out 6).trans rfl; have hfz36_0 := blk_frozen BK253.out 0; have hfz36_1 := blk_frozen BK253.out 1; have hfz36_2 := blk_frozen BK253.out 2; have hfz36_3 := blk_frozen BK253.out 3; have hfz36_4 := blk_frozen BK253.out 4; have hfz36_5 := blk_frozen BK253.out 5; have hfz36_6 := blk_frozen BK253.out 6))
                    go_roundg k1
                    case measure => have := HK1.out; omega
                    case rel => exact ⟨(wrap64 (x4_1 + 1)), (t256), (x254000_1), (x254001_1), (x254002_1), (x254003_1), (wrap64 (x254004_1 + 1)), (x254005_1), (x254006_1), (by first | rfl | (simp; done) | (simp [*]; done) | (simp; decide +kernel)), H', ⟨by have := HK1.out; omega⟩, ⟨by (with_reducible repeat (first | refine blk_drewN ?_ _ | refine blk_drew ?_ | refine blk_alloc ?_ _)); refine blk_far ?_ NB252_253.out _; (with_reducible repeat (first | refine blk_drewN ?_ _ | refine blk_drew ?_ | refine blk_alloc ?_ _)); exact BK252.out⟩, ⟨by (with_reducible repeat (first | refine blk_drewN ?_ _ | refine blk_drew ?_ | refine blk_alloc ?_ _)); refine blk_put (cs := #[.int .i64 x254000_1, .int .i64 x254001_1, .int .i64 x254002_1, .int .i64 x254003_1, .int .i64 x254004_1, .int .i64 x254005_1, .int .i64 x254006_1]) ?_ 4 _ rfl; (with_reducible repeat (first | refine blk_drewN ?_ _ | refine blk_drew ?_ | refine blk_alloc ?_ _)); exact BK253.out⟩, ⟨by repeat (first | (with_reducible first | exact HI0.out | apply IsS80.alloc | apply IsS80.drewN | apply IsS80.drew | apply IsS80.set_1 | refine IsS80.far ?_ NB0_252.out _ | refine IsS80.far ?_ NB0_253.out _) | exact HI0.out)⟩, ⟨by repeat (first | (with_reducible first | exact HK.out | apply KeepBut.set_ | apply keep_drewN | apply keep_drew | apply keep_alloc | refine keep_far ?_ GW252.out _ | refine keep_far ?_ GW253.out _) | exact HK.out)⟩, ⟨by repeat (first | (with_reducible first | exact HB.out | apply below_alloc | apply pw_below_drewN | apply below_drew1 | refine below_set ?_ (IsS80.ge HI0.out) | refine below_set ?_ GE252.out | refine below_set ?_ GE253.out) | exact HB.out)⟩⟩
                  · rw [if_neg c31] at H
                    clear c31
                    by_cases c37 : t255 = 5
                    · subst c37
                      rw [if_pos rfl] at H
                      have H' := Aside0.mk H
                      clear H
                      obtain ⟨ASz38_0, cSz38_0, HGz38, hgz38, HSz38_0⟩ := HI0.out
                      have hcz38_0 := cellS80_0 HGz38
                      have hcz38_1 := cellS80_1 HGz38
                      have hfz38_1 := blk_frozen HGz38 1
                      clear HGz38 hgz38
                      have p254 : 0 ≤ (x4_1 : Int) := of_decide_eq_true (by first | (with_reducible assumption) | assumption)
                      have q254 : x4_1 < (s0_0.length : Int) := of_decide_eq_true (by first | (with_reducible assumption) | assumption)
                      obtain ⟨ad254, e254, hx254_0, hx254_1⟩ := at_T31 HSz38_0 x4_1 p254 q254
                      cases e254
                      replace hx254_0 := pw_cell_below HB.out hx254_0
                      replace hx254_1 := pw_cell_below HB.out hx254_1
                      replace p254 := eq_true p254
                      replace q254 := eq_true q254
                      go_wp2_with (first | ((with_reducible refine gate_callee (f := 77) rfl ?_); refine goesL_ (some 23) rfl rfl Tryd.func77 (by kernel_rfl) rfl #[.pointer (some ⟨g, 0, none⟩), .int .u64 ((rd_T31 s0_0 x4_1).f1)] rfl (by (try simp only [List.map_toArray, List.map_cons, List.map_nil]); first | done | rfl | (simp only [List.length_drop, List.length_take]; rfl)) ?_; (with_reducible refine (remontoirref06_Wheel_level.calls k1 g s0_0 x1001_1 ((rd_T31 s0_0 x4_1).f1) (5 : Int) t256 w0 _ ?side1 ?side2 A6.out).mono ?_); (case side1 => repeat (first | (with_reducible first | exact HI0.out | apply IsS80.alloc | apply IsS80.drewN | apply IsS80.drew | apply IsS80.set_1 | refine IsS80.far ?_ NB0_252.out _ | refine IsS80.far ?_ NB0_253.out _) | exact HI0.out)); (case side2 => repeat (first | (with_reducible first | exact HB.out | apply below_alloc | apply pw_below_drewN | apply below_drew1 | refine below_set ?_ (IsS80.ge HI0.out) | refine below_set ?_ GE252.out | refine below_set ?_ GE253.out) | exact HB.out)); rintro e w39 ⟨rfl, hi, hb, hk⟩; refine ⟨_, rfl, ?_⟩; have n0_ := Aside0.mk (KeepBut.blk hk (g' := gb252) (o := .cells #[.int .i64 0, .int .i64 0, .int .i64 0, .int .i64 0, .int .i64 0, .int .i64 0, .int .i64 0] 74 (0, 0)) (by (with_reducible repeat (first | refine blk_drewN ?_ _ | refine blk_drew ?_ | refine blk_alloc ?_ _)); exact BK252.out) NB252_0.out (by simp)); have n1_ := Aside0.mk (KeepBut.blk hk (g' := gb253) (o := .cells #[.int .i64 x254000_1, .int .i64 x254001_1, .int .i64 x254002_1, .int .i64 x254003_1, .int .i64 x254004_1, .int .i64 x254005_1, .int .i64 x254006_1] 74 (0, 0)) (by (with_reducible repeat (first | refine blk_drewN ?_ _ | refine blk_drew ?_ | refine blk_alloc ?_ _)); exact BK253.out) NB253_0.out (by simp)); have n2_ := Aside0.mk (KeepBut.trans (by repeat (first | (with_reducible first | exact HK.out | apply KeepBut.set_ | apply keep_drewN | apply keep_drew | apply keep_alloc | refine keep_far ?_ GW252.out _ | refine keep_far ?_ GW253.out _) | exact HK.out)) hk (.inl rfl)); have n3_ := Aside0.mk (hb); have n4_ := Aside0.mk (hi); clear BK252; clear BK253; clear HK; clear HB; clear HI0; have BK252 := n0_; have BK253 := n1_; have HK := n2_; have HB := n3_; have HI0 := n4_; clear n0_ n1_ n2_ n3_ n4_; (try clear hb); (try clear hb2); (try clear hk); (try clear hi); have hnb40 := NB253_252.out; have hnc40 := NB252_253.out; have hnb41 := NB253_0.out; have hnc41 := NB0_253.out; have hcz42_0 : w39.cell? ⟨gb253, 0, none⟩ = some (.int .i64 x254000_1) := (blk_cell BK253.out 0).trans rfl; have hcz42_1 : w39.cell? ⟨gb253, 1, none⟩ = some (.int .i64 x254001_1) := (blk_cell BK253.out 1).trans rfl; have hcz42_2 : w39.cell? ⟨gb253, 2, none⟩ = some (.int .i64 x254002_1) := (blk_cell BK253.out 2).trans rfl; have hcz42_3 : w39.cell? ⟨gb253, 3, none⟩ = some (.int .i64 x254003_1) := (blk_cell BK253.out 3).trans rfl; have hcz42_4 : w39.cell? ⟨gb253, 4, none⟩ = some (.int .i64 x254004_1) := (blk_cell BK253.out 4).trans rfl; have hcz42_5 : w39.cell? ⟨gb253, 5, none⟩ = some (.int .i64 x254005_1) := (blk_cell BK253.out 5).trans rfl; have hcz42_6 : w39.cell? ⟨gb253, 6, none⟩ = some (.int .i64 x254006_1) := (blk_cell BK253.out 6).trans rfl; have hfz42_0 := blk_frozen BK253.out 0; have hfz42_1 := blk_frozen BK253.out 1; have hfz42_2 := blk_frozen BK253.out 2; have hfz42_3 := blk_frozen BK253.out 3; have hfz42_4 := blk_frozen BK253.out 4; have hfz42_5 := blk_frozen BK253.out 5; have hfz42_6 := blk_frozen BK253.out 6))
                      go_roundg k1
                      case measure => have := HK1.out; omega
                      case rel => exact ⟨(wrap64 (x4_1 + 1)), (t256), (x254000_1), (x254001_1), (x254002_1), (x254003_1), (x254004_1), (wrap64 (x254005_1 + 1)), (x254006_1), (by first | rfl | (simp; done) | (simp [*]; done) | (simp; decide +kernel)), H', ⟨by have := HK1.out; omega⟩, ⟨by (with_reducible repeat (first | refine blk_drewN ?_ _ | refine blk_drew ?_ | refine blk_alloc ?_ _)); refine blk_far ?_ NB252_253.out _; (with_reducible repeat (first | refine blk_drewN ?_ _ | refine blk_drew ?_ | refine blk_alloc ?_ _)); exact BK252.out⟩, ⟨by (with_reducible repeat (first | refine blk_drewN ?_ _ | refine blk_drew ?_ | refine blk_alloc ?_ _)); refine blk_put (cs := #[.int .i64 x254000_1, .int .i64 x254001_1, .int .i64 x254002_1, .int .i64 x254003_1, .int .i64 x254004_1, .int .i64 x254005_1, .int .i64 x254006_1]) ?_ 5 _ rfl; (with_reducible repeat (first | refine blk_drewN ?_ _ | refine blk_drew ?_ | refine blk_alloc ?_ _)); exact BK253.out⟩, ⟨by repeat (first | (with_reducible first | exact HI0.out | apply IsS80.alloc | apply IsS80.drewN | apply IsS80.drew | apply IsS80.set_1 | refine IsS80.far ?_ NB0_252.out _ | refine IsS80.far ?_ NB0_253.out _) | exact HI0.out)⟩, ⟨by repeat (first | (with_reducible first | exact HK.out | apply KeepBut.set_ | apply keep_drewN | apply keep_drew | apply keep_alloc | refine keep_far ?_ GW252.out _ | refine keep_far ?_ GW253.out _) | exact HK.out)⟩, ⟨by repeat (first | (with_reducible first | exact HB.out | apply below_alloc | apply pw_below_drewN | apply below_drew1 | refine below_set ?_ (IsS80.ge HI0.out) | refine below_set ?_ GE252.out | refine below_set ?_ GE253.out) | exact HB.out)⟩⟩
                    · rw [if_neg c37] at H
                      clear c37
                      by_cases c43 : t255 = 6
                      · subst c43
                        rw [if_pos rfl] at H
                        have H' := Aside0.mk H
                        clear H
                        obtain ⟨ASz44_0, cSz44_0, HGz44, hgz44, HSz44_0⟩ := HI0.out
                        have hcz44_0 := cellS80_0 HGz44
                        have hcz44_1 := cellS80_1 HGz44
                        have hfz44_1 := blk_frozen HGz44 1
                        clear HGz44 hgz44
                        have p254 : 0 ≤ (x4_1 : Int) := of_decide_eq_true (by first | (with_reducible assumption) | assumption)
                        have q254 : x4_1 < (s0_0.length : Int) := of_decide_eq_true (by first | (with_reducible assumption) | assumption)
                        obtain ⟨ad254, e254, hx254_0, hx254_1⟩ := at_T31 HSz44_0 x4_1 p254 q254
                        cases e254
                        replace hx254_0 := pw_cell_below HB.out hx254_0
                        replace hx254_1 := pw_cell_below HB.out hx254_1
                        replace p254 := eq_true p254
                        replace q254 := eq_true q254
                        go_wp2_with (first | ((with_reducible refine gate_callee (f := 77) rfl ?_); refine goesL_ (some 23) rfl rfl Tryd.func77 (by kernel_rfl) rfl #[.pointer (some ⟨g, 0, none⟩), .int .u64 ((rd_T31 s0_0 x4_1).f1)] rfl (by (try simp only [List.map_toArray, List.map_cons, List.map_nil]); first | done | rfl | (simp only [List.length_drop, List.length_take]; rfl)) ?_; (with_reducible refine (remontoirref06_Wheel_level.calls k1 g s0_0 x1001_1 ((rd_T31 s0_0 x4_1).f1) (6 : Int) t256 w0 _ ?side1 ?side2 A6.out).mono ?_); (case side1 => repeat (first | (with_reducible first | exact HI0.out | apply IsS80.alloc | apply IsS80.drewN | apply IsS80.drew | apply IsS80.set_1 | refine IsS80.far ?_ NB0_252.out _ | refine IsS80.far ?_ NB0_253.out _) | exact HI0.out)); (case side2 => repeat (first | (with_reducible first | exact HB.out | apply below_alloc | apply pw_below_drewN | apply below_drew1 | refine below_set ?_ (IsS80.ge HI0.out) | refine below_set ?_ GE252.out | refine below_set ?_ GE253.out) | exact HB.out)); rintro e w45 ⟨rfl, hi, hb, hk⟩; refine ⟨_, rfl, ?_⟩; have n0_ := Aside0.mk (KeepBut.blk hk (g' := gb252) (o := .cells #[.int .i64 0, .int .i64 0, .int .i64 0, .int .i64 0, .int .i64 0, .int .i64 0, .int .i64 0] 74 (0, 0)) (by (with_reducible repeat (first | refine blk_drewN ?_ _ | refine blk_drew ?_ | refine blk_alloc ?_ _)); exact BK252.out) NB252_0.out (by simp)); have n1_ := Aside0.mk (KeepBut.blk hk (g' := gb253) (o := .cells #[.int .i64 x254000_1, .int .i64 x254001_1, .int .i64 x254002_1, .int .i64 x254003_1, .int .i64 x254004_1, .int .i64 x254005_1, .int .i64 x254006_1] 74 (0, 0)) (by (with_reducible repeat (first | refine blk_drewN ?_ _ | refine blk_drew ?_ | refine blk_alloc ?_ _)); exact BK253.out) NB253_0.out (by simp)); have n2_ := Aside0.mk (KeepBut.trans (by repeat (first | (with_reducible first | exact HK.out | apply KeepBut.set_ | apply keep_drewN | apply keep_drew | apply keep_alloc | refine keep_far ?_ GW252.out _ | refine keep_far ?_ GW253.out _) | exact HK.out)) hk (.inl rfl)); have n3_ := Aside0.mk (hb); have n4_ := Aside0.mk (hi); clear BK252; clear BK253; clear HK; clear HB; clear HI0; have BK252 := n0_; have BK253 := n1_; have HK := n2_; have HB := n3_; have HI0 := n4_; clear n0_ n1_ n2_ n3_ n4_; (try clear hb); (try clear hb2); (try clear hk); (try clear hi); have hnb46 := NB253_252.out; have hnc46 := NB252_253.out; have hnb47 := NB253_0.out; have hnc47 := NB0_253.out; have hcz48_0 : w45.cell? ⟨gb253, 0, none⟩ = some (.int .i64 x254000_1) := (blk_cell BK253.out 0).trans rfl; have hcz48_1 : w45.cell? ⟨gb253, 1, none⟩ = some (.int .i64 x254001_1) := (blk_cell BK253.out 1).trans rfl; have hcz48_2 : w45.cell? ⟨gb253, 2, none⟩ = some (.int .i64 x254002_1) := (blk_cell BK253.out 2).trans rfl; have hcz48_3 : w45.cell? ⟨gb253, 3, none⟩ = some (.int .i64 x254003_1) := (blk_cell BK253.out 3).trans rfl; have hcz48_4 : w45.cell? ⟨gb253, 4, none⟩ = some (.int .i64 x254004_1) := (blk_cell BK253.out 4).trans rfl; have hcz48_5 : w45.cell? ⟨gb253, 5, none⟩ = some (.int .i64 x254005_1) := (blk_cell BK253.out 5).trans rfl; have hcz48_6 : w45.cell? ⟨gb253, 6, none⟩ = some (.int .i64 x254006_1) := (blk_cell BK253.out 6).trans rfl; have hfz48_0 := blk_frozen BK253.out 0; have hfz48_1 := blk_frozen BK253.out 1; have hfz48_2 := blk_frozen BK253.out 2; have hfz48_3 := blk_frozen BK253.out 3; have hfz48_4 := blk_frozen BK253.out 4; have hfz48_5 := blk_frozen BK253.out 5; have hfz48_6 := blk_frozen BK253.out 6))
                        go_roundg k1
                        case measure => have := HK1.out; omega
                        case rel => exact ⟨(wrap64 (x4_1 + 1)), (t256), (x254000_1), (x254001_1), (x254002_1), (x254003_1), (x254004_1), (x254005_1), (wrap64 (x254006_1 + 1)), (by first | rfl | (simp; done) | (simp [*]; done) | (simp; decide +kernel)), H', ⟨by have := HK1.out; omega⟩, ⟨by (with_reducible repeat (first | refine blk_drewN ?_ _ | refine blk_drew ?_ | refine blk_alloc ?_ _)); refine blk_far ?_ NB252_253.out _; (with_reducible repeat (first | refine blk_drewN ?_ _ | refine blk_drew ?_ | refine blk_alloc ?_ _)); exact BK252.out⟩, ⟨by (with_reducible repeat (first | refine blk_drewN ?_ _ | refine blk_drew ?_ | refine blk_alloc ?_ _)); refine blk_put (cs := #[.int .i64 x254000_1, .int .i64 x254001_1, .int .i64 x254002_1, .int .i64 x254003_1, .int .i64 x254004_1, .int .i64 x254005_1, .int .i64 x254006_1]) ?_ 6 _ rfl; (with_reducible repeat (first | refine blk_drewN ?_ _ | refine blk_drew ?_ | refine blk_alloc ?_ _)); exact BK253.out⟩, ⟨by repeat (first | (with_reducible first | exact HI0.out | apply IsS80.alloc | apply IsS80.drewN | apply IsS80.drew | apply IsS80.set_1 | refine IsS80.far ?_ NB0_252.out _ | refine IsS80.far ?_ NB0_253.out _) | exact HI0.out)⟩, ⟨by repeat (first | (with_reducible first | exact HK.out | apply KeepBut.set_ | apply keep_drewN | apply keep_drew | apply keep_alloc | refine keep_far ?_ GW252.out _ | refine keep_far ?_ GW253.out _) | exact HK.out)⟩, ⟨by repeat (first | (with_reducible first | exact HB.out | apply below_alloc | apply pw_below_drewN | apply below_drew1 | refine below_set ?_ (IsS80.ge HI0.out) | refine below_set ?_ GE252.out | refine below_set ?_ GE253.out) | exact HB.out)⟩⟩
                      · rw [if_neg c43] at H
                        clear c43
                        exact absurd H (by simp)
        · rw [if_neg c5] at H
          exact absurd H (by simp)
      · rw [if_neg c4] at H
        have c4b0 : decide (x4_1 < (s0_0.length : Int)) = false := decide_eq_false c4
        clear c4
        simp only [Option.some.injEq, Prod.mk.injEq] at H
        obtain ⟨rfl, rfl, rfl, rfl, rfl, rfl, rfl, rfl⟩ := H
        obtain ⟨ASz49_0, cSz49_0, HGz49, hgz49, HSz49_0⟩ := HI0.out
        have hcz49_0 := cellS80_0 HGz49
        have hcz49_1 := cellS80_1 HGz49
        have hfz49_1 := blk_frozen HGz49 1
        clear HGz49 hgz49
        have hnb50 := NB253_252.out
        have hnc50 := NB252_253.out
        have hnb51 := NB253_0.out
        have hnc51 := NB0_253.out
        have hcz52_0 : wr.cell? ⟨gb253, 0, none⟩ = some (.int .i64 x254000_1) := (blk_cell BK253.out 0).trans rfl
        have hcz52_1 : wr.cell? ⟨gb253, 1, none⟩ = some (.int .i64 x254001_1) := (blk_cell BK253.out 1).trans rfl
        have hcz52_2 : wr.cell? ⟨gb253, 2, none⟩ = some (.int .i64 x254002_1) := (blk_cell BK253.out 2).trans rfl
        have hcz52_3 : wr.cell? ⟨gb253, 3, none⟩ = some (.int .i64 x254003_1) := (blk_cell BK253.out 3).trans rfl
        have hcz52_4 : wr.cell? ⟨gb253, 4, none⟩ = some (.int .i64 x254004_1) := (blk_cell BK253.out 4).trans rfl
        have hcz52_5 : wr.cell? ⟨gb253, 5, none⟩ = some (.int .i64 x254005_1) := (blk_cell BK253.out 5).trans rfl
        have hcz52_6 : wr.cell? ⟨gb253, 6, none⟩ = some (.int .i64 x254006_1) := (blk_cell BK253.out 6).trans rfl
        have hfz52_0 := blk_frozen BK253.out 0
        have hfz52_1 := blk_frozen BK253.out 1
        have hfz52_2 := blk_frozen BK253.out 2
        have hfz52_3 := blk_frozen BK253.out 3
        have hfz52_4 := blk_frozen BK253.out 4
        have hfz52_5 := blk_frozen BK253.out 5
        have hfz52_6 := blk_frozen BK253.out 6
        have hnb53 := NB252_0.out
        have hnc53 := NB0_252.out
        have hcz54_0 : wr.cell? ⟨gb252, 0, none⟩ = some (.int .i64 0) := (blk_cell BK252.out 0).trans rfl
        have hcz54_1 : wr.cell? ⟨gb252, 1, none⟩ = some (.int .i64 0) := (blk_cell BK252.out 1).trans rfl
        have hcz54_2 : wr.cell? ⟨gb252, 2, none⟩ = some (.int .i64 0) := (blk_cell BK252.out 2).trans rfl
        have hcz54_3 : wr.cell? ⟨gb252, 3, none⟩ = some (.int .i64 0) := (blk_cell BK252.out 3).trans rfl
        have hcz54_4 : wr.cell? ⟨gb252, 4, none⟩ = some (.int .i64 0) := (blk_cell BK252.out 4).trans rfl
        have hcz54_5 : wr.cell? ⟨gb252, 5, none⟩ = some (.int .i64 0) := (blk_cell BK252.out 5).trans rfl
        have hcz54_6 : wr.cell? ⟨gb252, 6, none⟩ = some (.int .i64 0) := (blk_cell BK252.out 6).trans rfl
        have hfz54_0 := blk_frozen BK252.out 0
        have hfz54_1 := blk_frozen BK252.out 1
        have hfz54_2 := blk_frozen BK252.out 2
        have hfz54_3 := blk_frozen BK252.out 3
        have hfz54_4 := blk_frozen BK252.out 4
        have hfz54_5 := blk_frozen BK252.out 5
        have hfz54_6 := blk_frozen BK252.out 6
        go_wp2
        refine bodyPost_ret (results_cell_row rfl _ _ gb252 74 #[.int .i64 x254000_1, .int .i64 x254001_1, .int .i64 x254002_1, .int .i64 x254003_1, .int .i64 x254004_1, .int .i64 x254005_1, .int .i64 x254006_1] (0, 0) _ rfl (by (with_reducible repeat (first | refine blk_drewN ?_ _ | refine blk_drew ?_ | refine blk_alloc ?_ _)); refine blk_put (cs := #[.int .i64 x254000_1, .int .i64 x254001_1, .int .i64 x254002_1, .int .i64 x254003_1, .int .i64 x254004_1, .int .i64 x254005_1, .int .i64 0]) ?_ 6 _ rfl; (with_reducible repeat (first | refine blk_drewN ?_ _ | refine blk_drew ?_ | refine blk_alloc ?_ _)); refine blk_put (cs := #[.int .i64 x254000_1, .int .i64 x254001_1, .int .i64 x254002_1, .int .i64 x254003_1, .int .i64 x254004_1, .int .i64 0, .int .i64 0]) ?_ 5 _ rfl; (with_reducible repeat (first | refine blk_drewN ?_ _ | refine blk_drew ?_ | refine blk_alloc ?_ _)); refine blk_put (cs := #[.int .i64 x254000_1, .int .i64 x254001_1, .int .i64 x254002_1, .int .i64 x254003_1, .int .i64 0, .int .i64 0, .int .i64 0]) ?_ 4 _ rfl; (with_reducible repeat (first | refine blk_drewN ?_ _ | refine blk_drew ?_ | refine blk_alloc ?_ _)); refine blk_put (cs := #[.int .i64 x254000_1, .int .i64 x254001_1, .int .i64 x254002_1, .int .i64 0, .int .i64 0, .int .i64 0, .int .i64 0]) ?_ 3 _ rfl; (with_reducible repeat (first | refine blk_drewN ?_ _ | refine blk_drew ?_ | refine blk_alloc ?_ _)); refine blk_put (cs := #[.int .i64 x254000_1, .int .i64 x254001_1, .int .i64 0, .int .i64 0, .int .i64 0, .int .i64 0, .int .i64 0]) ?_ 2 _ rfl; (with_reducible repeat (first | refine blk_drewN ?_ _ | refine blk_drew ?_ | refine blk_alloc ?_ _)); refine blk_put (cs := #[.int .i64 x254000_1, .int .i64 0, .int .i64 0, .int .i64 0, .int .i64 0, .int .i64 0, .int .i64 0]) ?_ 1 _ rfl; (with_reducible repeat (first | refine blk_drewN ?_ _ | refine blk_drew ?_ | refine blk_alloc ?_ _)); refine blk_put (cs := #[.int .i64 0, .int .i64 0, .int .i64 0, .int .i64 0, .int .i64 0, .int .i64 0, .int .i64 0]) ?_ 0 _ rfl; (with_reducible repeat (first | refine blk_drewN ?_ _ | refine blk_drew ?_ | refine blk_alloc ?_ _)); exact BK252.out) Tryd.underlying74 rfl (by kernel_rfl)) rfl ?_
        exact ⟨by first | rfl | (simp [errW_none, errW_some] <;> rfl) | (simp [*, errW_none, errW_some] <;> rfl), by repeat (first | (with_reducible first | exact HI0.out | apply IsS80.alloc | apply IsS80.drewN | apply IsS80.drew | apply IsS80.set_1 | refine IsS80.far ?_ NB0_252.out _ | refine IsS80.far ?_ NB0_253.out _) | exact HI0.out), by repeat (first | (with_reducible first | exact HB.out | apply below_alloc | apply pw_below_drewN | apply below_drew1 | refine below_set ?_ (IsS80.ge HI0.out) | refine below_set ?_ GE252.out | refine below_set ?_ GE253.out) | exact HB.out), by repeat (first | (with_reducible first | exact HK.out | apply KeepBut.set_ | apply keep_drewN | apply keep_drew | apply keep_alloc | refine keep_far ?_ GW252.out _ | refine keep_far ?_ GW253.out _) | exact HK.out)⟩

-- NOT PRINTED: function 50 (remontoirlaw06_same)

-- NOT PRINTED: function 9 (remontoirlaw06_WheelPlays)

-- NOT PRINTED: function 10 (remontoirlaw06_WheelPlaces)

-- NOT PRINTED: function 11 (remontoirlaw06_WheelNone)

/-! ### plan_order: function 84 -/
def plan_order.f (k : Nat) (a0_0 : Int) (a0_1 : Int) (a1_0 : Int) (a1_1 : Int) : Option (Int) := (cmp_Compare_uint64.f a0_1 a1_1).bind fun t260 => ((cmp_Compare_int.f a0_0 a1_0).bind fun t261 => ((cmp_Or_int.f k (([t260, t261] : List Int))).bind fun t265 => (some t265)))
theorem plan_order.mono : ∀ a0 a1 a2 a3 k, LeO (plan_order.f k a0 a1 a2 a3) (plan_order.f (k + 1) a0 a1 a2 a3) := by
  intro a0 a1 a2 a3 k
  unfold plan_order.f
  repeat' first
      | (with_reducible exact cmp_Or_int.mono _ _)
      | (with_reducible exact LeO.refl _)
      | (with_reducible exact LeO.none _)
      | (with_reducible refine LeO.ite ?_ ?_)
      | (with_reducible refine LeO.bind ?_ (fun _ => ?_))
      | exact cmp_Or_int.mono _ _
      | exact LeO.none _
      | refine LeO.ite ?_ ?_
      | refine LeO.bind ?_ (fun _ => ?_)
def plan_order.T1 : Bool × List (List Nat × List Nat) := (true, [([], []), ([0], [0]), ([], []), ([2], [2]), ([1, 3], [1, 3]), ([], []), ([5], [5]), ([], []), ([7], [7]), ([6, 8, 4], [6, 8]), ([4, 9], [4, 9]), ([10, 9], [10]), ([11, 11, 0, 1, 2, 3, 4, 5, 6, 7, 8, 9, 10, 11], [11])])
def plan_order.B1 : List Nat := [0, 1, 0, 4, 15, 0, 32, 0, 128, 511, 1023, 2047, 4095]
theorem plan_order.tab1 : rtab .any (opsOf Tryd.f84 1) = plan_order.T1 := by kernel_rfl
theorem plan_order.bits1 : waitsOk plan_order.T1.2 plan_order.B1 = true := by kernel_rfl
set_option maxHeartbeats 8000000 in
set_option maxRecDepth 100000 in
theorem plan_order.calls (k : Nat) (a0_0 : Int) (a0_1 : Int) (a1_0 : Int) (a1_1 : Int) (r : Int) (w : World) (h : plan_order.f k a0_0 a0_1 a1_0 a1_1 = some r) :
    Calls Tryd.prog 84 #[.agg #[.int .i64 a0_0, .int .u64 a0_1], .agg #[.int .i64 a1_0, .int .u64 a1_1]] w fun e w' => e = .returned (.int .i64 r) ∧ Below w.heap.size w w' := by
  have hu31 := Tryd.underlying31
  have HB := Aside0.mk (Below.refl w.heap.size w)
  have H : ((cmp_Compare_uint64.f a0_1 a1_1).bind fun t260 => ((cmp_Compare_int.f a0_0 a1_0).bind fun t261 => ((cmp_Or_int.f k (([t260, t261] : List Int))).bind fun t265 => (some t265)))) = some r := h
  clear h
  replace H := Option.bind_eq_some_iff.mp H
  obtain ⟨t260, A30, H⟩ := H
  replace H : ((cmp_Compare_int.f a0_0 a1_0).bind fun t261 => ((cmp_Or_int.f k (([t260, t261] : List Int))).bind fun t265 => (some t265))) = some r := H
  have A3 := Aside0.mk A30
  clear A30
  replace H := Option.bind_eq_some_iff.mp H
  obtain ⟨t261, A40, H⟩ := H
  replace H : ((cmp_Or_int.f k (([t260, t261] : List Int))).bind fun t265 => (some t265)) = some r := H
  have A4 := Aside0.mk A40
  clear A40
  obtain ⟨y262, hy262⟩ : ∃ y_ : List Int, y_ = (([t260, t261] : List Int)) := ⟨_, rfl⟩
  replace H : ((cmp_Or_int.f k y262).bind fun t265 => (some t265)) = some r := by first | (rw [hy262]; with_reducible exact H) | (have H2_ := (Option.bind_some _ _).symm.trans H; rw [hy262]; with_reducible exact H2_) | (have H2_ := (Option.bind_some _ _).symm.trans H; with_reducible exact H2_) | with_reducible exact H | (rw [hy262]; exact H) | exact H
  have Ny262 := Aside0.mk hy262
  clear hy262
  replace H := Option.bind_eq_some_iff.mp H
  obtain ⟨t265, A50, H⟩ := H
  replace H : (some t265) = some r := H
  have A5 := Aside0.mk A50
  clear A50
  obtain rfl := Option.some.inj H
  go_enter Tryd.func84, Tryd.ntmps84
  try go_wp2_with (first | ((with_reducible refine gate_dst (N := 2) rfl ?_); refine box_event ?hg (N := 2) ?hd (cs := #[.int .i64 a0_0, .int .u64 a0_1]) (t := 31) ?hr ?_; (case hd => rfl); (case hg => rfl); (case hr => first | (go_simp; done) | (go_simp; rfl)); intro gb258 hg w6 hbox hb; have n0_ := Aside0.mk (below_step (by repeat (first | (with_reducible first | exact HB.out | apply below_alloc | apply pw_below_drewN | apply below_drew1) | exact HB.out)) hb); have n1_ := Aside0.mk (hbox); have n2_ := Aside0.mk ((by rw [hg]; exact (below_size (by repeat (first | (with_reducible first | exact HB.out | apply below_alloc | apply pw_below_drewN | apply below_drew1) | exact HB.out))) : w.heap.size ≤ gb258)); have n3_ := Aside0.mk ((by rw [hg]; exact (below_size (by repeat (first | (with_reducible first | exact HB.out | apply below_alloc | apply pw_below_drewN | apply below_drew1) | exact HB.out))) : w.heap.size ≤ gb258)); clear HB; have HB := n0_; have BK258 := n1_; have GW258 := n2_; have GE258 := n3_; clear n0_ n1_ n2_ n3_; clear hb hbox hg) | ((with_reducible refine gate_dst (N := 3) rfl ?_); refine box_event ?hg (N := 3) ?hd (cs := #[.int .i64 a1_0, .int .u64 a1_1]) (t := 31) ?hr ?_; (case hd => rfl); (case hg => rfl); (case hr => first | (go_simp; done) | (go_simp; rfl)); intro gb259 hg w7 hbox hb; have n0_ := Aside0.mk (blk_below (g := gb258) (o := .cells #[.int .i64 a0_0, .int .u64 a0_1] 31 (0, 0)) (by (with_reducible repeat (first | refine blk_drewN ?_ _ | refine blk_drew ?_ | refine blk_alloc ?_ _)); exact BK258.out) hb); have n1_ := Aside0.mk (below_step (by repeat (first | (with_reducible first | exact HB.out | apply below_alloc | apply pw_below_drewN | apply below_drew1 | refine below_set ?_ GE258.out) | exact HB.out)) hb); have n2_ := Aside0.mk (hbox); have n3_ := Aside0.mk ((by rw [hg]; exact (below_size (by repeat (first | (with_reducible first | exact HB.out | apply below_alloc | apply pw_below_drewN | apply below_drew1 | refine below_set ?_ GE258.out) | exact HB.out))) : w.heap.size ≤ gb259)); have n4_ := Aside0.mk ((by rw [hg]; exact (below_size (by repeat (first | (with_reducible first | exact HB.out | apply below_alloc | apply pw_below_drewN | apply below_drew1 | refine below_set ?_ GE258.out) | exact HB.out))) : w.heap.size ≤ gb259)); have n5_ := Aside0.mk ((by rw [hg]; exact Nat.ne_of_lt (blk_lt (g := gb258) (o := .cells #[.int .i64 a0_0, .int .u64 a0_1] 31 (0, 0)) (by (with_reducible repeat (first | refine blk_drewN ?_ _ | refine blk_drew ?_ | refine blk_alloc ?_ _)); exact BK258.out)) : gb258 ≠ gb259)); have n6_ := Aside0.mk ((by rw [hg]; exact Nat.ne_of_gt (blk_lt (g := gb258) (o := .cells #[.int .i64 a0_0, .int .u64 a0_1] 31 (0, 0)) (by (with_reducible repeat (first | refine blk_drewN ?_ _ | refine blk_drew ?_ | refine blk_alloc ?_ _)); exact BK258.out)) : gb259 ≠ gb258)); clear BK258; clear HB; have BK258 := n0_; have HB := n1_; have BK259 := n2_; have GW259 := n3_; have GE259 := n4_; have NB258_259 := n5_; have NB259_258 := n6_; clear n0_ n1_ n2_ n3_ n4_ n5_ n6_; clear hb hbox hg))
  have n0_ := Aside0.mk (blk_drew BK258.out)
  have n1_ := Aside0.mk (blk_drew BK259.out)
  have n2_ := Aside0.mk (below_drew1 HB.out)
  clear BK258
  clear BK259
  clear HB
  have BK258 := n0_
  have BK259 := n1_
  have HB := n2_
  clear n0_ n1_ n2_
  refine start_ (n := 13) (S := fun w' => w'.cell? ⟨gb258, 0, none⟩ = some (.int .i64 a0_0) ∧ w'.cell? ⟨gb258, 1, none⟩ = some (.int .u64 a0_1) ∧ w'.cell? ⟨gb259, 0, none⟩ = some (.int .i64 a1_0) ∧ w'.cell? ⟨gb259, 1, none⟩ = some (.int .u64 a1_1)) (ds := []) #[false, false, false, false, false, false, false, false, false, false, false, false, false] (by kernel_rfl) rfl rfl ⟨(blk_cell BK258.out 0).trans rfl, (blk_cell BK258.out 1).trans rfl, (blk_cell BK259.out 0).trans rfl, (blk_cell BK259.out 1).trans rfl⟩ (fun hHeld => ?_); refine with_tabW plan_order.tab1 plan_order.bits1 (fun HT_ HW_ => ?_)
  generalize w7.drew = w8 at BK258 BK259 HB hHeld ⊢
  refine pure_ (i := 0) (N := some 5) (v := ?_) (a' := ?_) #[true, false, false, false, false, false, false, false, false, false, false, false, false] rfl rfl (any_of HT_.out (by kernel_rfl)) (fun _ _ _ h => h) (Or.inl ⟨by rfl, ?_⟩) ?_ ?_
  rotate_left
  · intro w'
    go_simp
    with_reducible rfl
  rotate_left
  · simp only [Act.put, List.setIfInBounds_toArray, List.set_cons_zero, List.set_cons_succ, i64_w, i32_w]
    rfl
  refine pure_ (i := 2) (N := some 7) (v := ?_) (a' := ?_) #[true, false, true, false, false, false, false, false, false, false, false, false, false] rfl rfl (any_of HT_.out (by kernel_rfl)) (fun _ _ _ h => h) (Or.inl ⟨by rfl, ?_⟩) ?_ ?_
  rotate_left
  · intro w'
    go_simp
    with_reducible rfl
  rotate_left
  · simp only [Act.put, List.setIfInBounds_toArray, List.set_cons_zero, List.set_cons_succ, i64_w, i32_w]
    rfl
  refine pure_ (i := 5) (N := some 10) (v := ?_) (a' := ?_) #[true, false, true, false, false, true, false, false, false, false, false, false, false] rfl rfl (any_of HT_.out (by kernel_rfl)) (fun _ _ _ h => h) (Or.inl ⟨by rfl, ?_⟩) ?_ ?_
  rotate_left
  · intro w'
    go_simp
    with_reducible rfl
  rotate_left
  · simp only [Act.put, List.setIfInBounds_toArray, List.set_cons_zero, List.set_cons_succ, i64_w, i32_w]
    rfl
  refine pure_ (i := 7) (N := some 12) (v := ?_) (a' := ?_) #[true, false, true, false, false, true, false, true, false, false, false, false, false] rfl rfl (any_of HT_.out (by kernel_rfl)) (fun _ _ _ h => h) (Or.inl ⟨by rfl, ?_⟩) ?_ ?_
  rotate_left
  · intro w'
    go_simp
    with_reducible rfl
  rotate_left
  · simp only [Act.put, List.setIfInBounds_toArray, List.set_cons_zero, List.set_cons_succ, i64_w, i32_w]
    rfl
  refine take_ (i := 1) (N := some 6) (v := ?_) (a' := ?_) #[true, true, true, false, false, true, false, true, false, false, false, false, false] rfl rfl (take_ofW HT_.out HW_.out (by kernel_rfl)) (fun _ _ _ h => h) (Or.inl ⟨by rfl, ?_⟩) hHeld ?_ ?_
  rotate_left
  · rintro w' ⟨s0, s1, s2, s3⟩
    go_simp
    with_reducible rfl
  rotate_left
  · simp only [Act.put, List.setIfInBounds_toArray, List.set_cons_zero, List.set_cons_succ, i64_w, i32_w]
    rfl
  refine take_ (i := 3) (N := some 8) (v := ?_) (a' := ?_) #[true, true, true, true, false, true, false, true, false, false, false, false, false] rfl rfl (take_ofW HT_.out HW_.out (by kernel_rfl)) (fun _ _ _ h => h) (Or.inl ⟨by rfl, ?_⟩) hHeld ?_ ?_
  rotate_left
  · rintro w' ⟨s0, s1, s2, s3⟩
    go_simp
    with_reducible rfl
  rotate_left
  · simp only [Act.put, List.setIfInBounds_toArray, List.set_cons_zero, List.set_cons_succ, i64_w, i32_w]
    rfl
  refine take_ (i := 6) (N := some 11) (v := ?_) (a' := ?_) #[true, true, true, true, false, true, true, true, false, false, false, false, false] rfl rfl (take_ofW HT_.out HW_.out (by kernel_rfl)) (fun _ _ _ h => h) (Or.inl ⟨by rfl, ?_⟩) hHeld ?_ ?_
  rotate_left
  · rintro w' ⟨s0, s1, s2, s3⟩
    go_simp
    with_reducible rfl
  rotate_left
  · simp only [Act.put, List.setIfInBounds_toArray, List.set_cons_zero, List.set_cons_succ, i64_w, i32_w]
    rfl
  refine take_ (i := 8) (N := some 13) (v := ?_) (a' := ?_) #[true, true, true, true, false, true, true, true, true, false, false, false, false] rfl rfl (take_ofW HT_.out HW_.out (by kernel_rfl)) (fun _ _ _ h => h) (Or.inl ⟨by rfl, ?_⟩) hHeld ?_ ?_
  rotate_left
  · rintro w' ⟨s0, s1, s2, s3⟩
    go_simp
    with_reducible rfl
  rotate_left
  · simp only [Act.put, List.setIfInBounds_toArray, List.set_cons_zero, List.set_cons_succ, i64_w, i32_w]
    rfl
  refine one_ (i := 4) (N := some 9) #[true, true, true, true, true, true, true, true, true, false, false, false, false] rfl rfl (one_of HT_.out (by kernel_rfl)) (by decide) (fun K hK => ?_)
  refine goes_ Tryd.func88 (by kernel_rfl) rfl #[.int .u64 a0_1, .int .u64 a1_1] (by rfl) rfl rfl (by (try simp only [List.map_toArray, List.map_cons, List.map_nil]); first | done | rfl | (simp only [List.length_drop, List.length_take]; rfl)) ?_
  with_reducible refine (cmp_Compare_uint64.calls a0_1 a1_1 t260 _ A3.out).mono ?_
  rintro e w' ⟨rfl, ⟨nd, rfl⟩⟩
  refine ⟨_, rfl, ?_⟩
  refine hK.out _ _ ⟨(blk_cell BK258.out 0).trans rfl, (blk_cell BK258.out 1).trans rfl, (blk_cell BK259.out 0).trans rfl, (blk_cell BK259.out 1).trans rfl⟩ (fun hHeld => ?_)
  clear hK K
  refine norm_ (a' := ?_) ?_ ?_
  rotate_left
  · show Act.put _ (some 9) _ = _
    simp only [Act.put, List.setIfInBounds_toArray, List.set_cons_zero, List.set_cons_succ, i64_w, i32_w]
    rfl
  refine one_ (i := 9) (N := some 14) #[true, true, true, true, true, true, true, true, true, true, false, false, false] rfl rfl (one_of HT_.out (by kernel_rfl)) (by decide) (fun K hK => ?_)
  refine goes_ Tryd.func89 (by kernel_rfl) rfl #[.int .i64 a0_0, .int .i64 a1_0] (by rfl) rfl rfl (by (try simp only [List.map_toArray, List.map_cons, List.map_nil]); first | done | rfl | (simp only [List.length_drop, List.length_take]; rfl)) ?_
  with_reducible refine (cmp_Compare_int.calls a0_0 a1_0 t261 _ A4.out).mono ?_
  rintro e w' ⟨rfl, ⟨nd, rfl⟩⟩
  refine ⟨_, rfl, ?_⟩
  refine hK.out _ _ ⟨(blk_cell BK258.out 0).trans rfl, (blk_cell BK258.out 1).trans rfl, (blk_cell BK259.out 0).trans rfl, (blk_cell BK259.out 1).trans rfl⟩ (fun hHeld => ?_)
  clear hK K
  refine norm_ (a' := ?_) ?_ ?_
  rotate_left
  · show Act.put _ (some 14) _ = _
    simp only [Act.put, List.setIfInBounds_toArray, List.set_cons_zero, List.set_cons_succ, i64_w, i32_w]
    rfl
  refine one_ (i := 10) (N := some 15) #[true, true, true, true, true, true, true, true, true, true, true, false, false] rfl rfl (one_of HT_.out (by kernel_rfl)) (by decide) (fun K hK => ?_)
  refine Kd.R_lit_step (Kd.int .i64) _ 3 ?hg (N := 15) ?hd (xs := ([t260, t261] : List Int)) (inner := [.int .i64 t260, .int .i64 t261]) (ok := fun _ => True) (okp := fun _ => True) ?hr ?hp (fun _ hk => hk) trivial (Below.refl _ _) (Nat.le_refl _) (by simp) ?_; (case hd => rfl); (case hg => rfl); (case hr => first | (go_simp; done) | (go_simp; rfl)); (case hp => exact (Reps.one (show Kd.M (Kd.int .i64) _ _ _ t260 [.int .i64 t260] from rfl) (Reps.one (show Kd.M (Kd.int .i64) _ _ _ t261 [.int .i64 t261] from rfl) (Reps.none _ _))))
  intro v263 w9 ho10 hb hg_ hnew_
  clear hg_ hnew_
  (first | rw [← Ny262.out] at ho10 | (simp only [Int.reduceToNat] at ho10; rw [← Ny262.out] at ho10))
  have n0_ := Aside0.mk (Kd.R_lower ho10 (below_size (by repeat (first | (with_reducible first | exact HB.out | apply below_alloc | apply pw_below_drewN | apply below_drew1 | refine below_set ?_ GE258.out | refine below_set ?_ GE259.out) | exact HB.out))))
  have n1_ := Aside0.mk (blk_below (g := gb258) (o := .cells #[.int .i64 a0_0, .int .u64 a0_1] 31 (0, 0)) (by (with_reducible repeat (first | refine blk_drewN ?_ _ | refine blk_drew ?_ | refine blk_alloc ?_ _)); exact BK258.out) hb)
  have n2_ := Aside0.mk (blk_below (g := gb259) (o := .cells #[.int .i64 a1_0, .int .u64 a1_1] 31 (0, 0)) (by (with_reducible repeat (first | refine blk_drewN ?_ _ | refine blk_drew ?_ | refine blk_alloc ?_ _)); exact BK259.out) hb)
  have n3_ := Aside0.mk (below_step (by repeat (first | (with_reducible first | exact HB.out | apply below_alloc | apply pw_below_drewN | apply below_drew1 | refine below_set ?_ GE258.out | refine below_set ?_ GE259.out) | exact HB.out)) hb)
  clear BK258
  clear BK259
  clear HB
  have HO264 := n0_
  have BK258 := n1_
  have BK259 := n2_
  have HB := n3_
  clear n0_ n1_ n2_ n3_
  clear hb ho10
  obtain ⟨Ao11, co11, eo11⟩ := Kd.R_slice HO264.out
  (first | subst eo11 | (injection eo11 with f1_ f2_ f3_; have f4_ := f1_.symm; have f5_ := f3_.symm; clear f1_ f2_ f3_; subst f4_; subst f5_))
  refine hK.out _ _ ⟨(blk_cell BK258.out 0).trans rfl, (blk_cell BK258.out 1).trans rfl, (blk_cell BK259.out 0).trans rfl, (blk_cell BK259.out 1).trans rfl⟩ (fun hHeld => ?_)
  clear hK K
  refine norm_ (a' := ?_) ?_ ?_
  rotate_left
  · show Act.put _ (some 15) _ = _
    simp only [Act.put, List.setIfInBounds_toArray, List.set_cons_zero, List.set_cons_succ, i64_w, i32_w]
    rfl
  refine one_ (i := 11) (N := some 16) #[true, true, true, true, true, true, true, true, true, true, true, true, false] rfl rfl (one_of HT_.out (by kernel_rfl)) (by decide) (fun K hK => ?_)
  refine goes_ Tryd.func87 (by kernel_rfl) rfl #[.slice Ao11 y262.length co11] (by rfl) rfl rfl (by (try simp only [List.map_toArray, List.map_cons, List.map_nil]); first | done | rfl | (simp only [List.length_drop, List.length_take]; rfl)) ?_
  with_reducible refine (cmp_Or_int.calls k _ _ y262 t265 _ ?side1 ?side2 A5.out).mono ?_
  (case side1 => repeat (first | exact (Kd.R_reads' HO264.out).2.2 | (with_reducible refine Kd.C_alloc ?_ _) | (with_reducible refine Kd.C_drewN ?_ _) | (with_reducible refine Kd.C_drew ?_)))
  (case side2 => exact (Kd.R_reads' HO264.out).2.1)
  rintro e w' ⟨rfl, ⟨nd, rfl⟩⟩
  refine ⟨_, rfl, ?_⟩
  refine hK.out _ _ ⟨(blk_cell BK258.out 0).trans rfl, (blk_cell BK258.out 1).trans rfl, (blk_cell BK259.out 0).trans rfl, (blk_cell BK259.out 1).trans rfl⟩ (fun hHeld => ?_)
  clear hK K
  refine norm_ (a' := ?_) ?_ ?_
  rotate_left
  · show Act.put _ (some 16) _ = _
    simp only [Act.put, List.setIfInBounds_toArray, List.set_cons_zero, List.set_cons_succ, i64_w, i32_w]
    rfl
  refine pure_ (i := 12) (N := some 4) (v := ?_) (a' := ?_) #[true, true, true, true, true, true, true, true, true, true, true, true, true] rfl rfl (any_of HT_.out (by kernel_rfl)) (fun _ _ _ h => h) (Or.inl ⟨by rfl, ?_⟩) ?_ ?_
  rotate_left
  · intro w'
    go_simp
    with_reducible rfl
  rotate_left
  · simp only [Act.put, List.setIfInBounds_toArray, List.set_cons_zero, List.set_cons_succ, i64_w, i32_w]
    rfl
  refine done_ (done_of HT_.out (by kernel_rfl)) ?_
  try go_wp2
  go_ret
  exact ⟨by first | rfl | (simp [errW_none, errW_some] <;> rfl) | (simp [*, errW_none, errW_some] <;> rfl), by repeat (first | (with_reducible first | exact HB.out | apply below_alloc | apply pw_below_drewN | apply below_drew1 | refine below_set ?_ GE258.out | refine below_set ?_ GE259.out) | exact HB.out)⟩

-- NOT PRINTED: function 81 (plan_Good)

-- NOT PRINTED: function 82 (api_Due_82)

-- NOT PRINTED: function 83 (plan_has)

-- NOT PRINTED: function 53 (plan_Insert)

-- NOT PRINTED: function 100 (api_Due_100)

-- NOT PRINTED: function 86 (api_Due_86)

-- NOT PRINTED: function 54 (plan_Cancel)

/-! ### plan_Split: function 55 -/
def plan_Split.l0 : Nat → Int → List (S31) → List (S31) → List (S31) → Int → Int → Option ((List (S31)) × (List (S31)))
  | 0, _, _, _, _, _, _ => none
  | k + 1, x1, x4, x5, x8, x9, x10 => if x10 < x9 then (if 0 ≤ x10 then (if x10 < (x8.length : Int) then (if ((rd_T31 x8 x10).f1) ≤ x1 then (if x4.length < 8796093022208 then (plan_Split.l0 k x1 (x4 ++ [(⟨(rd_T31 x8 x10).f0, (rd_T31 x8 x10).f1⟩ : S31)]) x5 x8 x9 (wrap64 (x10 + 1))) else (none)) else (if x5.length < 8796093022208 then (plan_Split.l0 k x1 x4 (x5 ++ [(⟨(rd_T31 x8 x10).f0, (rd_T31 x8 x10).f1⟩ : S31)]) x8 x9 (wrap64 (x10 + 1))) else (none))) else (none)) else (none)) else (some (x4, x5))
def plan_Split.f (k : Nat) (l0 : List (S31)) (a1 : Int) : Option ((List (S31)) × (List (S31))) := plan_Split.l0 k a1 ([] : List (S31)) ([] : List (S31)) l0 (l0.length : Int) 0
theorem plan_Split.mono_l : ∀ k, (∀ y0 y1 y2 y3 y4 y5, LeO (plan_Split.l0 k y0 y1 y2 y3 y4 y5) (plan_Split.l0 (k + 1) y0 y1 y2 y3 y4 y5))
  | 0 => fun _ _ _ _ _ _ r h => by simp [plan_Split.l0] at h
  | k + 1 => by
    have ih0 := plan_Split.mono_l k
    · intro y0 y1 y2 y3 y4 y5
      unfold plan_Split.l0
      repeat' first
      | (with_reducible exact ih0 _ _ _ _ _ _)
      | (with_reducible exact LeO.refl _)
      | (with_reducible exact LeO.none _)
      | (with_reducible refine LeO.ite ?_ ?_)
      | (with_reducible refine LeO.bind ?_ (fun _ => ?_))
      | exact ih0 _ _ _ _ _ _
      | exact LeO.none _
      | refine LeO.ite ?_ ?_
      | refine LeO.bind ?_ (fun _ => ?_)
theorem plan_Split.mono : ∀ a0 a1 k, LeO (plan_Split.f k a0 a1) (plan_Split.f (k + 1) a0 a1) := by
  intro a0 a1 k
  have ih0 := plan_Split.mono_l k
  unfold plan_Split.f
  repeat' first
      | (with_reducible exact ih0 _ _ _ _ _ _)
      | (with_reducible exact LeO.refl _)
      | (with_reducible exact LeO.none _)
      | (with_reducible refine LeO.ite ?_ ?_)
      | (with_reducible refine LeO.bind ?_ (fun _ => ?_))
      | exact ih0 _ _ _ _ _ _
      | exact LeO.none _
      | refine LeO.ite ?_ ?_
      | refine LeO.bind ?_ (fun _ => ?_)
set_option maxHeartbeats 8000000 in
set_option maxRecDepth 100000 in
theorem plan_Split.calls (k : Nat) (A0 : Option Addr) (c0 : Nat) (l0 : List (S31)) (a1 : Int) (r1 : List (S31)) (r2 : List (S31)) (w : World) (hr0 : Kd.C k31 w A0 l0.length l0) (hc0 : l0.length ≤ c0) (h : plan_Split.f k l0 a1 = some (r1, r2)) :
    Calls Tryd.prog 55 #[.slice A0 l0.length c0, .int .u64 a1] w fun e w' => ∃ v0_ v1_ : Value, e = .returned (.tuple #[v0_, v1_]) ∧ Kd.R k31 31 w' w.heap.size (fun k_ => some k_ ≠ (v1_ : Value).ownBlock) v0_ r1 ∧ Kd.R k31 31 w' w.heap.size (fun k_ => some k_ ≠ (v0_ : Value).ownBlock) v1_ r2 ∧ Below w.heap.size w w' := by
  have hu31 := Tryd.underlying31
  have HR0 := Aside0.mk hr0
  have HC0 := Aside0.mk hc0
  clear hr0 hc0
  have HB := Aside0.mk (Below.refl w.heap.size w)
  have H : (plan_Split.l0 k a1 ([] : List (S31)) ([] : List (S31)) l0 (l0.length : Int) 0) = some (r1, r2) := h
  clear h
  have H' := Aside0.mk H
  clear H
  go_enter Tryd.func55, Tryd.ntmps55
  go_wp2
  go_loopg [4, 5, 10] k (fun kq v4 v5 v10 w' => ∃ (x4_1 : List (S31)) (x5_1 : List (S31)) (x10_1 : Int), v10 = .int .i64 x10_1 ∧ Aside0 (plan_Split.l0 kq a1 x4_1 x5_1 l0 (l0.length : Int) x10_1 = some (r1, r2)) ∧ Aside0 (kq ≤ k) ∧ Aside0 (Kd.R k31 31 w' w.heap.size (fun k_ => some k_ ≠ (v5 : Value).ownBlock) v4 x4_1) ∧ Aside0 (Kd.R k31 31 w' w.heap.size (fun k_ => some k_ ≠ (v4 : Value).ownBlock) v5 x5_1) ∧ Aside0 (Below w.heap.size w w'))
  case atStart => exact ⟨(([] : List (S31))), (([] : List (S31))), (0), (by first | rfl | (simp; done) | (simp [*]; done) | (simp; decide +kernel)), H', ⟨Nat.le_refl _⟩, ⟨by first | exact Kd.R_nil _ _ _ _ _ | exact Kd.N_nil _ _ _ _ _ | exact Kd.V_nil _ _ _ _ _ | exact Kd.Q_nil _ _ _ _ _ | exact Kd.S_nil _ _ _ _ _⟩, ⟨by first | exact Kd.R_nil _ _ _ _ _ | exact Kd.N_nil _ _ _ _ _ | exact Kd.V_nil _ _ _ _ _ | exact Kd.Q_nil _ _ _ _ _ | exact Kd.S_nil _ _ _ _ _⟩, ⟨by repeat (first | (with_reducible first | exact HB.out | apply below_alloc | apply pw_below_drewN | apply below_drew1) | exact HB.out)⟩⟩
  case round =>
    clear H'
    try clear p2
    obtain ⟨x4_1, x5_1, x10_1, rfl, HA, HK1, HO_4, HO_5, HB⟩ := hrel
    cases gk with
    | zero => exact absurd HA.out (by simp [plan_Split.l0])
    | succ k1 =>
      have H := HA.out
      clear HA
      simp only [plan_Split.l0] at H
      by_cases c3 : x10_1 < (l0.length : Int)
      · rw [if_pos c3] at H
        have c3b0 : decide (x10_1 < (l0.length : Int)) = true := decide_eq_true c3
        clear c3
        by_cases c4 : 0 ≤ x10_1
        · rw [if_pos c4] at H
          have c4b0 : decide (0 ≤ x10_1) = true := decide_eq_true c4
          clear c4
          by_cases c5 : x10_1 < (l0.length : Int)
          · rw [if_pos c5] at H
            have c5b0 : decide (x10_1 < (l0.length : Int)) = true := decide_eq_true c5
            clear c5
            by_cases c6 : ((rd_T31 l0 x10_1).f1) ≤ a1
            · rw [if_pos c6] at H
              have c6b0 : decide (((rd_T31 l0 x10_1).f1) ≤ a1) = true := decide_eq_true c6
              clear c6
              by_cases c7 : x4_1.length < 8796093022208
              · rw [if_pos c7] at H
                have LMc7 := Aside0.mk c7
                clear c7
                obtain ⟨y270, hy270⟩ : ∃ y_ : List (S31), y_ = (x4_1 ++ [(⟨(rd_T31 l0 x10_1).f0, (rd_T31 l0 x10_1).f1⟩ : S31)]) := ⟨_, rfl⟩
                replace H : (plan_Split.l0 k1 a1 y270 x5_1 l0 (l0.length : Int) (wrap64 (x10_1 + 1))) = some (r1, r2) := by first | (rw [hy270]; with_reducible exact H) | (have H2_ := (Option.bind_some _ _).symm.trans H; rw [hy270]; with_reducible exact H2_) | (have H2_ := (Option.bind_some _ _).symm.trans H; with_reducible exact H2_) | with_reducible exact H | (rw [hy270]; exact H) | exact H
                have Ny270 := Aside0.mk hy270
                clear hy270
                have H' := Aside0.mk H
                clear H
                have p268 : 0 ≤ (x10_1 : Int) := of_decide_eq_true (by first | (with_reducible assumption) | assumption)
                have q268 : x10_1 < (l0.length : Int) := of_decide_eq_true (by first | (with_reducible assumption) | assumption)
                obtain ⟨ad268, e268, hx268_0, hx268_1⟩ := at_T31 HR0.out x10_1 p268 q268
                cases e268
                replace hx268_0 := (HB.out.cell (World.block_lt_of_cell? w _ hx268_0)).trans hx268_0
                replace hx268_1 := (HB.out.cell (World.block_lt_of_cell? w _ hx268_1)).trans hx268_1
                replace p268 := eq_true p268
                replace q268 := eq_true q268
                go_wp2_with (first | ((with_reducible refine gate_dst (N := 7) rfl ?_); refine box_event ?hg (N := 7) ?hd (cs := #[.int .i64 0, .int .u64 0]) (t := 31) ?hr ?_; (case hd => rfl); (case hg => rfl); (case hr => first | (go_simp; done) | (go_simp; rfl)); intro gb269 hg w8 hbox hb; have n0_ := Aside0.mk (Kd.R_below (Kd.R_elderB (by (with_reducible repeat (first | apply Kd.R_alloc | apply Kd.R_drewN | apply Kd.R_drew)); exact HO_4.out) gb269 (Nat.le_of_eq hg.symm)) hb); have n1_ := Aside0.mk (Kd.R_below (Kd.R_elderB (by (with_reducible repeat (first | apply Kd.R_alloc | apply Kd.R_drewN | apply Kd.R_drew)); exact HO_5.out) gb269 (Nat.le_of_eq hg.symm)) hb); have n2_ := Aside0.mk (below_step (by repeat (first | (with_reducible first | exact HB.out | apply below_alloc | apply pw_below_drewN | apply below_drew1) | exact HB.out)) hb); have n3_ := Aside0.mk (hbox); have n4_ := Aside0.mk ((by rw [hg]; exact (below_size (by repeat (first | (with_reducible first | exact HB.out | apply below_alloc | apply pw_below_drewN | apply below_drew1) | exact HB.out))) : w.heap.size ≤ gb269)); have n5_ := Aside0.mk ((by rw [hg]; exact (below_size (by repeat (first | (with_reducible first | exact HB.out | apply below_alloc | apply pw_below_drewN | apply below_drew1) | exact HB.out))) : w.heap.size ≤ gb269)); clear HO_4; clear HO_5; clear HB; have HO_4 := n0_; have HO_5 := n1_; have HB := n2_; have BK269 := n3_; have GW269 := n4_; have GE269 := n5_; clear n0_ n1_ n2_ n3_ n4_ n5_; clear hb hbox hg; have hcz9_0 : w8.cell? ⟨gb269, 0, none⟩ = some (.int .i64 0) := (blk_cell BK269.out 0).trans rfl; have hcz9_1 : w8.cell? ⟨gb269, 1, none⟩ = some (.int .u64 0) := (blk_cell BK269.out 1).trans rfl; have hfz9_0 := blk_frozen BK269.out 0; have hfz9_1 := blk_frozen BK269.out 1) | ((with_reducible refine gate_builtin (b := .append) (xs := #[.tmp 18, .tmp 20]) rfl ?_); at_builtin; refine Kd.R_append k31 (w0 := w) w.heap.size rfl (.tmp 18) (.tmp 20) 42 31 (.agg #[(.int .i64 0), (.int .u64 0)]) 16 rfl Tryd.underlying42 info31 rfl (by decide) (by omega) u4 x4_1 (⟨(rd_T31 l0 x10_1).f0, (rd_T31 l0 x10_1).f1⟩ : S31) [.int .i64 ((rd_T31 l0 x10_1).f0), .int .u64 ((rd_T31 l0 x10_1).f1)] (fun k_ => some k_ ≠ (u5 : Value).ownBlock ∧ k_ ≠ gb269) (fun _ => False) rfl (by first | (go_simp; done) | (go_simp; rfl)) ?aP (fun _ hk => hk.elim) ?aF ?aO ?aB ?aS ?aL ?_; (case aP => exact k31_mkM _ _ _ (⟨(rd_T31 l0 x10_1).f0, (rd_T31 l0 x10_1).f1⟩ : S31)); (case aB => exact (by repeat (first | (with_reducible first | exact HB.out | apply below_alloc | apply pw_below_drewN | apply below_drew1 | refine below_set ?_ GE269.out) | exact HB.out))); (case aF => exact (fun k_ hk => ⟨Kd.fresh' (Kd.R_lt (by (with_reducible repeat (first | apply Kd.R_alloc | apply Kd.R_drewN | apply Kd.R_drew)); exact (Kd.R_mono (Kd.R_far (p := ⟨gb269, 1, none⟩) (Kd.R_far (p := ⟨gb269, 0, none⟩) (Kd.R_mono HO_5.out (fun k_ hk => (⟨hk, hk.2⟩ : _ ∧ k_ ≠ gb269))) (fun _ hk => hk.2) (.int .i64 ((rd_T31 l0 x10_1).f0))) (fun _ hk => hk.2) (.int .u64 ((rd_T31 l0 x10_1).f1))) (fun _ h_ => h_.1)))) k_ hk, Kd.freshB (g := gb269) (o := .cells #[.int .i64 ((rd_T31 l0 x10_1).f0), .int .u64 ((rd_T31 l0 x10_1).f1)] 31 (0, 0)) (by (with_reducible repeat (first | refine blk_drewN ?_ _ | refine blk_drew ?_ | refine blk_alloc ?_ _)); refine blk_put (cs := #[.int .i64 ((rd_T31 l0 x10_1).f0), .int .u64 0]) ?_ 1 _ rfl; (with_reducible repeat (first | refine blk_drewN ?_ _ | refine blk_drew ?_ | refine blk_alloc ?_ _)); refine blk_put (cs := #[.int .i64 0, .int .u64 0]) ?_ 0 _ rfl; (with_reducible repeat (first | refine blk_drewN ?_ _ | refine blk_drew ?_ | refine blk_alloc ?_ _)); exact BK269.out) k_ hk⟩)); (case aO => exact (by (with_reducible repeat (first | apply Kd.R_alloc | apply Kd.R_drewN | apply Kd.R_drew)); exact Kd.R_mono (Kd.R_far (p := ⟨gb269, 1, none⟩) (Kd.R_far (p := ⟨gb269, 0, none⟩) (Kd.R_mono HO_4.out (fun k_ hk => (⟨hk, hk.2⟩ : _ ∧ k_ ≠ gb269))) (fun _ hk => hk.2) (.int .i64 ((rd_T31 l0 x10_1).f0))) (fun _ hk => hk.2) (.int .u64 ((rd_T31 l0 x10_1).f1))) (fun _ hk => ⟨hk.1.1, hk.1.2⟩))); (case aS => exact (below_size (by repeat (first | (with_reducible first | exact HB.out | apply below_alloc | apply pw_below_drewN | apply below_drew1 | refine below_set ?_ GE269.out) | exact HB.out)))); (case aL => have := LMc7.out; omega); intro v271 w10 ho hb hg hat; rw [← Ny270.out] at ho; have n0_ := Aside0.mk (Kd.R_after (ok := (fun k_ => k_ ≠ gb269)) (by (with_reducible repeat (first | apply Kd.R_alloc | apply Kd.R_drewN | apply Kd.R_drew)); exact Kd.R_mono (Kd.R_far (p := ⟨gb269, 1, none⟩) (Kd.R_far (p := ⟨gb269, 0, none⟩) (Kd.R_mono HO_5.out (fun k_ hk => (⟨hk, hk.2⟩ : _ ∧ k_ ≠ gb269))) (fun _ hk => hk.2) (.int .i64 ((rd_T31 l0 x10_1).f0))) (fun _ hk => hk.2) (.int .u64 ((rd_T31 l0 x10_1).f1))) (fun _ hk => ⟨hk.1.2, hk.1.1⟩)) hg hat); have n1_ := Aside0.mk (blk_grown (g := gb269) (o := .cells #[.int .i64 ((rd_T31 l0 x10_1).f0), .int .u64 ((rd_T31 l0 x10_1).f1)] 31 (0, 0)) (by (with_reducible repeat (first | refine blk_drewN ?_ _ | refine blk_drew ?_ | refine blk_alloc ?_ _)); refine blk_put (cs := #[.int .i64 ((rd_T31 l0 x10_1).f0), .int .u64 0]) ?_ 1 _ rfl; (with_reducible repeat (first | refine blk_drewN ?_ _ | refine blk_drew ?_ | refine blk_alloc ?_ _)); refine blk_put (cs := #[.int .i64 0, .int .u64 0]) ?_ 0 _ rfl; (with_reducible repeat (first | refine blk_drewN ?_ _ | refine blk_drew ?_ | refine blk_alloc ?_ _)); exact BK269.out) hg (Kd.R_away HO_4.out (fun _ hk => hk.2))); have n2_ := Aside0.mk (hb); have n3_ := Aside0.mk (ho); clear HO_5; clear BK269; clear HB; clear HO_4; have HO_5 := n0_; have BK269 := n1_; have HB := n2_; have HO272 := n3_; clear n0_ n1_ n2_ n3_; clear ho hb hg hat))
                go_roundg k1
                case measure => have := HK1.out; omega
                case rel => exact ⟨(y270), (x5_1), (wrap64 (x10_1 + 1)), (by first | rfl | (simp; done) | (simp [*]; done) | (simp; decide +kernel)), H', ⟨by have := HK1.out; omega⟩, ⟨by (with_reducible repeat (first | apply Kd.R_alloc | apply Kd.R_drewN | apply Kd.R_drew)); exact Kd.R_mono HO272.out (fun _ hk => hk.1)⟩, ⟨by (with_reducible repeat (first | apply Kd.R_alloc | apply Kd.R_drewN | apply Kd.R_drew)); exact Kd.R_mono HO_5.out (fun _ hk => hk.2)⟩, ⟨by repeat (first | (with_reducible first | exact HB.out | apply below_alloc | apply pw_below_drewN | apply below_drew1 | refine below_set ?_ GE269.out) | exact HB.out)⟩⟩
              · rw [if_neg c7] at H
                exact absurd H (by simp)
            · rw [if_neg c6] at H
              have c6b0 : decide (((rd_T31 l0 x10_1).f1) ≤ a1) = false := decide_eq_false c6
              clear c6
              by_cases c11 : x5_1.length < 8796093022208
              · rw [if_pos c11] at H
                have LMc11 := Aside0.mk c11
                clear c11
                obtain ⟨y273, hy273⟩ : ∃ y_ : List (S31), y_ = (x5_1 ++ [(⟨(rd_T31 l0 x10_1).f0, (rd_T31 l0 x10_1).f1⟩ : S31)]) := ⟨_, rfl⟩
                replace H : (plan_Split.l0 k1 a1 x4_1 y273 l0 (l0.length : Int) (wrap64 (x10_1 + 1))) = some (r1, r2) := by first | (rw [hy273]; with_reducible exact H) | (have H2_ := (Option.bind_some _ _).symm.trans H; rw [hy273]; with_reducible exact H2_) | (have H2_ := (Option.bind_some _ _).symm.trans H; with_reducible exact H2_) | with_reducible exact H | (rw [hy273]; exact H) | exact H
                have Ny273 := Aside0.mk hy273
                clear hy273
                have H' := Aside0.mk H
                clear H
                have p268 : 0 ≤ (x10_1 : Int) := of_decide_eq_true (by first | (with_reducible assumption) | assumption)
                have q268 : x10_1 < (l0.length : Int) := of_decide_eq_true (by first | (with_reducible assumption) | assumption)
                obtain ⟨ad268, e268, hx268_0, hx268_1⟩ := at_T31 HR0.out x10_1 p268 q268
                cases e268
                replace hx268_0 := (HB.out.cell (World.block_lt_of_cell? w _ hx268_0)).trans hx268_0
                replace hx268_1 := (HB.out.cell (World.block_lt_of_cell? w _ hx268_1)).trans hx268_1
                replace p268 := eq_true p268
                replace q268 := eq_true q268
                go_wp2_with (first | ((with_reducible refine gate_dst (N := 7) rfl ?_); refine box_event ?hg (N := 7) ?hd (cs := #[.int .i64 0, .int .u64 0]) (t := 31) ?hr ?_; (case hd => rfl); (case hg => rfl); (case hr => first | (go_simp; done) | (go_simp; rfl)); intro gb269 hg w12 hbox hb; have n0_ := Aside0.mk (Kd.R_below (Kd.R_elderB (by (with_reducible repeat (first | apply Kd.R_alloc | apply Kd.R_drewN | apply Kd.R_drew)); exact HO_4.out) gb269 (Nat.le_of_eq hg.symm)) hb); have n1_ := Aside0.mk (Kd.R_below (Kd.R_elderB (by (with_reducible repeat (first | apply Kd.R_alloc | apply Kd.R_drewN | apply Kd.R_drew)); exact HO_5.out) gb269 (Nat.le_of_eq hg.symm)) hb); have n2_ := Aside0.mk (below_step (by repeat (first | (with_reducible first | exact HB.out | apply below_alloc | apply pw_below_drewN | apply below_drew1) | exact HB.out)) hb); have n3_ := Aside0.mk (hbox); have n4_ := Aside0.mk ((by rw [hg]; exact (below_size (by repeat (first | (with_reducible first | exact HB.out | apply below_alloc | apply pw_below_drewN | apply below_drew1) | exact HB.out))) : w.heap.size ≤ gb269)); have n5_ := Aside0.mk ((by rw [hg]; exact (below_size (by repeat (first | (with_reducible first | exact HB.out | apply below_alloc | apply pw_below_drewN | apply below_drew1) | exact HB.out))) : w.heap.size ≤ gb269)); clear HO_4; clear HO_5; clear HB; have HO_4 := n0_; have HO_5 := n1_; have HB := n2_; have BK269 := n3_; have GW269 := n4_; have GE269 := n5_; clear n0_ n1_ n2_ n3_ n4_ n5_; clear hb hbox hg; have hcz13_0 : w12.cell? ⟨gb269, 0, none⟩ = some (.int .i64 0) := (blk_cell BK269.out 0).trans rfl; have hcz13_1 : w12.cell? ⟨gb269, 1, none⟩ = some (.int .u64 0) := (blk_cell BK269.out 1).trans rfl; have hfz13_0 := blk_frozen BK269.out 0; have hfz13_1 := blk_frozen BK269.out 1) | ((with_reducible refine gate_builtin (b := .append) (xs := #[.tmp 22, .tmp 24]) rfl ?_); at_builtin; refine Kd.R_append k31 (w0 := w) w.heap.size rfl (.tmp 22) (.tmp 24) 42 31 (.agg #[(.int .i64 0), (.int .u64 0)]) 16 rfl Tryd.underlying42 info31 rfl (by decide) (by omega) u5 x5_1 (⟨(rd_T31 l0 x10_1).f0, (rd_T31 l0 x10_1).f1⟩ : S31) [.int .i64 ((rd_T31 l0 x10_1).f0), .int .u64 ((rd_T31 l0 x10_1).f1)] (fun k_ => some k_ ≠ (u4 : Value).ownBlock ∧ k_ ≠ gb269) (fun _ => False) rfl (by first | (go_simp; done) | (go_simp; rfl)) ?aP (fun _ hk => hk.elim) ?aF ?aO ?aB ?aS ?aL ?_; (case aP => exact k31_mkM _ _ _ (⟨(rd_T31 l0 x10_1).f0, (rd_T31 l0 x10_1).f1⟩ : S31)); (case aB => exact (by repeat (first | (with_reducible first | exact HB.out | apply below_alloc | apply pw_below_drewN | apply below_drew1 | refine below_set ?_ GE269.out) | exact HB.out))); (case aF => exact (fun k_ hk => ⟨Kd.fresh' (Kd.R_lt (by (with_reducible repeat (first | apply Kd.R_alloc | apply Kd.R_drewN | apply Kd.R_drew)); exact (Kd.R_mono (Kd.R_far (p := ⟨gb269, 1, none⟩) (Kd.R_far (p := ⟨gb269, 0, none⟩) (Kd.R_mono HO_4.out (fun k_ hk => (⟨hk, hk.2⟩ : _ ∧ k_ ≠ gb269))) (fun _ hk => hk.2) (.int .i64 ((rd_T31 l0 x10_1).f0))) (fun _ hk => hk.2) (.int .u64 ((rd_T31 l0 x10_1).f1))) (fun _ h_ => h_.1)))) k_ hk, Kd.freshB (g := gb269) (o := .cells #[.int .i64 ((rd_T31 l0 x10_1).f0), .int .u64 ((rd_T31 l0 x10_1).f1)] 31 (0, 0)) (by (with_reducible repeat (first | refine blk_drewN ?_ _ | refine blk_drew ?_ | refine blk_alloc ?_ _)); refine blk_put (cs := #[.int .i64 ((rd_T31 l0 x10_1).f0), .int .u64 0]) ?_ 1 _ rfl; (with_reducible repeat (first | refine blk_drewN ?_ _ | refine blk_drew ?_ | refine blk_alloc ?_ _)); refine blk_put (cs := #[.int .i64 0, .int .u64 0]) ?_ 0 _ rfl; (with_reducible repeat (first | refine blk_drewN ?_ _ | refine blk_drew ?_ | refine blk_alloc ?_ _)); exact BK269.out) k_ hk⟩)); (case aO => exact (by (with_reducible repeat (first | apply Kd.R_alloc | apply Kd.R_drewN | apply Kd.R_drew)); exact Kd.R_mono (Kd.R_far (p := ⟨gb269, 1, none⟩) (Kd.R_far (p := ⟨gb269, 0, none⟩) (Kd.R_mono HO_5.out (fun k_ hk => (⟨hk, hk.2⟩ : _ ∧ k_ ≠ gb269))) (fun _ hk => hk.2) (.int .i64 ((rd_T31 l0 x10_1).f0))) (fun _ hk => hk.2) (.int .u64 ((rd_T31 l0 x10_1).f1))) (fun _ hk => ⟨hk.1.1, hk.1.2⟩))); (case aS => exact (below_size (by repeat (first | (with_reducible first | exact HB.out | apply below_alloc | apply pw_below_drewN | apply below_drew1 | refine below_set ?_ GE269.out) | exact HB.out)))); (case aL => have := LMc11.out; omega); intro v274 w14 ho hb hg hat; rw [← Ny273.out] at ho; have n0_ := Aside0.mk (Kd.R_after (ok := (fun k_ => k_ ≠ gb269)) (by (with_reducible repeat (first | apply Kd.R_alloc | apply Kd.R_drewN | apply Kd.R_drew)); exact Kd.R_mono (Kd.R_far (p := ⟨gb269, 1, none⟩) (Kd.R_far (p := ⟨gb269, 0, none⟩) (Kd.R_mono HO_4.out (fun k_ hk => (⟨hk, hk.2⟩ : _ ∧ k_ ≠ gb269))) (fun _ hk => hk.2) (.int .i64 ((rd_T31 l0 x10_1).f0))) (fun _ hk => hk.2) (.int .u64 ((rd_T31 l0 x10_1).f1))) (fun _ hk => ⟨hk.1.2, hk.1.1⟩)) hg hat); have n1_ := Aside0.mk (blk_grown (g := gb269) (o := .cells #[.int .i64 ((rd_T31 l0 x10_1).f0), .int .u64 ((rd_T31 l0 x10_1).f1)] 31 (0, 0)) (by (with_reducible repeat (first | refine blk_drewN ?_ _ | refine blk_drew ?_ | refine blk_alloc ?_ _)); refine blk_put (cs := #[.int .i64 ((rd_T31 l0 x10_1).f0), .int .u64 0]) ?_ 1 _ rfl; (with_reducible repeat (first | refine blk_drewN ?_ _ | refine blk_drew ?_ | refine blk_alloc ?_ _)); refine blk_put (cs := #[.int .i64 0, .int .u64 0]) ?_ 0 _ rfl; (with_reducible repeat (first | refine blk_drewN ?_ _ | refine blk_drew ?_ | refine blk_alloc ?_ _)); exact BK269.out) hg (Kd.R_away HO_5.out (fun _ hk => hk.2))); have n2_ := Aside0.mk (hb); have n3_ := Aside0.mk (ho); clear HO_4; clear BK269; clear HB; clear HO_5; have HO_4 := n0_; have BK269 := n1_; have HB := n2_; have HO275 := n3_; clear n0_ n1_ n2_ n3_; clear ho hb hg hat))
                go_roundg k1
                case measure => have := HK1.out; omega
                case rel => exact ⟨(x4_1), (y273), (wrap64 (x10_1 + 1)), (by first | rfl | (simp; done) | (simp [*]; done) | (simp; decide +kernel)), H', ⟨by have := HK1.out; omega⟩, ⟨by (with_reducible repeat (first | apply Kd.R_alloc | apply Kd.R_drewN | apply Kd.R_drew)); exact Kd.R_mono HO_4.out (fun _ hk => hk.2)⟩, ⟨by (with_reducible repeat (first | apply Kd.R_alloc | apply Kd.R_drewN | apply Kd.R_drew)); exact Kd.R_mono HO275.out (fun _ hk => hk.1)⟩, ⟨by repeat (first | (with_reducible first | exact HB.out | apply below_alloc | apply pw_below_drewN | apply below_drew1 | refine below_set ?_ GE269.out) | exact HB.out)⟩⟩
              · rw [if_neg c11] at H
                exact absurd H (by simp)
          · rw [if_neg c5] at H
            exact absurd H (by simp)
        · rw [if_neg c4] at H
          exact absurd H (by simp)
      · rw [if_neg c3] at H
        have c3b0 : decide (x10_1 < (l0.length : Int)) = false := decide_eq_false c3
        clear c3
        simp only [Option.some.injEq, Prod.mk.injEq] at H
        obtain ⟨rfl, rfl⟩ := H
        go_wp2
        go_ret2
        exact ⟨_, _, by first | rfl | (simp [errW_none, errW_some] <;> rfl) | (simp [*, errW_none, errW_some] <;> rfl), by (with_reducible repeat (first | apply Kd.R_alloc | apply Kd.R_drewN | apply Kd.R_drew)); exact HO_4.out, by (with_reducible repeat (first | apply Kd.R_alloc | apply Kd.R_drewN | apply Kd.R_drew)); exact HO_5.out, by repeat (first | (with_reducible first | exact HB.out | apply below_alloc | apply pw_below_drewN | apply below_drew1) | exact HB.out)⟩

-- NOT PRINTED: function 56 (remontoirlaw07_wakes)

-- NOT PRINTED: function 12 (remontoirlaw07_PlanWheel)

end Go.Proofs.YtedolmjealgeoaaDoor.PBase
