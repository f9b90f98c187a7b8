-- Printed by a program of ours (wip/common/mkprint.py), turned from the kit's print; Lean checks it.
import Derived.Test.YtdnonlapiheenaaPAllx0
import Derived.Test.YtdnonlapiheenaaPAllx1
import Derived.Test.YtdnonlapiheenaaPAllx2
namespace Go.Proofs.Ytdnonlapiheenaa.PAll
open Go.RowKit Go.Proofs.YtdnonlapiheenaaW.PrintWords Go.Proofs.YtdnonlapiheenaaW.PrintLast Go.Proofs.YtdnonlapiheenaaW.PrintMore
attribute [local go_sem] max2_int min2_int max_two min_two max_three min_three max_four min_four   -- for this text's walks alone
set_option linter.unusedVariables false
set_option linter.unusedSimpArgs false

/-! ### remontoirlaw08_TurnServed: function 5 -/
mutual
def remontoirlaw08_TurnServed.l0 : Nat → List (S35) → Int → Int → List (S26) → Int → Int → Int → Option (Bool)
  | 0, _, _, _, _, _, _, _ => none
  | k + 1, x2, x7, x8, x10, x11, x12, x13 => (turn_Bound.f x7 x8).bind fun t165 => (if x13 < t165 then (remontoirlaw08_TurnServed.l1 k x2 x7 x8 x10 x11 x12 x13) else (none))
def remontoirlaw08_TurnServed.j2 : Nat → List (S35) → Int → Int → List (S26) → Int → Int → Int → Option (Bool)
  | 0, _, _, _, _, _, _, _ => none
  | k + 1, x2, x7, x8, x10, x11, x12, x13 => (turn_First.f k x7 x10).bind fun t180 => (if t180 < 0 then (remontoirlaw08_TurnServed.j3 k x2 x7 x8 x10 x11 x12 x13 t180 true) else (remontoirlaw08_TurnServed.j3 k x2 x7 x8 x10 x11 x12 x13 t180 (decide (t180 ≥ (x10.length : Int)))))
def remontoirlaw08_TurnServed.j3 : Nat → List (S35) → Int → Int → List (S26) → Int → Int → Int → Int → Bool → Option (Bool)
  | 0, _, _, _, _, _, _, _, _, _ => none
  | k + 1, x2, x7, x8, x10, x11, x12, x13, x16, x92 => if x92 = true then (none) else (if 0 ≤ x16 then (if x16 < (x10.length : Int) then (if ((rd_T26 x10 x16).f0) = 0 then ((remontoirlaw08_wakes.f k).bind fun t182 => (some t182)) else ((some (([] : List (S26)) : List (S26))).bind fun y183 => (if x16 ≤ (x10.length : Int) then ((some (x10.take (x16 : Int).toNat : List (S26))).bind fun y186 => (if y183.length + y186.length < 5864062014805 then ((some (y183 ++ y186 : List (S26))).bind fun y190 => (if 0 ≤ (wrap64 (x16 + 1)) then (if (wrap64 (x16 + 1)) ≤ (x10.length : Int) then ((some (x10.drop ((wrap64 (x16 + 1)) : Int).toNat : List (S26))).bind fun y193 => (if y190.length + y193.length < 5864062014805 then (remontoirlaw08_TurnServed.l0 k x2 x7 x8 (y190 ++ y193) x11 x12 (wrap64 (x13 + 1))) else (none))) else (none)) else (none))) else (none))) else (none)))) else (none)) else (none))
def remontoirlaw08_TurnServed.l1 : Nat → List (S35) → Int → Int → List (S26) → Int → Int → Int → Option (Bool)
  | 0, _, _, _, _, _, _, _ => none
  | k + 1, x2, x7, x8, x10, x11, x12, x13 => if (x10.length : Int) < x8 then (if x12 < (x2.length : Int) then (if 0 ≤ x12 then (if (Int.tmod ((rd_T35 x2 x12).f1) 4) = 0 then (remontoirlaw08_TurnServed.j2 k x2 x7 x8 x10 x11 (wrap64 (x12 + 1)) x13) else (if (Int.tmod (wrap64 (x11 + 1)) 2) = 0 then (if x10.length < 5864062014805 then (remontoirlaw08_TurnServed.l1 k x2 x7 x8 (x10 ++ [(⟨wrap64 (-(wrap64 (x11 + 1))), Int.tmod (wrap64 ((rd_T35 x2 x12).f0)) 8, wrap64 (7 + x13)⟩ : S26)]) (wrap64 (x11 + 1)) (wrap64 (x12 + 1)) x13) else (none)) else (if x10.length < 5864062014805 then (remontoirlaw08_TurnServed.l1 k x2 x7 x8 (x10 ++ [(⟨wrap64 (x11 + 1), Int.tmod (wrap64 ((rd_T35 x2 x12).f0)) 8, wrap64 (7 + x13)⟩ : S26)]) (wrap64 (x11 + 1)) (wrap64 (x12 + 1)) x13) else (none)))) else (none)) else (if (Int.tmod (wrap64 (x11 + 1)) 2) = 0 then (if x10.length < 5864062014805 then (remontoirlaw08_TurnServed.l1 k x2 x7 x8 (x10 ++ [(⟨wrap64 (-(wrap64 (x11 + 1))), 0, wrap64 (7 + x13)⟩ : S26)]) (wrap64 (x11 + 1)) x12 x13) else (none)) else (if x10.length < 5864062014805 then (remontoirlaw08_TurnServed.l1 k x2 x7 x8 (x10 ++ [(⟨wrap64 (x11 + 1), 0, wrap64 (7 + x13)⟩ : S26)]) (wrap64 (x11 + 1)) x12 x13) else (none)))) else (remontoirlaw08_TurnServed.j2 k x2 x7 x8 x10 x11 x12 x13)
end
def remontoirlaw08_TurnServed.f (k : Nat) (a0_0 : Int) (a0_1 : Int) (a1 : Int) (l2 : List (S35)) : Option (Bool) := remontoirlaw08_TurnServed.l0 k l2 (wrap64 (1 + (Int.tmod (wrap64 (a0_0)) 12))) (wrap64 (1 + (Int.tmod (wrap64 (a0_1)) 12))) (([(⟨0, Int.tmod (wrap64 (a1)) 8, 7⟩ : S26)] : List (S26))) 0 0 0
theorem remontoirlaw08_TurnServed.mono_l : ∀ k, (∀ y0 y1 y2 y3 y4 y5 y6, LeO (remontoirlaw08_TurnServed.l0 k y0 y1 y2 y3 y4 y5 y6) (remontoirlaw08_TurnServed.l0 (k + 1) y0 y1 y2 y3 y4 y5 y6)) ∧ (∀ y0 y1 y2 y3 y4 y5 y6, LeO (remontoirlaw08_TurnServed.j2 k y0 y1 y2 y3 y4 y5 y6) (remontoirlaw08_TurnServed.j2 (k + 1) y0 y1 y2 y3 y4 y5 y6)) ∧ (∀ y0 y1 y2 y3 y4 y5 y6 y7 y8, LeO (remontoirlaw08_TurnServed.j3 k y0 y1 y2 y3 y4 y5 y6 y7 y8) (remontoirlaw08_TurnServed.j3 (k + 1) y0 y1 y2 y3 y4 y5 y6 y7 y8)) ∧ (∀ y0 y1 y2 y3 y4 y5 y6, LeO (remontoirlaw08_TurnServed.l1 k y0 y1 y2 y3 y4 y5 y6) (remontoirlaw08_TurnServed.l1 (k + 1) y0 y1 y2 y3 y4 y5 y6))
  | 0 => ⟨fun _ _ _ _ _ _ _ r h => by simp [remontoirlaw08_TurnServed.l0] at h, fun _ _ _ _ _ _ _ r h => by simp [remontoirlaw08_TurnServed.j2] at h, fun _ _ _ _ _ _ _ _ _ r h => by simp [remontoirlaw08_TurnServed.j3] at h, fun _ _ _ _ _ _ _ r h => by simp [remontoirlaw08_TurnServed.l1] at h⟩
  | k + 1 => by
    obtain ⟨ih0, ih1, ih2, ih3⟩ := remontoirlaw08_TurnServed.mono_l k
    refine ⟨?_, ?_, ?_, ?_⟩
    · intro y0 y1 y2 y3 y4 y5 y6
      unfold remontoirlaw08_TurnServed.l0
      repeat' first
      | (with_reducible exact ih0 _ _ _ _ _ _ _)
      | (with_reducible exact ih1 _ _ _ _ _ _ _)
      | (with_reducible exact ih2 _ _ _ _ _ _ _ _ _)
      | (with_reducible exact ih3 _ _ _ _ _ _ _)
      | (with_reducible exact remontoirlaw08_wakes.mono _)
      | (with_reducible exact turn_First.mono _ _ _)
      | (with_reducible exact LeO.refl _)
      | (with_reducible exact LeO.none _)
      | (with_reducible refine LeO.ite ?_ ?_)
      | (with_reducible refine LeO.bind ?_ (fun _ => ?_))
      | exact ih0 _ _ _ _ _ _ _
      | exact ih1 _ _ _ _ _ _ _
      | exact ih2 _ _ _ _ _ _ _ _ _
      | exact ih3 _ _ _ _ _ _ _
      | exact remontoirlaw08_wakes.mono _
      | exact turn_First.mono _ _ _
      | exact LeO.none _
      | refine LeO.ite ?_ ?_
      | refine LeO.bind ?_ (fun _ => ?_)
    · intro y0 y1 y2 y3 y4 y5 y6
      unfold remontoirlaw08_TurnServed.j2
      repeat' first
      | (with_reducible exact ih0 _ _ _ _ _ _ _)
      | (with_reducible exact ih1 _ _ _ _ _ _ _)
      | (with_reducible exact ih2 _ _ _ _ _ _ _ _ _)
      | (with_reducible exact ih3 _ _ _ _ _ _ _)
      | (with_reducible exact remontoirlaw08_wakes.mono _)
      | (with_reducible exact turn_First.mono _ _ _)
      | (with_reducible exact LeO.refl _)
      | (with_reducible exact LeO.none _)
      | (with_reducible refine LeO.ite ?_ ?_)
      | (with_reducible refine LeO.bind ?_ (fun _ => ?_))
      | exact ih0 _ _ _ _ _ _ _
      | exact ih1 _ _ _ _ _ _ _
      | exact ih2 _ _ _ _ _ _ _ _ _
      | exact ih3 _ _ _ _ _ _ _
      | exact remontoirlaw08_wakes.mono _
      | exact turn_First.mono _ _ _
      | exact LeO.none _
      | refine LeO.ite ?_ ?_
      | refine LeO.bind ?_ (fun _ => ?_)
    · intro y0 y1 y2 y3 y4 y5 y6 y7 y8
      unfold remontoirlaw08_TurnServed.j3
      repeat' first
      | (with_reducible exact ih0 _ _ _ _ _ _ _)
      | (with_reducible exact ih1 _ _ _ _ _ _ _)
      | (with_reducible exact ih2 _ _ _ _ _ _ _ _ _)
      | (with_reducible exact ih3 _ _ _ _ _ _ _)
      | (with_reducible exact remontoirlaw08_wakes.mono _)
      | (with_reducible exact turn_First.mono _ _ _)
      | (with_reducible exact LeO.refl _)
      | (with_reducible exact LeO.none _)
      | (with_reducible refine LeO.ite ?_ ?_)
      | (with_reducible refine LeO.bind ?_ (fun _ => ?_))
      | exact ih0 _ _ _ _ _ _ _
      | exact ih1 _ _ _ _ _ _ _
      | exact ih2 _ _ _ _ _ _ _ _ _
      | exact ih3 _ _ _ _ _ _ _
      | exact remontoirlaw08_wakes.mono _
      | exact turn_First.mono _ _ _
      | exact LeO.none _
      | refine LeO.ite ?_ ?_
      | refine LeO.bind ?_ (fun _ => ?_)
    · intro y0 y1 y2 y3 y4 y5 y6
      unfold remontoirlaw08_TurnServed.l1
      repeat' first
      | (with_reducible exact ih0 _ _ _ _ _ _ _)
      | (with_reducible exact ih1 _ _ _ _ _ _ _)
      | (with_reducible exact ih2 _ _ _ _ _ _ _ _ _)
      | (with_reducible exact ih3 _ _ _ _ _ _ _)
      | (with_reducible exact remontoirlaw08_wakes.mono _)
      | (with_reducible exact turn_First.mono _ _ _)
      | (with_reducible exact LeO.refl _)
      | (with_reducible exact LeO.none _)
      | (with_reducible refine LeO.ite ?_ ?_)
      | (with_reducible refine LeO.bind ?_ (fun _ => ?_))
      | exact ih0 _ _ _ _ _ _ _
      | exact ih1 _ _ _ _ _ _ _
      | exact ih2 _ _ _ _ _ _ _ _ _
      | exact ih3 _ _ _ _ _ _ _
      | exact remontoirlaw08_wakes.mono _
      | exact turn_First.mono _ _ _
      | exact LeO.none _
      | refine LeO.ite ?_ ?_
      | refine LeO.bind ?_ (fun _ => ?_)
theorem remontoirlaw08_TurnServed.mono : ∀ a0 a1 a2 a3 k, LeO (remontoirlaw08_TurnServed.f k a0 a1 a2 a3) (remontoirlaw08_TurnServed.f (k + 1) a0 a1 a2 a3) := by
  intro a0 a1 a2 a3 k
  obtain ⟨ih0, ih1, ih2, ih3⟩ := remontoirlaw08_TurnServed.mono_l k
  unfold remontoirlaw08_TurnServed.f
  repeat' first
      | (with_reducible exact ih0 _ _ _ _ _ _ _)
      | (with_reducible exact ih1 _ _ _ _ _ _ _)
      | (with_reducible exact ih2 _ _ _ _ _ _ _ _ _)
      | (with_reducible exact ih3 _ _ _ _ _ _ _)
      | (with_reducible exact remontoirlaw08_wakes.mono _)
      | (with_reducible exact turn_First.mono _ _ _)
      | (with_reducible exact LeO.refl _)
      | (with_reducible exact LeO.none _)
      | (with_reducible refine LeO.ite ?_ ?_)
      | (with_reducible refine LeO.bind ?_ (fun _ => ?_))
      | exact ih0 _ _ _ _ _ _ _
      | exact ih1 _ _ _ _ _ _ _
      | exact ih2 _ _ _ _ _ _ _ _ _
      | exact ih3 _ _ _ _ _ _ _
      | exact remontoirlaw08_wakes.mono _
      | exact turn_First.mono _ _ _
      | exact LeO.none _
      | refine LeO.ite ?_ ?_
      | refine LeO.bind ?_ (fun _ => ?_)
def remontoirlaw08_TurnServed.T1 : Bool × List (List Nat × List Nat) := (true, [([], []), ([0], [0]), ([1], [1]), ([2], [2]), ([3], [3]), ([], []), ([5], [5]), ([6], [6]), ([7], [7]), ([8], [8]), ([4, 0, 1, 2, 3, 4], [4]), ([9, 10, 0, 1, 2, 3, 4, 5, 6, 7, 8, 9, 10], [9])])
def remontoirlaw08_TurnServed.B1 : List Nat := [0, 1, 3, 7, 15, 0, 32, 96, 224, 480, 31, 2047]
theorem remontoirlaw08_TurnServed.tab1 : rtab .any (opsOf Try.f5 1) = remontoirlaw08_TurnServed.T1 := by kernel_rfl
theorem remontoirlaw08_TurnServed.bits1 : waitsOk remontoirlaw08_TurnServed.T1.2 remontoirlaw08_TurnServed.B1 = true := by kernel_rfl
def remontoirlaw08_TurnServed.T25 : Bool × List (List Nat × List Nat) := (true, [([], []), ([], []), ([], []), ([1, 2], [1, 2]), ([0, 3], [0, 3]), ([], []), ([], []), ([6], [6]), ([5, 7], [5, 7]), ([4, 8, 4], [4, 8]), ([9, 9, 0, 1, 2, 3, 4, 5, 6, 7, 8, 9], [1, 5, 9])])
def remontoirlaw08_TurnServed.B25 : List Nat := [0, 0, 0, 6, 15, 0, 0, 64, 224, 511, 1023]
theorem remontoirlaw08_TurnServed.tab25 : rtab .any (opsOf Try.f5 25) = remontoirlaw08_TurnServed.T25 := by kernel_rfl
theorem remontoirlaw08_TurnServed.bits25 : waitsOk remontoirlaw08_TurnServed.T25.2 remontoirlaw08_TurnServed.B25 = true := by kernel_rfl
set_option maxHeartbeats 8000000 in
set_option maxRecDepth 100000 in
theorem remontoirlaw08_TurnServed.calls (k : Nat) (a0_0 : Int) (a0_1 : Int) (a1 : Int) (A2 : Option Addr) (c2 : Nat) (l2 : List (S35)) (r : Bool) (w : World) (hr2 : Kd.C k35 w A2 l2.length l2) (hc2 : l2.length ≤ c2) (h : remontoirlaw08_TurnServed.f k a0_0 a0_1 a1 l2 = some r) :
    Calls Try.prog 5 #[.agg #[.int .u16 a0_0, .int .u16 a0_1], .int .u8 a1, .slice A2 l2.length c2] w fun e w' => e = .returned (.bool r) ∧ Below w.heap.size w w' := by
  have hu23 := Try.underlying23
  have hu26 := Try.underlying26
  have HR2 := Aside0.mk hr2
  have HC2 := Aside0.mk hc2
  clear hr2 hc2
  have HB := Aside0.mk (Below.refl w.heap.size w)
  have H : (remontoirlaw08_TurnServed.l0 k l2 (wrap64 (1 + (Int.tmod (wrap64 (a0_0)) 12))) (wrap64 (1 + (Int.tmod (wrap64 (a0_1)) 12))) (([(⟨0, Int.tmod (wrap64 (a1)) 8, 7⟩ : S26)] : List (S26))) 0 0 0) = some r := h
  clear h
  obtain ⟨y162, hy162⟩ : ∃ y_ : List (S26), y_ = (([(⟨0, Int.tmod (wrap64 (a1)) 8, 7⟩ : S26)] : List (S26))) := ⟨_, rfl⟩
  replace H : (remontoirlaw08_TurnServed.l0 k l2 (wrap64 (1 + (Int.tmod (wrap64 (a0_0)) 12))) (wrap64 (1 + (Int.tmod (wrap64 (a0_1)) 12))) y162 0 0 0) = some r := by first | (rw [hy162]; with_reducible exact H) | (have H2_ := (Option.bind_some _ _).symm.trans H; rw [hy162]; with_reducible exact H2_) | (have H2_ := (Option.bind_some _ _).symm.trans H; with_reducible exact H2_) | with_reducible exact H | (rw [hy162]; exact H) | exact H
  have Ny162 := Aside0.mk hy162
  clear hy162
  have H' := Aside0.mk H
  clear H
  go_enter Try.func5, Try.ntmps5
  try go_wp2_with (first | ((with_reducible refine gate_dst (N := 3) rfl ?_); (try (refine gate_guard (by rfl) ?_; dsimp only)); refine box_event ?hg (N := 3) ?hd (cs := #[.int .u16 a0_0, .int .u16 a0_1]) (t := 23) ?hr ?_; (case hd => rfl); (case hg => rfl); (case hr => first | (go_simp; done) | (go_simp; rfl)); intro gb160 hg w4 hbox hb; have n0_ := Aside0.mk (below_step (by repeat (first | (with_reducible first | exact HB.out | apply below_alloc | apply pw_below_drewN | apply below_drew1) | exact HB.out)) hb); have n1_ := Aside0.mk (hbox); have n2_ := Aside0.mk ((by rw [hg]; exact (below_size (by repeat (first | (with_reducible first | exact HB.out | apply below_alloc | apply pw_below_drewN | apply below_drew1) | exact HB.out))) : w.heap.size ≤ gb160)); have n3_ := Aside0.mk ((by rw [hg]; exact (below_size (by repeat (first | (with_reducible first | exact HB.out | apply below_alloc | apply pw_below_drewN | apply below_drew1) | exact HB.out))) : w.heap.size ≤ gb160)); clear HB; have HB := n0_; have BK160 := n1_; have GW160 := n2_; have GE160 := n3_; clear n0_ n1_ n2_ n3_; clear hb hbox hg))
  have n0_ := Aside0.mk (blk_drew BK160.out)
  have n1_ := Aside0.mk (below_drew1 HB.out)
  clear BK160
  clear HB
  have BK160 := n0_
  have HB := n1_
  clear n0_ n1_
  refine start_ (n := 12) (S := fun w' => w'.cell? ⟨gb160, 0, none⟩ = some (.int .u16 a0_0) ∧ w'.cell? ⟨gb160, 1, none⟩ = some (.int .u16 a0_1)) (ds := []) #[false, false, false, false, false, false, false, false, false, false, false, false] (by kernel_rfl) rfl rfl ⟨(blk_cell BK160.out 0).trans rfl, (blk_cell BK160.out 1).trans rfl⟩ (fun hHeld => ?_); refine with_tabW remontoirlaw08_TurnServed.tab1 remontoirlaw08_TurnServed.bits1 (fun HT_ HW_ => ?_)
  generalize w4.drew = w5 at BK160 HB hHeld ⊢
  refine pure_ (i := 0) (N := some 17) (v := ?_) (a' := ?_) #[true, false, false, false, false, false, false, false, false, false, false, false] rfl rfl (any_of HT_.out (by kernel_rfl)) (fun _ _ _ h => h) (Or.inl ⟨by rfl, ?_⟩) ?_ ?_
  rotate_left
  · intro w'
    go_simp
    with_reducible rfl
  rotate_left
  · simp only [Act.put, List.setIfInBounds_toArray, List.set_cons_zero, List.set_cons_succ, i64_w, i32_w]
    rfl
  refine pure_ (i := 5) (N := some 22) (v := ?_) (a' := ?_) #[true, false, false, false, false, true, false, false, false, false, false, false] rfl rfl (any_of HT_.out (by kernel_rfl)) (fun _ _ _ h => h) (Or.inl ⟨by rfl, ?_⟩) ?_ ?_
  rotate_left
  · intro w'
    go_simp
    with_reducible rfl
  rotate_left
  · simp only [Act.put, List.setIfInBounds_toArray, List.set_cons_zero, List.set_cons_succ, i64_w, i32_w]
    rfl
  refine take_ (i := 1) (N := some 18) (v := ?_) (a' := ?_) #[true, true, false, false, false, true, false, false, false, false, false, false] rfl rfl (take_ofW HT_.out HW_.out (by kernel_rfl)) (fun _ _ _ h => h) (Or.inl ⟨by rfl, ?_⟩) hHeld ?_ ?_
  rotate_left
  · rintro w' ⟨s0, s1⟩
    go_simp
    with_reducible rfl
  rotate_left
  · simp only [Act.put, List.setIfInBounds_toArray, List.set_cons_zero, List.set_cons_succ, i64_w, i32_w]
    rfl
  refine pure_ (i := 2) (N := some 19) (v := ?_) (a' := ?_) #[true, true, true, false, false, true, false, false, false, false, false, false] rfl rfl (any_of HT_.out (by kernel_rfl)) (fun _ _ _ h => h) (Or.inl ⟨by rfl, ?_⟩) ?_ ?_
  rotate_left
  · intro w'
    go_simp
    with_reducible rfl
  rotate_left
  · simp only [Act.put, List.setIfInBounds_toArray, List.set_cons_zero, List.set_cons_succ, i64_w, i32_w]
    rfl
  refine pure_ (i := 3) (N := some 20) (v := ?_) (a' := ?_) #[true, true, true, true, false, true, false, false, false, false, false, false] rfl rfl (any_of HT_.out (by kernel_rfl)) (fun _ _ _ h => h) (Or.inl ⟨by rfl, ?_⟩) ?_ ?_
  rotate_left
  · intro w'
    go_simp
    with_reducible rfl
  rotate_left
  · simp only [Act.put, List.setIfInBounds_toArray, List.set_cons_zero, List.set_cons_succ, i64_w, i32_w]
    rfl
  refine pure_ (i := 4) (N := some 21) (v := ?_) (a' := ?_) #[true, true, true, true, true, true, false, false, false, false, false, false] rfl rfl (any_of HT_.out (by kernel_rfl)) (fun _ _ _ h => h) (Or.inl ⟨by rfl, ?_⟩) ?_ ?_
  rotate_left
  · intro w'
    go_simp
    with_reducible rfl
  rotate_left
  · simp only [Act.put, List.setIfInBounds_toArray, List.set_cons_zero, List.set_cons_succ, i64_w, i32_w]
    rfl
  refine pure_ (i := 10) (N := some 7) (v := ?_) (a' := ?_) #[true, true, true, true, true, true, false, false, false, false, true, false] rfl rfl (any_of HT_.out (by kernel_rfl)) (fun _ _ _ h => h) (Or.inl ⟨by rfl, ?_⟩) ?_ ?_
  rotate_left
  · intro w'
    go_simp
    with_reducible rfl
  rotate_left
  · simp only [Act.put, List.setIfInBounds_toArray, List.set_cons_zero, List.set_cons_succ, i64_w, i32_w]
    rfl
  refine take_ (i := 6) (N := some 23) (v := ?_) (a' := ?_) #[true, true, true, true, true, true, true, false, false, false, true, false] rfl rfl (take_ofW HT_.out HW_.out (by kernel_rfl)) (fun _ _ _ h => h) (Or.inl ⟨by rfl, ?_⟩) hHeld ?_ ?_
  rotate_left
  · rintro w' ⟨s0, s1⟩
    go_simp
    with_reducible rfl
  rotate_left
  · simp only [Act.put, List.setIfInBounds_toArray, List.set_cons_zero, List.set_cons_succ, i64_w, i32_w]
    rfl
  refine pure_ (i := 7) (N := some 24) (v := ?_) (a' := ?_) #[true, true, true, true, true, true, true, true, false, false, true, false] rfl rfl (any_of HT_.out (by kernel_rfl)) (fun _ _ _ h => h) (Or.inl ⟨by rfl, ?_⟩) ?_ ?_
  rotate_left
  · intro w'
    go_simp
    with_reducible rfl
  rotate_left
  · simp only [Act.put, List.setIfInBounds_toArray, List.set_cons_zero, List.set_cons_succ, i64_w, i32_w]
    rfl
  refine pure_ (i := 8) (N := some 25) (v := ?_) (a' := ?_) #[true, true, true, true, true, true, true, true, true, false, true, false] rfl rfl (any_of HT_.out (by kernel_rfl)) (fun _ _ _ h => h) (Or.inl ⟨by rfl, ?_⟩) ?_ ?_
  rotate_left
  · intro w'
    go_simp
    with_reducible rfl
  rotate_left
  · simp only [Act.put, List.setIfInBounds_toArray, List.set_cons_zero, List.set_cons_succ, i64_w, i32_w]
    rfl
  refine pure_ (i := 9) (N := some 26) (v := ?_) (a' := ?_) #[true, true, true, true, true, true, true, true, true, true, true, false] rfl rfl (any_of HT_.out (by kernel_rfl)) (fun _ _ _ h => h) (Or.inl ⟨by rfl, ?_⟩) ?_ ?_
  rotate_left
  · intro w'
    go_simp
    with_reducible rfl
  rotate_left
  · simp only [Act.put, List.setIfInBounds_toArray, List.set_cons_zero, List.set_cons_succ, i64_w, i32_w]
    rfl
  refine pure_ (i := 11) (N := some 8) (v := ?_) (a' := ?_) #[true, true, true, true, true, true, true, true, true, true, true, true] rfl rfl (any_of HT_.out (by kernel_rfl)) (fun _ _ _ h => h) (Or.inl ⟨by rfl, ?_⟩) ?_ ?_
  rotate_left
  · intro w'
    go_simp
    with_reducible rfl
  rotate_left
  · simp only [Act.put, List.setIfInBounds_toArray, List.set_cons_zero, List.set_cons_succ, i64_w, i32_w]
    rfl
  refine done_ (done_of HT_.out (by kernel_rfl)) ?_
  try go_wp2_with (first | ((with_reducible refine gate_dst (N := 9) rfl ?_); (try (refine gate_guard (by rfl) ?_; dsimp only)); refine box_event ?hg (N := 9) ?hd (cs := #[.int .i64 0, .int .i64 0, .int .i64 0]) (t := 26) ?hr ?_; (case hd => rfl); (case hg => rfl); (case hr => first | (go_simp; done) | (go_simp; rfl)); intro gb161 hg w6 hbox hb; have n0_ := Aside0.mk (blk_below (g := gb160) (o := .cells #[.int .u16 a0_0, .int .u16 a0_1] 23 (0, 0)) (by (with_reducible repeat (first | refine blk_drewN ?_ _ | refine blk_drew ?_ | refine blk_alloc ?_ _)); exact BK160.out) hb); have n1_ := Aside0.mk (below_step (by repeat (first | (with_reducible first | exact HB.out | apply below_alloc | apply pw_below_drewN | apply below_drew1 | refine below_set ?_ GE160.out) | exact HB.out)) hb); have n2_ := Aside0.mk (hbox); have n3_ := Aside0.mk ((by rw [hg]; exact (below_size (by repeat (first | (with_reducible first | exact HB.out | apply below_alloc | apply pw_below_drewN | apply below_drew1 | refine below_set ?_ GE160.out) | exact HB.out))) : w.heap.size ≤ gb161)); have n4_ := Aside0.mk ((by rw [hg]; exact (below_size (by repeat (first | (with_reducible first | exact HB.out | apply below_alloc | apply pw_below_drewN | apply below_drew1 | refine below_set ?_ GE160.out) | exact HB.out))) : w.heap.size ≤ gb161)); have n5_ := Aside0.mk ((by rw [hg]; exact Nat.ne_of_lt (blk_lt (g := gb160) (o := .cells #[.int .u16 a0_0, .int .u16 a0_1] 23 (0, 0)) (by (with_reducible repeat (first | refine blk_drewN ?_ _ | refine blk_drew ?_ | refine blk_alloc ?_ _)); exact BK160.out)) : gb160 ≠ gb161)); have n6_ := Aside0.mk ((by rw [hg]; exact Nat.ne_of_gt (blk_lt (g := gb160) (o := .cells #[.int .u16 a0_0, .int .u16 a0_1] 23 (0, 0)) (by (with_reducible repeat (first | refine blk_drewN ?_ _ | refine blk_drew ?_ | refine blk_alloc ?_ _)); exact BK160.out)) : gb161 ≠ gb160)); clear BK160; clear HB; have BK160 := n0_; have HB := n1_; have BK161 := n2_; have GW161 := n3_; have GE161 := n4_; have NB160_161 := n5_; have NB161_160 := n6_; clear n0_ n1_ n2_ n3_ n4_ n5_ n6_; clear hb hbox hg; have hnb7 := NB161_160.out; have hnc7 := NB160_161.out; have hcz8_0 : w6.cell? ⟨gb161, 0, none⟩ = some (.int .i64 0) := (blk_cell BK161.out 0).trans rfl; have hcz8_1 : w6.cell? ⟨gb161, 1, none⟩ = some (.int .i64 0) := (blk_cell BK161.out 1).trans rfl; have hcz8_2 : w6.cell? ⟨gb161, 2, none⟩ = some (.int .i64 0) := (blk_cell BK161.out 2).trans rfl; have hfz8_0 := blk_frozen BK161.out 0; have hfz8_1 := blk_frozen BK161.out 1; have hfz8_2 := blk_frozen BK161.out 2) | ((with_reducible refine gate_dst (N := 32) rfl ?_); (try (refine gate_guard (by rfl) ?_; dsimp only)); refine Kd.R_lit k26 _ 26 ?hg (N := 32) ?hd (xs := ([(⟨0, Int.tmod (wrap64 (a1)) 8, 7⟩ : S26)] : List (S26))) (inner := [.int .i64 0, .int .i64 (Int.tmod (wrap64 (a1)) 8), .int .i64 7]) (ok := fun _ => True) (okp := fun _ => True) ?hr ?hp (fun _ hk => hk) trivial (Below.refl _ _) (Nat.le_refl _) (by simp) ?_; (case hd => rfl); (case hg => rfl); (case hr => first | (go_simp; done) | (go_simp; rfl)); (case hp => exact (Reps.c3 (show Kd.M k26 _ _ _ (⟨0, Int.tmod (wrap64 (a1)) 8, 7⟩ : S26) [.int .i64 0, .int .i64 (Int.tmod (wrap64 (a1)) 8), .int .i64 7] from (k26_mkM _ _ _ (⟨0, Int.tmod (wrap64 (a1)) 8, 7⟩ : S26) )) (Reps.none _ _))); intro v163 w9 ho10 hb hg_ hnew_; clear hg_ hnew_; (first | rw [← Ny162.out] at ho10 | (simp only [Int.reduceToNat] at ho10; rw [← Ny162.out] at ho10)); have n0_ := Aside0.mk (Kd.R_lower (Kd.R_newB ho10 (g := gb161) (o := .cells #[.int .i64 0, .int .i64 (Int.tmod (wrap64 (a1)) 8), .int .i64 7] 26 (0, 0)) (by (with_reducible repeat (first | refine blk_drewN ?_ _ | refine blk_drew ?_ | refine blk_alloc ?_ _)); refine blk_put (cs := #[.int .i64 0, .int .i64 (Int.tmod (wrap64 (a1)) 8), .int .i64 0]) ?_ 2 _ rfl; (with_reducible repeat (first | refine blk_drewN ?_ _ | refine blk_drew ?_ | refine blk_alloc ?_ _)); refine blk_put (cs := #[.int .i64 0, .int .i64 0, .int .i64 0]) ?_ 1 _ rfl; (with_reducible repeat (first | refine blk_drewN ?_ _ | refine blk_drew ?_ | refine blk_alloc ?_ _)); refine blk_put (cs := #[.int .i64 0, .int .i64 0, .int .i64 0]) ?_ 0 _ rfl; (with_reducible repeat (first | refine blk_drewN ?_ _ | refine blk_drew ?_ | refine blk_alloc ?_ _)); exact BK161.out)) (below_size (by repeat (first | (with_reducible first | exact HB.out | apply below_alloc | apply pw_below_drewN | apply below_drew1 | refine below_set ?_ GE160.out | refine below_set ?_ GE161.out) | exact HB.out)))); have n1_ := Aside0.mk (blk_below (g := gb160) (o := .cells #[.int .u16 a0_0, .int .u16 a0_1] 23 (0, 0)) (by (with_reducible repeat (first | refine blk_drewN ?_ _ | refine blk_drew ?_ | refine blk_alloc ?_ _)); refine blk_far ?_ NB160_161.out _; (with_reducible repeat (first | refine blk_drewN ?_ _ | refine blk_drew ?_ | refine blk_alloc ?_ _)); refine blk_far ?_ NB160_161.out _; (with_reducible repeat (first | refine blk_drewN ?_ _ | refine blk_drew ?_ | refine blk_alloc ?_ _)); refine blk_far ?_ NB160_161.out _; (with_reducible repeat (first | refine blk_drewN ?_ _ | refine blk_drew ?_ | refine blk_alloc ?_ _)); exact BK160.out) hb); have n2_ := Aside0.mk (blk_below (g := gb161) (o := .cells #[.int .i64 0, .int .i64 (Int.tmod (wrap64 (a1)) 8), .int .i64 7] 26 (0, 0)) (by (with_reducible repeat (first | refine blk_drewN ?_ _ | refine blk_drew ?_ | refine blk_alloc ?_ _)); refine blk_put (cs := #[.int .i64 0, .int .i64 (Int.tmod (wrap64 (a1)) 8), .int .i64 0]) ?_ 2 _ rfl; (with_reducible repeat (first | refine blk_drewN ?_ _ | refine blk_drew ?_ | refine blk_alloc ?_ _)); refine blk_put (cs := #[.int .i64 0, .int .i64 0, .int .i64 0]) ?_ 1 _ rfl; (with_reducible repeat (first | refine blk_drewN ?_ _ | refine blk_drew ?_ | refine blk_alloc ?_ _)); refine blk_put (cs := #[.int .i64 0, .int .i64 0, .int .i64 0]) ?_ 0 _ rfl; (with_reducible repeat (first | refine blk_drewN ?_ _ | refine blk_drew ?_ | refine blk_alloc ?_ _)); exact BK161.out) hb); have n3_ := Aside0.mk (below_step (by repeat (first | (with_reducible first | exact HB.out | apply below_alloc | apply pw_below_drewN | apply below_drew1 | refine below_set ?_ GE160.out | refine below_set ?_ GE161.out) | exact HB.out)) hb); clear BK160; clear BK161; clear HB; have HO164 := n0_; have BK160 := n1_; have BK161 := n2_; have HB := n3_; clear n0_ n1_ n2_ n3_; clear hb ho10))
  go_loopg [10, 11, 12, 13] k (fun kq v10 v11 v12 v13 w' => ∃ (x10_1 : List (S26)) (x11_1 : Int) (x12_1 : Int) (x13_1 : Int), v11 = .int .i64 x11_1 ∧ v12 = .int .i64 x12_1 ∧ v13 = .int .i64 x13_1 ∧ Aside0 (remontoirlaw08_TurnServed.l0 kq l2 (wrap64 (1 + (Int.tmod (wrap64 (a0_0)) 12))) (wrap64 (1 + (Int.tmod (wrap64 (a0_1)) 12))) x10_1 x11_1 x12_1 x13_1 = some r) ∧ Aside0 (kq ≤ k) ∧ Aside0 (Kd.R k26 26 w' w.heap.size (fun k_ => k_ ≠ gb161) v10 x10_1) ∧ Aside0 (w'.heap[gb160]? = some (.cells #[.int .u16 a0_0, .int .u16 a0_1] 23 (0, 0))) ∧ Aside0 (w'.heap[gb161]? = some (.cells #[.int .i64 0, .int .i64 (Int.tmod (wrap64 (a1)) 8), .int .i64 7] 26 (0, 0))) ∧ Aside0 (Below w.heap.size w w'))
  case atStart => exact ⟨(y162), (0), (0), (0), (by first | rfl | (simp; done) | (simp [*]; done)), (by first | rfl | (simp; done) | (simp [*]; done)), (by first | rfl | (simp; done) | (simp [*]; done)), H', ⟨Nat.le_refl _⟩, ⟨by (with_reducible repeat (first | apply Kd.R_alloc | apply Kd.R_drewN | apply Kd.R_drew)); exact Kd.R_mono HO164.out (fun _ hk => hk.2)⟩, ⟨by (with_reducible repeat (first | refine blk_drewN ?_ _ | refine blk_drew ?_ | refine blk_alloc ?_ _)); exact BK160.out⟩, ⟨by (with_reducible repeat (first | refine blk_drewN ?_ _ | refine blk_drew ?_ | refine blk_alloc ?_ _)); exact BK161.out⟩, ⟨by repeat (first | (with_reducible first | exact HB.out | apply below_alloc | apply pw_below_drewN | apply below_drew1 | refine below_set ?_ GE160.out | refine below_set ?_ GE161.out) | exact HB.out)⟩⟩
  case round =>
    clear H'
    try clear c2
    try clear p2
    try clear c3
    try clear c5
    try clear p6
    try clear c7
    try clear hcz8_0
    try clear hcz8_1
    try clear hcz8_2
    try clear hfz8_0
    try clear hfz8_1
    try clear hfz8_2
    obtain ⟨x10_1, x11_1, x12_1, x13_1, rfl, rfl, rfl, HA, HK1, HO_10, BK160, BK161, HB⟩ := hrel
    cases gk with
    | zero => exact absurd HA.out (by simp [remontoirlaw08_TurnServed.l0])
    | succ k1 =>
      have H := HA.out
      clear HA
      simp only [remontoirlaw08_TurnServed.l0] at H
      replace H := Option.bind_eq_some_iff.mp H
      obtain ⟨t165, A110, H⟩ := H
      replace H : (if x13_1 < t165 then (remontoirlaw08_TurnServed.l1 k1 l2 (wrap64 (1 + (Int.tmod (wrap64 (a0_0)) 12))) (wrap64 (1 + (Int.tmod (wrap64 (a0_1)) 12))) x10_1 x11_1 x12_1 x13_1) else (none)) = some r := H
      have A11 := Aside0.mk A110
      clear A110
      by_cases c12 : x13_1 < t165
      · rw [if_pos c12] at H
        have c12b0 : decide (x13_1 < t165) = true := decide_eq_true c12
        clear c12
        have HC13 := Aside0.mk H
        clear H
        go_upto_block 2 with (first | ((with_reducible refine gate_callee (f := 11) rfl ?_); refine goesL_ (some 36) rfl rfl Try.func11 (by kernel_rfl) rfl #[.int .i64 (wrap64 (1 + (Int.tmod (wrap64 (a0_0)) 12))), .int .i64 (wrap64 (1 + (Int.tmod (wrap64 (a0_1)) 12)))] rfl (by (try simp only [List.map_toArray, List.map_cons, List.map_nil]); first | done | rfl | (simp only [List.length_drop, List.length_take]; rfl)) ?_; (with_reducible refine (turn_Bound.calls (wrap64 (1 + (Int.tmod (wrap64 (a0_0)) 12))) (wrap64 (1 + (Int.tmod (wrap64 (a0_1)) 12))) t165 _ A11.out).mono ?_); rintro e w14 ⟨rfl, hb⟩; refine ⟨_, rfl, ?_⟩; have n0_ := Aside0.mk (Kd.R_below (by (with_reducible repeat (first | apply Kd.R_alloc | apply Kd.R_drewN | apply Kd.R_drew)); exact HO_10.out) hb); have n1_ := Aside0.mk (blk_below (g := gb160) (o := .cells #[.int .u16 a0_0, .int .u16 a0_1] 23 (0, 0)) (by (with_reducible repeat (first | refine blk_drewN ?_ _ | refine blk_drew ?_ | refine blk_alloc ?_ _)); exact BK160.out) hb); have n2_ := Aside0.mk (blk_below (g := gb161) (o := .cells #[.int .i64 0, .int .i64 (Int.tmod (wrap64 (a1)) 8), .int .i64 7] 26 (0, 0)) (by (with_reducible repeat (first | refine blk_drewN ?_ _ | refine blk_drew ?_ | refine blk_alloc ?_ _)); exact BK161.out) hb); have n3_ := Aside0.mk (below_step (by repeat (first | (with_reducible first | exact HB.out | apply below_alloc | apply pw_below_drewN | apply below_drew1 | refine below_set ?_ GE160.out | refine below_set ?_ GE161.out) | exact HB.out)) hb); clear HO_10; clear BK160; clear BK161; clear HB; have HO_10 := n0_; have BK160 := n1_; have BK161 := n2_; have HB := n3_; clear n0_ n1_ n2_ n3_; (try clear hb); (try clear hb2); (try clear hk); (try clear hi)))
        (try simp only [Act.put, List.setIfInBounds_toArray, List.set_cons_zero, List.set_cons_succ])
        go_cut [10, 11, 12] (fun v10 v11 v12 wc => ∃ (kq : Nat) (x10_12 : List (S26)) (x11_12 : Int) (x12_12 : Int), v11 = .int .i64 x11_12 ∧ v12 = .int .i64 x12_12 ∧ Aside0 (remontoirlaw08_TurnServed.j2 kq l2 (wrap64 (1 + (Int.tmod (wrap64 (a0_0)) 12))) (wrap64 (1 + (Int.tmod (wrap64 (a0_1)) 12))) x10_12 x11_12 x12_12 x13_1 = some r) ∧ Aside0 (kq ≤ k1) ∧ Aside0 (Kd.R k26 26 wc w.heap.size (fun k_ => k_ ≠ gb161) v10 x10_12) ∧ Aside0 (wc.heap[gb160]? = some (.cells #[.int .u16 a0_0, .int .u16 a0_1] 23 (0, 0))) ∧ Aside0 (wc.heap[gb161]? = some (.cells #[.int .i64 0, .int .i64 (Int.tmod (wrap64 (a1)) 8), .int .i64 7] 26 (0, 0))) ∧ Aside0 (Below w.heap.size w wc))
        case first =>
          have H := HC13.out
          clear HC13
          have H' := Aside0.mk H
          clear H
          go_wp2
          go_loopg [10, 11, 12] k1 (fun kq v10 v11 v12 w' => ∃ (x10_2 : List (S26)) (x11_2 : Int) (x12_2 : Int), v11 = .int .i64 x11_2 ∧ v12 = .int .i64 x12_2 ∧ Aside0 (remontoirlaw08_TurnServed.l1 kq l2 (wrap64 (1 + (Int.tmod (wrap64 (a0_0)) 12))) (wrap64 (1 + (Int.tmod (wrap64 (a0_1)) 12))) x10_2 x11_2 x12_2 x13_1 = some r) ∧ Aside0 (kq ≤ k1) ∧ Aside0 (Kd.R k26 26 w' w.heap.size (fun k_ => k_ ≠ gb161) v10 x10_2) ∧ Aside0 (w'.heap[gb160]? = some (.cells #[.int .u16 a0_0, .int .u16 a0_1] 23 (0, 0))) ∧ Aside0 (w'.heap[gb161]? = some (.cells #[.int .i64 0, .int .i64 (Int.tmod (wrap64 (a1)) 8), .int .i64 7] 26 (0, 0))) ∧ Aside0 (Below w.heap.size w w'))
          case atStart => exact ⟨(x10_1), (x11_1), (x12_1), (by first | rfl | (simp; done) | (simp [*]; done)), (by first | rfl | (simp; done) | (simp [*]; done)), H', ⟨Nat.le_refl _⟩, ⟨by (with_reducible repeat (first | apply Kd.R_alloc | apply Kd.R_drewN | apply Kd.R_drew)); exact HO_10.out⟩, ⟨by (with_reducible repeat (first | refine blk_drewN ?_ _ | refine blk_drew ?_ | refine blk_alloc ?_ _)); exact BK160.out⟩, ⟨by (with_reducible repeat (first | refine blk_drewN ?_ _ | refine blk_drew ?_ | refine blk_alloc ?_ _)); exact BK161.out⟩, ⟨by repeat (first | (with_reducible first | exact HB.out | apply below_alloc | apply pw_below_drewN | apply below_drew1 | refine below_set ?_ GE160.out | refine below_set ?_ GE161.out) | exact HB.out)⟩⟩
          case round =>
            clear H'
            try clear c1
            try clear c2
            try clear p2
            try clear c3
            try clear c5
            try clear p6
            try clear c7
            try clear c11
            try clear c12
            try clear c12b0
            try clear hcz8_0
            try clear hcz8_1
            try clear hcz8_2
            try clear hfz8_0
            try clear hfz8_1
            try clear hfz8_2
            try clear p2
            try clear p6
            obtain ⟨x10_2, x11_2, x12_2, rfl, rfl, HA, HK2, HO_10, BK160, BK161, HB⟩ := hrel
            cases gk with
            | zero => exact absurd HA.out (by simp [remontoirlaw08_TurnServed.l1])
            | succ k2 =>
              have H := HA.out
              clear HA
              simp only [remontoirlaw08_TurnServed.l1] at H
              by_cases c15 : (x10_2.length : Int) < (wrap64 (1 + (Int.tmod (wrap64 (a0_1)) 12)))
              · rw [if_pos c15] at H
                have c15b0 : decide ((x10_2.length : Int) < (wrap64 (1 + (Int.tmod (wrap64 (a0_1)) 12)))) = true := decide_eq_true c15
                clear c15
                (first | rw [c15b0] | (simp only [i64_w, i32_w]; rw [c15b0]) | skip)
                by_cases c16 : x12_2 < (l2.length : Int)
                · rw [if_pos c16] at H
                  have c16b0 : decide (x12_2 < (l2.length : Int)) = true := decide_eq_true c16
                  clear c16
                  by_cases c17 : 0 ≤ x12_2
                  · rw [if_pos c17] at H
                    have c17b0 : decide (0 ≤ x12_2) = true := decide_eq_true c17
                    clear c17
                    by_cases c18 : (Int.tmod ((rd_T35 l2 x12_2).f1) 4) = 0
                    · rw [if_pos c18] at H
                      have c18b0 : ((Int.tmod ((rd_T35 l2 x12_2).f1) 4) == 0) = true := beq_iff_eq.mpr c18
                      have c18b1 : ((Int.tmod ((rd_T35 l2 x12_2).f1) 4) != 0) = false := bne_eq_false_iff_eq.mpr c18
                      clear c18
                      have H' := Aside0.mk H
                      clear H
                      obtain ⟨Ao19, co19, eo19⟩ := Kd.R_slice HO_10.out
                      subst eo19
                      have p166 : 0 ≤ (x12_2 : Int) := of_decide_eq_true (by first | (with_reducible assumption) | assumption)
                      have q166 : x12_2 < (l2.length : Int) := of_decide_eq_true (by first | (with_reducible assumption) | assumption)
                      obtain ⟨ad166, e166, hx166_0, hx166_1⟩ := at_T35 HR2.out x12_2 p166 q166
                      cases e166
                      replace hx166_0 := (HB.out.cell (World.block_lt_of_cell? w _ hx166_0)).trans hx166_0
                      replace hx166_1 := (HB.out.cell (World.block_lt_of_cell? w _ hx166_1)).trans hx166_1
                      replace p166 := eq_true p166
                      replace q166 := eq_true q166
                      go_wp2
                      go_meet
                      case rel => exact ⟨_, (x10_2), (x11_2), (wrap64 (x12_2 + 1)), (by first | rfl | (simp; done) | (simp [*]; done)), (by first | rfl | (simp; done) | (simp [*]; done)), H', ⟨by have := HK1.out; have := HK2.out; first | omega | exact Nat.le_refl _⟩, ⟨by (with_reducible repeat (first | apply Kd.R_alloc | apply Kd.R_drewN | apply Kd.R_drew)); exact HO_10.out⟩, ⟨by (with_reducible repeat (first | refine blk_drewN ?_ _ | refine blk_drew ?_ | refine blk_alloc ?_ _)); exact BK160.out⟩, ⟨by (with_reducible repeat (first | refine blk_drewN ?_ _ | refine blk_drew ?_ | refine blk_alloc ?_ _)); exact BK161.out⟩, ⟨by repeat (first | (with_reducible first | exact HB.out | apply below_alloc | apply pw_below_drewN | apply below_drew1 | refine below_set ?_ GE160.out | refine below_set ?_ GE161.out) | exact HB.out)⟩⟩
                    · rw [if_neg c18] at H
                      have c18b0 : ((Int.tmod ((rd_T35 l2 x12_2).f1) 4) == 0) = false := beq_eq_false_iff_ne.mpr c18
                      have c18b1 : ((Int.tmod ((rd_T35 l2 x12_2).f1) 4) != 0) = true := bne_iff_ne.mpr c18
                      by_cases c20 : (Int.tmod (wrap64 (x11_2 + 1)) 2) = 0
                      · rw [if_pos c20] at H
                        have c20b0 : ((Int.tmod (wrap64 (x11_2 + 1)) 2) == 0) = true := beq_iff_eq.mpr c20
                        have c20b1 : ((Int.tmod (wrap64 (x11_2 + 1)) 2) != 0) = false := bne_eq_false_iff_eq.mpr c20
                        clear c20
                        by_cases c21 : x10_2.length < 5864062014805
                        · rw [if_pos c21] at H
                          have LMc21 := Aside0.mk c21
                          clear c21
                          obtain ⟨y168, hy168⟩ : ∃ y_ : List (S26), y_ = (x10_2 ++ [(⟨wrap64 (-(wrap64 (x11_2 + 1))), Int.tmod (wrap64 ((rd_T35 l2 x12_2).f0)) 8, wrap64 (7 + x13_1)⟩ : S26)]) := ⟨_, rfl⟩
                          replace H : (remontoirlaw08_TurnServed.l1 k2 l2 (wrap64 (1 + (Int.tmod (wrap64 (a0_0)) 12))) (wrap64 (1 + (Int.tmod (wrap64 (a0_1)) 12))) y168 (wrap64 (x11_2 + 1)) (wrap64 (x12_2 + 1)) x13_1) = some r := by first | (rw [hy168]; with_reducible exact H) | (have H2_ := (Option.bind_some _ _).symm.trans H; rw [hy168]; with_reducible exact H2_) | (have H2_ := (Option.bind_some _ _).symm.trans H; with_reducible exact H2_) | with_reducible exact H | (rw [hy168]; exact H) | exact H
                          have Ny168 := Aside0.mk hy168
                          clear hy168
                          have H' := Aside0.mk H
                          clear H
                          obtain ⟨Ao22, co22, eo22⟩ := Kd.R_slice HO_10.out
                          subst eo22
                          have p166 : 0 ≤ (x12_2 : Int) := of_decide_eq_true (by first | (with_reducible assumption) | assumption)
                          have q166 : x12_2 < (l2.length : Int) := of_decide_eq_true (by first | (with_reducible assumption) | assumption)
                          obtain ⟨ad166, e166, hx166_0, hx166_1⟩ := at_T35 HR2.out x12_2 p166 q166
                          cases e166
                          replace hx166_0 := (HB.out.cell (World.block_lt_of_cell? w _ hx166_0)).trans hx166_0
                          replace hx166_1 := (HB.out.cell (World.block_lt_of_cell? w _ hx166_1)).trans hx166_1
                          replace p166 := eq_true p166
                          replace q166 := eq_true q166
                          have p167 : 0 ≤ (x12_2 : Int) := of_decide_eq_true (by first | (with_reducible assumption) | assumption)
                          have q167 : x12_2 < (l2.length : Int) := of_decide_eq_true (by first | (with_reducible assumption) | assumption)
                          obtain ⟨ad167, e167, hx167_0, hx167_1⟩ := at_T35 HR2.out x12_2 p167 q167
                          obtain rfl : ad166 = ad167 := (by injection e167)
                          replace hx167_0 := (HB.out.cell (World.block_lt_of_cell? w _ hx167_0)).trans hx167_0
                          replace hx167_1 := (HB.out.cell (World.block_lt_of_cell? w _ hx167_1)).trans hx167_1
                          replace p167 := eq_true p167
                          replace q167 := eq_true q167
                          go_wp2_with (first | ((with_reducible refine gate_builtin (b := .append) (xs := #[.tmp 74, .tmp 80]) rfl ?_); (try (refine gate_guard (by rfl) ?_; dsimp only)); at_builtin; refine Kd.R_append k26 (w0 := w) w.heap.size rfl (.tmp 74) (.tmp 80) 33 26 (.agg #[(.int .i64 0), (.int .i64 0), (.int .i64 0)]) 24 rfl Try.underlying33 info26 rfl (by decide) (by omega) (.slice Ao22 x10_2.length co22) x10_2 (⟨wrap64 (-(wrap64 (x11_2 + 1))), Int.tmod (wrap64 ((rd_T35 l2 x12_2).f0)) 8, wrap64 (7 + x13_1)⟩ : S26) [.int .i64 (wrap64 (-(wrap64 (x11_2 + 1)))), .int .i64 (Int.tmod (wrap64 ((rd_T35 l2 x12_2).f0)) 8), .int .i64 (wrap64 (7 + x13_1))] (fun k_ => k_ ≠ gb161) (fun _ => False) rfl rfl ?aP (fun _ hk => hk.elim) ?aF ?aO ?aB ?aS ?aL ?_; (case aP => exact k26_mkM _ _ _ (⟨wrap64 (-(wrap64 (x11_2 + 1))), Int.tmod (wrap64 ((rd_T35 l2 x12_2).f0)) 8, wrap64 (7 + x13_1)⟩ : S26)); (case aB => exact (by repeat (first | (with_reducible first | exact HB.out | apply below_alloc | apply pw_below_drewN | apply below_drew1 | refine below_set ?_ GE160.out | refine below_set ?_ GE161.out) | exact HB.out))); (case aF => exact (fun k_ hk => Kd.freshB (g := gb161) (o := .cells #[.int .i64 0, .int .i64 (Int.tmod (wrap64 (a1)) 8), .int .i64 7] 26 (0, 0)) (by (with_reducible repeat (first | refine blk_drewN ?_ _ | refine blk_drew ?_ | refine blk_alloc ?_ _)); exact BK161.out) k_ hk)); (case aO => exact (by (with_reducible repeat (first | apply Kd.R_alloc | apply Kd.R_drewN | apply Kd.R_drew)); exact HO_10.out)); (case aS => exact (below_size (by repeat (first | (with_reducible first | exact HB.out | apply below_alloc | apply pw_below_drewN | apply below_drew1 | refine below_set ?_ GE160.out | refine below_set ?_ GE161.out) | exact HB.out)))); (case aL => have := LMc21.out; omega); intro v169 w23 ho hb hg hat; rw [← Ny168.out] at ho; have n0_ := Aside0.mk (blk_grown (g := gb160) (o := .cells #[.int .u16 a0_0, .int .u16 a0_1] 23 (0, 0)) (by (with_reducible repeat (first | refine blk_drewN ?_ _ | refine blk_drew ?_ | refine blk_alloc ?_ _)); exact BK160.out) hg (Kd.R_ne HO_10.out BK160.out (by decide))); have n1_ := Aside0.mk (blk_grown (g := gb161) (o := .cells #[.int .i64 0, .int .i64 (Int.tmod (wrap64 (a1)) 8), .int .i64 7] 26 (0, 0)) (by (with_reducible repeat (first | refine blk_drewN ?_ _ | refine blk_drew ?_ | refine blk_alloc ?_ _)); exact BK161.out) hg (Kd.R_away HO_10.out (fun _ hk => hk))); have n2_ := Aside0.mk (hb); have n3_ := Aside0.mk (ho); clear BK160; clear BK161; clear HB; clear HO_10; have BK160 := n0_; have BK161 := n1_; have HB := n2_; have HO170 := n3_; clear n0_ n1_ n2_ n3_; clear ho hb hg hat))
                          go_roundg k2
                          case measure => have := HK1.out; have := HK2.out; omega
                          case rel => exact ⟨(y168), (wrap64 (x11_2 + 1)), (wrap64 (x12_2 + 1)), (by first | rfl | (simp; done) | (simp [*]; done)), (by first | rfl | (simp; done) | (simp [*]; done)), H', ⟨by have := HK1.out; have := HK2.out; omega⟩, ⟨by (with_reducible repeat (first | apply Kd.R_alloc | apply Kd.R_drewN | apply Kd.R_drew)); exact HO170.out⟩, ⟨by (with_reducible repeat (first | refine blk_drewN ?_ _ | refine blk_drew ?_ | refine blk_alloc ?_ _)); exact BK160.out⟩, ⟨by (with_reducible repeat (first | refine blk_drewN ?_ _ | refine blk_drew ?_ | refine blk_alloc ?_ _)); exact BK161.out⟩, ⟨by repeat (first | (with_reducible first | exact HB.out | apply below_alloc | apply pw_below_drewN | apply below_drew1 | refine below_set ?_ GE160.out | refine below_set ?_ GE161.out) | exact HB.out)⟩⟩
                        · rw [if_neg c21] at H
                          exact absurd H (by simp)
                      · rw [if_neg c20] at H
                        have c20b0 : ((Int.tmod (wrap64 (x11_2 + 1)) 2) == 0) = false := beq_eq_false_iff_ne.mpr c20
                        have c20b1 : ((Int.tmod (wrap64 (x11_2 + 1)) 2) != 0) = true := bne_iff_ne.mpr c20
                        by_cases c24 : x10_2.length < 5864062014805
                        · rw [if_pos c24] at H
                          have LMc24 := Aside0.mk c24
                          clear c24
                          obtain ⟨y171, hy171⟩ : ∃ y_ : List (S26), y_ = (x10_2 ++ [(⟨wrap64 (x11_2 + 1), Int.tmod (wrap64 ((rd_T35 l2 x12_2).f0)) 8, wrap64 (7 + x13_1)⟩ : S26)]) := ⟨_, rfl⟩
                          replace H : (remontoirlaw08_TurnServed.l1 k2 l2 (wrap64 (1 + (Int.tmod (wrap64 (a0_0)) 12))) (wrap64 (1 + (Int.tmod (wrap64 (a0_1)) 12))) y171 (wrap64 (x11_2 + 1)) (wrap64 (x12_2 + 1)) x13_1) = some r := by first | (rw [hy171]; with_reducible exact H) | (have H2_ := (Option.bind_some _ _).symm.trans H; rw [hy171]; with_reducible exact H2_) | (have H2_ := (Option.bind_some _ _).symm.trans H; with_reducible exact H2_) | with_reducible exact H | (rw [hy171]; exact H) | exact H
                          have Ny171 := Aside0.mk hy171
                          clear hy171
                          have H' := Aside0.mk H
                          clear H
                          obtain ⟨Ao25, co25, eo25⟩ := Kd.R_slice HO_10.out
                          subst eo25
                          have p166 : 0 ≤ (x12_2 : Int) := of_decide_eq_true (by first | (with_reducible assumption) | assumption)
                          have q166 : x12_2 < (l2.length : Int) := of_decide_eq_true (by first | (with_reducible assumption) | assumption)
                          obtain ⟨ad166, e166, hx166_0, hx166_1⟩ := at_T35 HR2.out x12_2 p166 q166
                          cases e166
                          replace hx166_0 := (HB.out.cell (World.block_lt_of_cell? w _ hx166_0)).trans hx166_0
                          replace hx166_1 := (HB.out.cell (World.block_lt_of_cell? w _ hx166_1)).trans hx166_1
                          replace p166 := eq_true p166
                          replace q166 := eq_true q166
                          have p167 : 0 ≤ (x12_2 : Int) := of_decide_eq_true (by first | (with_reducible assumption) | assumption)
                          have q167 : x12_2 < (l2.length : Int) := of_decide_eq_true (by first | (with_reducible assumption) | assumption)
                          obtain ⟨ad167, e167, hx167_0, hx167_1⟩ := at_T35 HR2.out x12_2 p167 q167
                          obtain rfl : ad166 = ad167 := (by injection e167)
                          replace hx167_0 := (HB.out.cell (World.block_lt_of_cell? w _ hx167_0)).trans hx167_0
                          replace hx167_1 := (HB.out.cell (World.block_lt_of_cell? w _ hx167_1)).trans hx167_1
                          replace p167 := eq_true p167
                          replace q167 := eq_true q167
                          go_wp2_with (first | ((with_reducible refine gate_builtin (b := .append) (xs := #[.tmp 74, .tmp 80]) rfl ?_); (try (refine gate_guard (by rfl) ?_; dsimp only)); at_builtin; refine Kd.R_append k26 (w0 := w) w.heap.size rfl (.tmp 74) (.tmp 80) 33 26 (.agg #[(.int .i64 0), (.int .i64 0), (.int .i64 0)]) 24 rfl Try.underlying33 info26 rfl (by decide) (by omega) (.slice Ao25 x10_2.length co25) x10_2 (⟨wrap64 (x11_2 + 1), Int.tmod (wrap64 ((rd_T35 l2 x12_2).f0)) 8, wrap64 (7 + x13_1)⟩ : S26) [.int .i64 (wrap64 (x11_2 + 1)), .int .i64 (Int.tmod (wrap64 ((rd_T35 l2 x12_2).f0)) 8), .int .i64 (wrap64 (7 + x13_1))] (fun k_ => k_ ≠ gb161) (fun _ => False) rfl rfl ?aP (fun _ hk => hk.elim) ?aF ?aO ?aB ?aS ?aL ?_; (case aP => exact k26_mkM _ _ _ (⟨wrap64 (x11_2 + 1), Int.tmod (wrap64 ((rd_T35 l2 x12_2).f0)) 8, wrap64 (7 + x13_1)⟩ : S26)); (case aB => exact (by repeat (first | (with_reducible first | exact HB.out | apply below_alloc | apply pw_below_drewN | apply below_drew1 | refine below_set ?_ GE160.out | refine below_set ?_ GE161.out) | exact HB.out))); (case aF => exact (fun k_ hk => Kd.freshB (g := gb161) (o := .cells #[.int .i64 0, .int .i64 (Int.tmod (wrap64 (a1)) 8), .int .i64 7] 26 (0, 0)) (by (with_reducible repeat (first | refine blk_drewN ?_ _ | refine blk_drew ?_ | refine blk_alloc ?_ _)); exact BK161.out) k_ hk)); (case aO => exact (by (with_reducible repeat (first | apply Kd.R_alloc | apply Kd.R_drewN | apply Kd.R_drew)); exact HO_10.out)); (case aS => exact (below_size (by repeat (first | (with_reducible first | exact HB.out | apply below_alloc | apply pw_below_drewN | apply below_drew1 | refine below_set ?_ GE160.out | refine below_set ?_ GE161.out) | exact HB.out)))); (case aL => have := LMc24.out; omega); intro v172 w26 ho hb hg hat; rw [← Ny171.out] at ho; have n0_ := Aside0.mk (blk_grown (g := gb160) (o := .cells #[.int .u16 a0_0, .int .u16 a0_1] 23 (0, 0)) (by (with_reducible repeat (first | refine blk_drewN ?_ _ | refine blk_drew ?_ | refine blk_alloc ?_ _)); exact BK160.out) hg (Kd.R_ne HO_10.out BK160.out (by decide))); have n1_ := Aside0.mk (blk_grown (g := gb161) (o := .cells #[.int .i64 0, .int .i64 (Int.tmod (wrap64 (a1)) 8), .int .i64 7] 26 (0, 0)) (by (with_reducible repeat (first | refine blk_drewN ?_ _ | refine blk_drew ?_ | refine blk_alloc ?_ _)); exact BK161.out) hg (Kd.R_away HO_10.out (fun _ hk => hk))); have n2_ := Aside0.mk (hb); have n3_ := Aside0.mk (ho); clear BK160; clear BK161; clear HB; clear HO_10; have BK160 := n0_; have BK161 := n1_; have HB := n2_; have HO173 := n3_; clear n0_ n1_ n2_ n3_; clear ho hb hg hat))
                          go_roundg k2
                          case measure => have := HK1.out; have := HK2.out; omega
                          case rel => exact ⟨(y171), (wrap64 (x11_2 + 1)), (wrap64 (x12_2 + 1)), (by first | rfl | (simp; done) | (simp [*]; done)), (by first | rfl | (simp; done) | (simp [*]; done)), H', ⟨by have := HK1.out; have := HK2.out; omega⟩, ⟨by (with_reducible repeat (first | apply Kd.R_alloc | apply Kd.R_drewN | apply Kd.R_drew)); exact HO173.out⟩, ⟨by (with_reducible repeat (first | refine blk_drewN ?_ _ | refine blk_drew ?_ | refine blk_alloc ?_ _)); exact BK160.out⟩, ⟨by (with_reducible repeat (first | refine blk_drewN ?_ _ | refine blk_drew ?_ | refine blk_alloc ?_ _)); exact BK161.out⟩, ⟨by repeat (first | (with_reducible first | exact HB.out | apply below_alloc | apply pw_below_drewN | apply below_drew1 | refine below_set ?_ GE160.out | refine below_set ?_ GE161.out) | exact HB.out)⟩⟩
                        · rw [if_neg c24] at H
                          exact absurd H (by simp)
                  · rw [if_neg c17] at H
                    exact absurd H (by simp)
                · rw [if_neg c16] at H
                  have c16b0 : decide (x12_2 < (l2.length : Int)) = false := decide_eq_false c16
                  clear c16
                  by_cases c27 : (Int.tmod (wrap64 (x11_2 + 1)) 2) = 0
                  · rw [if_pos c27] at H
                    have c27b0 : ((Int.tmod (wrap64 (x11_2 + 1)) 2) == 0) = true := beq_iff_eq.mpr c27
                    have c27b1 : ((Int.tmod (wrap64 (x11_2 + 1)) 2) != 0) = false := bne_eq_false_iff_eq.mpr c27
                    clear c27
                    by_cases c28 : x10_2.length < 5864062014805
                    · rw [if_pos c28] at H
                      have LMc28 := Aside0.mk c28
                      clear c28
                      obtain ⟨y174, hy174⟩ : ∃ y_ : List (S26), y_ = (x10_2 ++ [(⟨wrap64 (-(wrap64 (x11_2 + 1))), 0, wrap64 (7 + x13_1)⟩ : S26)]) := ⟨_, rfl⟩
                      replace H : (remontoirlaw08_TurnServed.l1 k2 l2 (wrap64 (1 + (Int.tmod (wrap64 (a0_0)) 12))) (wrap64 (1 + (Int.tmod (wrap64 (a0_1)) 12))) y174 (wrap64 (x11_2 + 1)) x12_2 x13_1) = some r := by first | (rw [hy174]; with_reducible exact H) | (have H2_ := (Option.bind_some _ _).symm.trans H; rw [hy174]; with_reducible exact H2_) | (have H2_ := (Option.bind_some _ _).symm.trans H; with_reducible exact H2_) | with_reducible exact H | (rw [hy174]; exact H) | exact H
                      have Ny174 := Aside0.mk hy174
                      clear hy174
                      have H' := Aside0.mk H
                      clear H
                      obtain ⟨Ao29, co29, eo29⟩ := Kd.R_slice HO_10.out
                      subst eo29
                      go_wp2_with (first | ((with_reducible refine gate_builtin (b := .append) (xs := #[.tmp 74, .tmp 80]) rfl ?_); (try (refine gate_guard (by rfl) ?_; dsimp only)); at_builtin; refine Kd.R_append k26 (w0 := w) w.heap.size rfl (.tmp 74) (.tmp 80) 33 26 (.agg #[(.int .i64 0), (.int .i64 0), (.int .i64 0)]) 24 rfl Try.underlying33 info26 rfl (by decide) (by omega) (.slice Ao29 x10_2.length co29) x10_2 (⟨wrap64 (-(wrap64 (x11_2 + 1))), 0, wrap64 (7 + x13_1)⟩ : S26) [.int .i64 (wrap64 (-(wrap64 (x11_2 + 1)))), .int .i64 0, .int .i64 (wrap64 (7 + x13_1))] (fun k_ => k_ ≠ gb161) (fun _ => False) rfl rfl ?aP (fun _ hk => hk.elim) ?aF ?aO ?aB ?aS ?aL ?_; (case aP => exact k26_mkM _ _ _ (⟨wrap64 (-(wrap64 (x11_2 + 1))), 0, wrap64 (7 + x13_1)⟩ : S26)); (case aB => exact (by repeat (first | (with_reducible first | exact HB.out | apply below_alloc | apply pw_below_drewN | apply below_drew1 | refine below_set ?_ GE160.out | refine below_set ?_ GE161.out) | exact HB.out))); (case aF => exact (fun k_ hk => Kd.freshB (g := gb161) (o := .cells #[.int .i64 0, .int .i64 (Int.tmod (wrap64 (a1)) 8), .int .i64 7] 26 (0, 0)) (by (with_reducible repeat (first | refine blk_drewN ?_ _ | refine blk_drew ?_ | refine blk_alloc ?_ _)); exact BK161.out) k_ hk)); (case aO => exact (by (with_reducible repeat (first | apply Kd.R_alloc | apply Kd.R_drewN | apply Kd.R_drew)); exact HO_10.out)); (case aS => exact (below_size (by repeat (first | (with_reducible first | exact HB.out | apply below_alloc | apply pw_below_drewN | apply below_drew1 | refine below_set ?_ GE160.out | refine below_set ?_ GE161.out) | exact HB.out)))); (case aL => have := LMc28.out; omega); intro v175 w30 ho hb hg hat; rw [← Ny174.out] at ho; have n0_ := Aside0.mk (blk_grown (g := gb160) (o := .cells #[.int .u16 a0_0, .int .u16 a0_1] 23 (0, 0)) (by (with_reducible repeat (first | refine blk_drewN ?_ _ | refine blk_drew ?_ | refine blk_alloc ?_ _)); exact BK160.out) hg (Kd.R_ne HO_10.out BK160.out (by decide))); have n1_ := Aside0.mk (blk_grown (g := gb161) (o := .cells #[.int .i64 0, .int .i64 (Int.tmod (wrap64 (a1)) 8), .int .i64 7] 26 (0, 0)) (by (with_reducible repeat (first | refine blk_drewN ?_ _ | refine blk_drew ?_ | refine blk_alloc ?_ _)); exact BK161.out) hg (Kd.R_away HO_10.out (fun _ hk => hk))); have n2_ := Aside0.mk (hb); have n3_ := Aside0.mk (ho); clear BK160; clear BK161; clear HB; clear HO_10; have BK160 := n0_; have BK161 := n1_; have HB := n2_; have HO176 := n3_; clear n0_ n1_ n2_ n3_; clear ho hb hg hat))
                      go_roundg k2
                      case measure => have := HK1.out; have := HK2.out; omega
                      case rel => exact ⟨(y174), (wrap64 (x11_2 + 1)), (x12_2), (by first | rfl | (simp; done) | (simp [*]; done)), (by first | rfl | (simp; done) | (simp [*]; done)), H', ⟨by have := HK1.out; have := HK2.out; omega⟩, ⟨by (with_reducible repeat (first | apply Kd.R_alloc | apply Kd.R_drewN | apply Kd.R_drew)); exact HO176.out⟩, ⟨by (with_reducible repeat (first | refine blk_drewN ?_ _ | refine blk_drew ?_ | refine blk_alloc ?_ _)); exact BK160.out⟩, ⟨by (with_reducible repeat (first | refine blk_drewN ?_ _ | refine blk_drew ?_ | refine blk_alloc ?_ _)); exact BK161.out⟩, ⟨by repeat (first | (with_reducible first | exact HB.out | apply below_alloc | apply pw_below_drewN | apply below_drew1 | refine below_set ?_ GE160.out | refine below_set ?_ GE161.out) | exact HB.out)⟩⟩
                    · rw [if_neg c28] at H
                      exact absurd H (by simp)
                  · rw [if_neg c27] at H
                    have c27b0 : ((Int.tmod (wrap64 (x11_2 + 1)) 2) == 0) = false := beq_eq_false_iff_ne.mpr c27
                    have c27b1 : ((Int.tmod (wrap64 (x11_2 + 1)) 2) != 0) = true := bne_iff_ne.mpr c27
                    by_cases c31 : x10_2.length < 5864062014805
                    · rw [if_pos c31] at H
                      have LMc31 := Aside0.mk c31
                      clear c31
                      obtain ⟨y177, hy177⟩ : ∃ y_ : List (S26), y_ = (x10_2 ++ [(⟨wrap64 (x11_2 + 1), 0, wrap64 (7 + x13_1)⟩ : S26)]) := ⟨_, rfl⟩
                      replace H : (remontoirlaw08_TurnServed.l1 k2 l2 (wrap64 (1 + (Int.tmod (wrap64 (a0_0)) 12))) (wrap64 (1 + (Int.tmod (wrap64 (a0_1)) 12))) y177 (wrap64 (x11_2 + 1)) x12_2 x13_1) = some r := by first | (rw [hy177]; with_reducible exact H) | (have H2_ := (Option.bind_some _ _).symm.trans H; rw [hy177]; with_reducible exact H2_) | (have H2_ := (Option.bind_some _ _).symm.trans H; with_reducible exact H2_) | with_reducible exact H | (rw [hy177]; exact H) | exact H
                      have Ny177 := Aside0.mk hy177
                      clear hy177
                      have H' := Aside0.mk H
                      clear H
                      obtain ⟨Ao32, co32, eo32⟩ := Kd.R_slice HO_10.out
                      subst eo32
                      go_wp2_with (first | ((with_reducible refine gate_builtin (b := .append) (xs := #[.tmp 74, .tmp 80]) rfl ?_); (try (refine gate_guard (by rfl) ?_; dsimp only)); at_builtin; refine Kd.R_append k26 (w0 := w) w.heap.size rfl (.tmp 74) (.tmp 80) 33 26 (.agg #[(.int .i64 0), (.int .i64 0), (.int .i64 0)]) 24 rfl Try.underlying33 info26 rfl (by decide) (by omega) (.slice Ao32 x10_2.length co32) x10_2 (⟨wrap64 (x11_2 + 1), 0, wrap64 (7 + x13_1)⟩ : S26) [.int .i64 (wrap64 (x11_2 + 1)), .int .i64 0, .int .i64 (wrap64 (7 + x13_1))] (fun k_ => k_ ≠ gb161) (fun _ => False) rfl rfl ?aP (fun _ hk => hk.elim) ?aF ?aO ?aB ?aS ?aL ?_; (case aP => exact k26_mkM _ _ _ (⟨wrap64 (x11_2 + 1), 0, wrap64 (7 + x13_1)⟩ : S26)); (case aB => exact (by repeat (first | (with_reducible first | exact HB.out | apply below_alloc | apply pw_below_drewN | apply below_drew1 | refine below_set ?_ GE160.out | refine below_set ?_ GE161.out) | exact HB.out))); (case aF => exact (fun k_ hk => Kd.freshB (g := gb161) (o := .cells #[.int .i64 0, .int .i64 (Int.tmod (wrap64 (a1)) 8), .int .i64 7] 26 (0, 0)) (by (with_reducible repeat (first | refine blk_drewN ?_ _ | refine blk_drew ?_ | refine blk_alloc ?_ _)); exact BK161.out) k_ hk)); (case aO => exact (by (with_reducible repeat (first | apply Kd.R_alloc | apply Kd.R_drewN | apply Kd.R_drew)); exact HO_10.out)); (case aS => exact (below_size (by repeat (first | (with_reducible first | exact HB.out | apply below_alloc | apply pw_below_drewN | apply below_drew1 | refine below_set ?_ GE160.out | refine below_set ?_ GE161.out) | exact HB.out)))); (case aL => have := LMc31.out; omega); intro v178 w33 ho hb hg hat; rw [← Ny177.out] at ho; have n0_ := Aside0.mk (blk_grown (g := gb160) (o := .cells #[.int .u16 a0_0, .int .u16 a0_1] 23 (0, 0)) (by (with_reducible repeat (first | refine blk_drewN ?_ _ | refine blk_drew ?_ | refine blk_alloc ?_ _)); exact BK160.out) hg (Kd.R_ne HO_10.out BK160.out (by decide))); have n1_ := Aside0.mk (blk_grown (g := gb161) (o := .cells #[.int .i64 0, .int .i64 (Int.tmod (wrap64 (a1)) 8), .int .i64 7] 26 (0, 0)) (by (with_reducible repeat (first | refine blk_drewN ?_ _ | refine blk_drew ?_ | refine blk_alloc ?_ _)); exact BK161.out) hg (Kd.R_away HO_10.out (fun _ hk => hk))); have n2_ := Aside0.mk (hb); have n3_ := Aside0.mk (ho); clear BK160; clear BK161; clear HB; clear HO_10; have BK160 := n0_; have BK161 := n1_; have HB := n2_; have HO179 := n3_; clear n0_ n1_ n2_ n3_; clear ho hb hg hat))
                      go_roundg k2
                      case measure => have := HK1.out; have := HK2.out; omega
                      case rel => exact ⟨(y177), (wrap64 (x11_2 + 1)), (x12_2), (by first | rfl | (simp; done) | (simp [*]; done)), (by first | rfl | (simp; done) | (simp [*]; done)), H', ⟨by have := HK1.out; have := HK2.out; omega⟩, ⟨by (with_reducible repeat (first | apply Kd.R_alloc | apply Kd.R_drewN | apply Kd.R_drew)); exact HO179.out⟩, ⟨by (with_reducible repeat (first | refine blk_drewN ?_ _ | refine blk_drew ?_ | refine blk_alloc ?_ _)); exact BK160.out⟩, ⟨by (with_reducible repeat (first | refine blk_drewN ?_ _ | refine blk_drew ?_ | refine blk_alloc ?_ _)); exact BK161.out⟩, ⟨by repeat (first | (with_reducible first | exact HB.out | apply below_alloc | apply pw_below_drewN | apply below_drew1 | refine below_set ?_ GE160.out | refine below_set ?_ GE161.out) | exact HB.out)⟩⟩
                    · rw [if_neg c31] at H
                      exact absurd H (by simp)
              · rw [if_neg c15] at H
                have c15b0 : decide ((x10_2.length : Int) < (wrap64 (1 + (Int.tmod (wrap64 (a0_1)) 12)))) = false := decide_eq_false c15
                clear c15
                (first | rw [c15b0] | (simp only [i64_w, i32_w]; rw [c15b0]) | skip)
                have H' := Aside0.mk H
                clear H
                obtain ⟨Ao34, co34, eo34⟩ := Kd.R_slice HO_10.out
                subst eo34
                go_wp2
                go_meet
                case rel => exact ⟨_, (x10_2), (x11_2), (x12_2), (by first | rfl | (simp; done) | (simp [*]; done)), (by first | rfl | (simp; done) | (simp [*]; done)), H', ⟨by have := HK1.out; have := HK2.out; first | omega | exact Nat.le_refl _⟩, ⟨by (with_reducible repeat (first | apply Kd.R_alloc | apply Kd.R_drewN | apply Kd.R_drew)); exact HO_10.out⟩, ⟨by (with_reducible repeat (first | refine blk_drewN ?_ _ | refine blk_drew ?_ | refine blk_alloc ?_ _)); exact BK160.out⟩, ⟨by (with_reducible repeat (first | refine blk_drewN ?_ _ | refine blk_drew ?_ | refine blk_alloc ?_ _)); exact BK161.out⟩, ⟨by repeat (first | (with_reducible first | exact HB.out | apply below_alloc | apply pw_below_drewN | apply below_drew1 | refine below_set ?_ GE160.out | refine below_set ?_ GE161.out) | exact HB.out)⟩⟩
        case rest =>
          clear HC13
          try clear c1
          try clear p1
          try clear q1
          try clear hx1
          try clear c2
          try clear p2
          try clear c3
          try clear c5
          try clear p6
          try clear c7
          try clear c11
          try clear c12
          try clear c12b0
          try clear c15
          try clear c15b0
          try clear c16
          try clear c16b0
          try clear p16
          try clear q16
          try clear hx16
          try clear c17
          try clear c17b0
          try clear c18
          try clear c18b0
          try clear c18b1
          try clear c20
          try clear c20b0
          try clear c20b1
          try clear c21
          try clear c24
          try clear c27
          try clear c27b0
          try clear c27b1
          try clear c28
          try clear c31
          try clear hcz8_0
          try clear hcz8_1
          try clear hcz8_2
          try clear hfz8_0
          try clear hfz8_1
          try clear hfz8_2
          try clear hx166_0
          try clear hx166_1
          try clear hx167_0
          try clear hx167_1
          try clear p166
          try clear p167
          try clear p2
          try clear p6
          try clear q166
          try clear q167
          obtain ⟨kq, x10_12, x11_12, x12_12, rfl, rfl, HA, HJ12, HO_10, BK160, BK161, HB⟩ := hcut
          cases kq with
          | zero => exact absurd HA.out (by simp [remontoirlaw08_TurnServed.j2])
          | succ kj12 =>
            have H := HA.out
            clear HA
            simp only [remontoirlaw08_TurnServed.j2] at H
            replace H := Option.bind_eq_some_iff.mp H
            obtain ⟨t180, A350, H⟩ := H
            replace H : (if t180 < 0 then (remontoirlaw08_TurnServed.j3 kj12 l2 (wrap64 (1 + (Int.tmod (wrap64 (a0_0)) 12))) (wrap64 (1 + (Int.tmod (wrap64 (a0_1)) 12))) x10_12 x11_12 x12_12 x13_1 t180 true) else (remontoirlaw08_TurnServed.j3 kj12 l2 (wrap64 (1 + (Int.tmod (wrap64 (a0_0)) 12))) (wrap64 (1 + (Int.tmod (wrap64 (a0_1)) 12))) x10_12 x11_12 x12_12 x13_1 t180 (decide (t180 ≥ (x10_12.length : Int))))) = some r := H
            have A35 := Aside0.mk A350
            clear A350
            have HC36 := Aside0.mk H
            clear H
            obtain ⟨Ao37, co37, eo37⟩ := Kd.R_slice HO_10.out
            subst eo37
            go_upto_region 21 with (first | ((with_reducible refine gate_callee (f := 12) rfl ?_); refine goesL_ (some 84) rfl rfl Try.func12 (by kernel_rfl) rfl #[.int .i64 (wrap64 (1 + (Int.tmod (wrap64 (a0_0)) 12))), .slice Ao37 x10_12.length co37] rfl (by (try simp only [List.map_toArray, List.map_cons, List.map_nil]); first | done | rfl | (simp only [List.length_drop, List.length_take]; rfl)) ?_; (with_reducible refine (turn_First.calls kj12 (wrap64 (1 + (Int.tmod (wrap64 (a0_0)) 12))) _ _ x10_12 t180 _ ?side1 ?side2 A35.out).mono ?_); (case side1 => repeat (first | exact (Kd.R_reads' HO_10.out).2.2 | (with_reducible refine Kd.C_alloc ?_ _) | (with_reducible refine Kd.C_drewN ?_ _) | (with_reducible refine Kd.C_drew ?_))); (case side2 => exact (Kd.R_reads' HO_10.out).2.1); rintro e w38 ⟨rfl, hb⟩; refine ⟨_, rfl, ?_⟩; have n0_ := Aside0.mk (Kd.R_below (by (with_reducible repeat (first | apply Kd.R_alloc | apply Kd.R_drewN | apply Kd.R_drew)); exact HO_10.out) hb); have n1_ := Aside0.mk (blk_below (g := gb160) (o := .cells #[.int .u16 a0_0, .int .u16 a0_1] 23 (0, 0)) (by (with_reducible repeat (first | refine blk_drewN ?_ _ | refine blk_drew ?_ | refine blk_alloc ?_ _)); exact BK160.out) hb); have n2_ := Aside0.mk (blk_below (g := gb161) (o := .cells #[.int .i64 0, .int .i64 (Int.tmod (wrap64 (a1)) 8), .int .i64 7] 26 (0, 0)) (by (with_reducible repeat (first | refine blk_drewN ?_ _ | refine blk_drew ?_ | refine blk_alloc ?_ _)); exact BK161.out) hb); have n3_ := Aside0.mk (below_step (by repeat (first | (with_reducible first | exact HB.out | apply below_alloc | apply pw_below_drewN | apply below_drew1 | refine below_set ?_ GE160.out | refine below_set ?_ GE161.out) | exact HB.out)) hb); clear HO_10; clear BK160; clear BK161; clear HB; have HO_10 := n0_; have BK160 := n1_; have BK161 := n2_; have HB := n3_; clear n0_ n1_ n2_ n3_; (try clear hb); (try clear hb2); (try clear hk); (try clear hi)))
            (try simp only [Act.put, List.setIfInBounds_toArray, List.set_cons_zero, List.set_cons_succ])
            go_cut [92] (fun v92 wc => ∃ (kq : Nat) (x92_35 : Bool), v92 = .bool x92_35 ∧ Aside0 (remontoirlaw08_TurnServed.j3 kq l2 (wrap64 (1 + (Int.tmod (wrap64 (a0_0)) 12))) (wrap64 (1 + (Int.tmod (wrap64 (a0_1)) 12))) x10_12 x11_12 x12_12 x13_1 t180 x92_35 = some r) ∧ Aside0 (kq ≤ kj12) ∧ Aside0 (Kd.R k26 26 wc w.heap.size (fun k_ => k_ ≠ gb161) (.slice Ao37 x10_12.length co37) x10_12) ∧ Aside0 (wc.heap[gb160]? = some (.cells #[.int .u16 a0_0, .int .u16 a0_1] 23 (0, 0))) ∧ Aside0 (wc.heap[gb161]? = some (.cells #[.int .i64 0, .int .i64 (Int.tmod (wrap64 (a1)) 8), .int .i64 7] 26 (0, 0))) ∧ Aside0 (Below w.heap.size w wc))
            case first =>
              have H := HC36.out
              clear HC36
              by_cases c39 : t180 < 0
              · rw [if_pos c39] at H
                have c39b0 : decide (t180 < 0) = true := decide_eq_true c39
                clear c39
                (first | rw [c39b0] | (simp only [i64_w, i32_w]; rw [c39b0]) | skip)
                have H' := Aside0.mk H
                clear H
                go_wp2
                go_meet
                case rel => exact ⟨_, (true), (by first | rfl | (simp; done) | (simp [*]; done)), H', ⟨by have := HK1.out; have := HJ12.out; first | omega | exact Nat.le_refl _⟩, ⟨by (with_reducible repeat (first | apply Kd.R_alloc | apply Kd.R_drewN | apply Kd.R_drew)); exact HO_10.out⟩, ⟨by (with_reducible repeat (first | refine blk_drewN ?_ _ | refine blk_drew ?_ | refine blk_alloc ?_ _)); exact BK160.out⟩, ⟨by (with_reducible repeat (first | refine blk_drewN ?_ _ | refine blk_drew ?_ | refine blk_alloc ?_ _)); exact BK161.out⟩, ⟨by repeat (first | (with_reducible first | exact HB.out | apply below_alloc | apply pw_below_drewN | apply below_drew1 | refine below_set ?_ GE160.out | refine below_set ?_ GE161.out) | exact HB.out)⟩⟩
              · rw [if_neg c39] at H
                have c39b0 : decide (t180 < 0) = false := decide_eq_false c39
                clear c39
                (first | rw [c39b0] | (simp only [i64_w, i32_w]; rw [c39b0]) | skip)
                have H' := Aside0.mk H
                clear H
                go_wp2
                go_meet
                case rel => exact ⟨_, (decide (t180 ≥ (x10_12.length : Int))), (by first | rfl | (simp; done) | (simp [*]; done)), H', ⟨by have := HK1.out; have := HJ12.out; first | omega | exact Nat.le_refl _⟩, ⟨by (with_reducible repeat (first | apply Kd.R_alloc | apply Kd.R_drewN | apply Kd.R_drew)); exact HO_10.out⟩, ⟨by (with_reducible repeat (first | refine blk_drewN ?_ _ | refine blk_drew ?_ | refine blk_alloc ?_ _)); exact BK160.out⟩, ⟨by (with_reducible repeat (first | refine blk_drewN ?_ _ | refine blk_drew ?_ | refine blk_alloc ?_ _)); exact BK161.out⟩, ⟨by repeat (first | (with_reducible first | exact HB.out | apply below_alloc | apply pw_below_drewN | apply below_drew1 | refine below_set ?_ GE160.out | refine below_set ?_ GE161.out) | exact HB.out)⟩⟩
            case rest =>
              clear HC36
              try clear c1
              try clear p1
              try clear q1
              try clear hx1
              try clear c2
              try clear p2
              try clear c3
              try clear c5
              try clear p6
              try clear c7
              try clear c11
              try clear c12
              try clear c12b0
              try clear c15
              try clear c15b0
              try clear c16
              try clear c16b0
              try clear p16
              try clear q16
              try clear hx16
              try clear c17
              try clear c17b0
              try clear c18
              try clear c18b0
              try clear c18b1
              try clear c20
              try clear c20b0
              try clear c20b1
              try clear c21
              try clear c24
              try clear c27
              try clear c27b0
              try clear c27b1
              try clear c28
              try clear c31
              try clear c39
              try clear c39b0
              try clear hcz8_0
              try clear hcz8_1
              try clear hcz8_2
              try clear hfz8_0
              try clear hfz8_1
              try clear hfz8_2
              try clear hx166_0
              try clear hx166_1
              try clear hx167_0
              try clear hx167_1
              try clear p1
              try clear p16
              try clear p166
              try clear p167
              try clear p2
              try clear p6
              try clear q1
              try clear q16
              try clear q166
              try clear q167
              obtain ⟨kq, x92_35, rfl, HA, HJ35, HO_10, BK160, BK161, HB⟩ := hcut
              cases kq with
              | zero => exact absurd HA.out (by simp [remontoirlaw08_TurnServed.j3])
              | succ kj35 =>
                have H := HA.out
                clear HA
                simp only [remontoirlaw08_TurnServed.j3] at H
                by_cases c40 : x92_35 = true
                · subst c40
                  have H1 : (none) = some r := by rw [if_pos rfl] at H; exact H
                  clear H
                  have H := H1
                  clear H1
                  exact absurd H (by simp)
                · replace c40 := Bool.eq_false_iff.mpr c40
                  subst c40
                  have H1 : (if 0 ≤ t180 then (if t180 < (x10_12.length : Int) then (if ((rd_T26 x10_12 t180).f0) = 0 then ((remontoirlaw08_wakes.f kj35).bind fun t182 => (some t182)) else ((some (([] : List (S26)) : List (S26))).bind fun y183 => (if t180 ≤ (x10_12.length : Int) then ((some (x10_12.take (t180 : Int).toNat : List (S26))).bind fun y186 => (if y183.length + y186.length < 5864062014805 then ((some (y183 ++ y186 : List (S26))).bind fun y190 => (if 0 ≤ (wrap64 (t180 + 1)) then (if (wrap64 (t180 + 1)) ≤ (x10_12.length : Int) then ((some (x10_12.drop ((wrap64 (t180 + 1)) : Int).toNat : List (S26))).bind fun y193 => (if y190.length + y193.length < 5864062014805 then (remontoirlaw08_TurnServed.l0 kj35 l2 (wrap64 (1 + (Int.tmod (wrap64 (a0_0)) 12))) (wrap64 (1 + (Int.tmod (wrap64 (a0_1)) 12))) (y190 ++ y193) x11_12 x12_12 (wrap64 (x13_1 + 1))) else (none))) else (none)) else (none))) else (none))) else (none)))) else (none)) else (none)) = some r := by rw [if_neg (show ¬ (false = true) by decide)] at H; exact H
                  clear H
                  have H := H1
                  clear H1
                  by_cases c41 : 0 ≤ t180
                  · rw [if_pos c41] at H
                    have c41b0 : decide (0 ≤ t180) = true := decide_eq_true c41
                    clear c41
                    by_cases c42 : t180 < (x10_12.length : Int)
                    · rw [if_pos c42] at H
                      have c42b0 : decide (t180 < (x10_12.length : Int)) = true := decide_eq_true c42
                      clear c42
                      by_cases c43 : ((rd_T26 x10_12 t180).f0) = 0
                      · rw [if_pos c43] at H
                        have c43b0 : (((rd_T26 x10_12 t180).f0) == 0) = true := beq_iff_eq.mpr c43
                        have c43b1 : (((rd_T26 x10_12 t180).f0) != 0) = false := bne_eq_false_iff_eq.mpr c43
                        clear c43
                        replace H := Option.bind_eq_some_iff.mp H
                        obtain ⟨t182, A440, H⟩ := H
                        replace H : (some t182) = some r := H
                        have A44 := Aside0.mk A440
                        clear A440
                        obtain rfl := Option.some.inj H
                        have p181 : 0 ≤ (t180 : Int) := of_decide_eq_true (by first | (with_reducible assumption) | assumption)
                        have q181 : t180 < (x10_12.length : Int) := of_decide_eq_true (by first | (with_reducible assumption) | assumption)
                        obtain ⟨ad181, e181, hx181_0, hx181_1, hx181_2⟩ := at_T26 (Kd.R_reads' HO_10.out).2.2 t180 p181 q181
                        cases e181
                        replace p181 := eq_true p181
                        replace q181 := eq_true q181
                        go_wp2_with (first | ((with_reducible refine gate_callee (f := 10) rfl ?_); refine goesL_ (some 99) rfl rfl Try.func10 (by kernel_rfl) rfl #[] rfl (by (try simp only [List.map_toArray, List.map_cons, List.map_nil]); first | done | rfl | (simp only [List.length_drop, List.length_take]; rfl)) ?_; (with_reducible refine (remontoirlaw08_wakes.calls kj35  t182 _ A44.out).mono ?_); rintro e w45 ⟨rfl, hb⟩; refine ⟨_, rfl, ?_⟩; have n0_ := Aside0.mk (Kd.R_below (by (with_reducible repeat (first | apply Kd.R_alloc | apply Kd.R_drewN | apply Kd.R_drew)); exact HO_10.out) hb); have n1_ := Aside0.mk (blk_below (g := gb160) (o := .cells #[.int .u16 a0_0, .int .u16 a0_1] 23 (0, 0)) (by (with_reducible repeat (first | refine blk_drewN ?_ _ | refine blk_drew ?_ | refine blk_alloc ?_ _)); exact BK160.out) hb); have n2_ := Aside0.mk (blk_below (g := gb161) (o := .cells #[.int .i64 0, .int .i64 (Int.tmod (wrap64 (a1)) 8), .int .i64 7] 26 (0, 0)) (by (with_reducible repeat (first | refine blk_drewN ?_ _ | refine blk_drew ?_ | refine blk_alloc ?_ _)); exact BK161.out) hb); have n3_ := Aside0.mk (below_step (by repeat (first | (with_reducible first | exact HB.out | apply below_alloc | apply pw_below_drewN | apply below_drew1 | refine below_set ?_ GE160.out | refine below_set ?_ GE161.out) | exact HB.out)) hb); clear HO_10; clear BK160; clear BK161; clear HB; have HO_10 := n0_; have BK160 := n1_; have BK161 := n2_; have HB := n3_; clear n0_ n1_ n2_ n3_; (try clear hb); (try clear hb2); (try clear hk); (try clear hi)))
                        go_ret
                        exact ⟨by first | rfl | (simp [errW_none, errW_some] <;> rfl) | (simp [*, errW_none, errW_some] <;> rfl), by repeat (first | (with_reducible first | exact HB.out | apply below_alloc | apply pw_below_drewN | apply below_drew1 | refine below_set ?_ GE160.out | refine below_set ?_ GE161.out) | exact HB.out)⟩
                      · rw [if_neg c43] at H
                        have c43b0 : (((rd_T26 x10_12 t180).f0) == 0) = false := beq_eq_false_iff_ne.mpr c43
                        have c43b1 : (((rd_T26 x10_12 t180).f0) != 0) = true := bne_iff_ne.mpr c43
                        obtain ⟨y183, hy183⟩ : ∃ y_ : List (S26), y_ = (([] : List (S26))) := ⟨_, rfl⟩
                        replace H : (if t180 ≤ (x10_12.length : Int) then ((some (x10_12.take (t180 : Int).toNat : List (S26))).bind fun y186 => (if y183.length + y186.length < 5864062014805 then ((some (y183 ++ y186 : List (S26))).bind fun y190 => (if 0 ≤ (wrap64 (t180 + 1)) then (if (wrap64 (t180 + 1)) ≤ (x10_12.length : Int) then ((some (x10_12.drop ((wrap64 (t180 + 1)) : Int).toNat : List (S26))).bind fun y193 => (if y190.length + y193.length < 5864062014805 then (remontoirlaw08_TurnServed.l0 kj35 l2 (wrap64 (1 + (Int.tmod (wrap64 (a0_0)) 12))) (wrap64 (1 + (Int.tmod (wrap64 (a0_1)) 12))) (y190 ++ y193) x11_12 x12_12 (wrap64 (x13_1 + 1))) else (none))) else (none)) else (none))) else (none))) else (none)) = some r := by first | (rw [hy183]; with_reducible exact H) | (have H2_ := (Option.bind_some _ _).symm.trans H; rw [hy183]; with_reducible exact H2_) | (have H2_ := (Option.bind_some _ _).symm.trans H; with_reducible exact H2_) | with_reducible exact H | (rw [hy183]; exact H) | exact H
                        have Ny183 := Aside0.mk hy183
                        clear hy183
                        have c46b0 := eq_true (of_decide_eq_true (by first | (with_reducible assumption) | assumption) : 0 ≤ t180)
                        by_cases c47 : t180 ≤ (x10_12.length : Int)
                        · rw [if_pos c47] at H
                          have c47b0 := eq_true c47
                          have c47b1 : decide (t180 ≤ (x10_12.length : Int)) = true := decide_eq_true c47
                          clear c47
                          obtain ⟨y186, hy186⟩ : ∃ y_ : List (S26), y_ = (x10_12.take (t180 : Int).toNat) := ⟨_, rfl⟩
                          replace H : (if y183.length + y186.length < 5864062014805 then ((some (y183 ++ y186 : List (S26))).bind fun y190 => (if 0 ≤ (wrap64 (t180 + 1)) then (if (wrap64 (t180 + 1)) ≤ (x10_12.length : Int) then ((some (x10_12.drop ((wrap64 (t180 + 1)) : Int).toNat : List (S26))).bind fun y193 => (if y190.length + y193.length < 5864062014805 then (remontoirlaw08_TurnServed.l0 kj35 l2 (wrap64 (1 + (Int.tmod (wrap64 (a0_0)) 12))) (wrap64 (1 + (Int.tmod (wrap64 (a0_1)) 12))) (y190 ++ y193) x11_12 x12_12 (wrap64 (x13_1 + 1))) else (none))) else (none)) else (none))) else (none)) = some r := by first | (rw [hy186]; with_reducible exact H) | (have H2_ := (Option.bind_some _ _).symm.trans H; rw [hy186]; with_reducible exact H2_) | (have H2_ := (Option.bind_some _ _).symm.trans H; with_reducible exact H2_) | with_reducible exact H | (rw [hy186]; exact H) | exact H
                          have Ny186 := Aside0.mk hy186
                          clear hy186
                          by_cases c48 : y183.length + y186.length < 5864062014805
                          · rw [if_pos c48] at H
                            have LMc48 := Aside0.mk c48
                            clear c48
                            obtain ⟨y190, hy190⟩ : ∃ y_ : List (S26), y_ = (y183 ++ y186) := ⟨_, rfl⟩
                            replace H : (if 0 ≤ (wrap64 (t180 + 1)) then (if (wrap64 (t180 + 1)) ≤ (x10_12.length : Int) then ((some (x10_12.drop ((wrap64 (t180 + 1)) : Int).toNat : List (S26))).bind fun y193 => (if y190.length + y193.length < 5864062014805 then (remontoirlaw08_TurnServed.l0 kj35 l2 (wrap64 (1 + (Int.tmod (wrap64 (a0_0)) 12))) (wrap64 (1 + (Int.tmod (wrap64 (a0_1)) 12))) (y190 ++ y193) x11_12 x12_12 (wrap64 (x13_1 + 1))) else (none))) else (none)) else (none)) = some r := by first | (rw [hy190]; with_reducible exact H) | (have H2_ := (Option.bind_some _ _).symm.trans H; rw [hy190]; with_reducible exact H2_) | (have H2_ := (Option.bind_some _ _).symm.trans H; with_reducible exact H2_) | with_reducible exact H | (rw [hy190]; exact H) | exact H
                            have Ny190 := Aside0.mk hy190
                            clear hy190
                            obtain ⟨ji49, hji49⟩ : ∃ j_ : Int, (wrap64 (t180 + 1)) = j_ := ⟨_, rfl⟩
                            replace H : (if 0 ≤ (ji49) then (if (ji49) ≤ (x10_12.length : Int) then ((some (x10_12.drop ((ji49) : Int).toNat : List (S26))).bind fun y193 => (if y190.length + y193.length < 5864062014805 then (remontoirlaw08_TurnServed.l0 kj35 l2 (wrap64 (1 + (Int.tmod (wrap64 (a0_0)) 12))) (wrap64 (1 + (Int.tmod (wrap64 (a0_1)) 12))) (y190 ++ y193) x11_12 x12_12 (wrap64 (x13_1 + 1))) else (none))) else (none)) else (none)) = some r := by first | (rw [hji49] at H; exact H) | (simp only [hji49] at H ⊢; exact H)
                            have hji49w : (IntKind.i64.wrap (t180 + 1)) = ji49 := (i64_w _).trans hji49
                            by_cases c50 : 0 ≤ (ji49)
                            · rw [if_pos c50] at H
                              have c50b0 := eq_true c50
                              have c50b1 : decide (0 ≤ (ji49)) = true := decide_eq_true c50
                              clear c50
                              by_cases c51 : (ji49) ≤ (x10_12.length : Int)
                              · rw [if_pos c51] at H
                                have c51b0 := eq_true c51
                                have c51b1 : decide ((ji49) ≤ (x10_12.length : Int)) = true := decide_eq_true c51
                                clear c51
                                obtain ⟨y193, hy193⟩ : ∃ y_ : List (S26), y_ = (x10_12.drop ((ji49) : Int).toNat) := ⟨_, rfl⟩
                                replace H : (if y190.length + y193.length < 5864062014805 then (remontoirlaw08_TurnServed.l0 kj35 l2 (wrap64 (1 + (Int.tmod (wrap64 (a0_0)) 12))) (wrap64 (1 + (Int.tmod (wrap64 (a0_1)) 12))) (y190 ++ y193) x11_12 x12_12 (wrap64 (x13_1 + 1))) else (none)) = some r := by first | (rw [hy193]; with_reducible exact H) | (have H2_ := (Option.bind_some _ _).symm.trans H; rw [hy193]; with_reducible exact H2_) | (have H2_ := (Option.bind_some _ _).symm.trans H; with_reducible exact H2_) | with_reducible exact H | (rw [hy193]; exact H) | exact H
                                have Ny193 := Aside0.mk hy193
                                clear hy193
                                by_cases c52 : y190.length + y193.length < 5864062014805
                                · rw [if_pos c52] at H
                                  have LMc52 := Aside0.mk c52
                                  clear c52
                                  obtain ⟨y197, hy197⟩ : ∃ y_ : List (S26), y_ = (y190 ++ y193) := ⟨_, rfl⟩
                                  replace H : (remontoirlaw08_TurnServed.l0 kj35 l2 (wrap64 (1 + (Int.tmod (wrap64 (a0_0)) 12))) (wrap64 (1 + (Int.tmod (wrap64 (a0_1)) 12))) y197 x11_12 x12_12 (wrap64 (x13_1 + 1))) = some r := by first | (rw [hy197]; with_reducible exact H) | (have H2_ := (Option.bind_some _ _).symm.trans H; rw [hy197]; with_reducible exact H2_) | (have H2_ := (Option.bind_some _ _).symm.trans H; with_reducible exact H2_) | with_reducible exact H | (rw [hy197]; exact H) | exact H
                                  have Ny197 := Aside0.mk hy197
                                  clear hy197
                                  have H' := Aside0.mk H
                                  clear H
                                  have p181 : 0 ≤ (t180 : Int) := of_decide_eq_true (by first | (with_reducible assumption) | assumption)
                                  have q181 : t180 < (x10_12.length : Int) := of_decide_eq_true (by first | (with_reducible assumption) | assumption)
                                  obtain ⟨ad181, e181, hx181_0, hx181_1, hx181_2⟩ := at_T26 (Kd.R_reads' HO_10.out).2.2 t180 p181 q181
                                  cases e181
                                  replace p181 := eq_true p181
                                  replace q181 := eq_true q181
                                  try go_wp2
                                  have n0_ := Aside0.mk (Kd.R_drew HO_10.out)
                                  have n1_ := Aside0.mk (blk_drew BK160.out)
                                  have n2_ := Aside0.mk (blk_drew BK161.out)
                                  have n3_ := Aside0.mk (below_drew1 HB.out)
                                  clear HO_10
                                  clear BK160
                                  clear BK161
                                  clear HB
                                  have HO_10 := n0_
                                  have BK160 := n1_
                                  have BK161 := n2_
                                  have HB := n3_
                                  clear n0_ n1_ n2_ n3_
                                  have q54 : (t180 : Int) ≤ ((x10_12.length : Int) : Int) := of_decide_eq_true (by first | (with_reducible assumption) | assumption)
                                  obtain ⟨i054, hi054, _, hsz54, _⟩ := info_parts info26
                                  have hroom54 : x10_12.length ≤ co37 := (Kd.R_reads' HO_10.out).2.1
                                  have hC54 : Kd.C k26 _ (some ad181) x10_12.length x10_12 := (Kd.R_reads' HO_10.out).2.2
                                  have hcut54 := cut_to (P := Try.prog) 33 26 .i64 Try.underlying33 hi054 (some ad181) x10_12.length co37 t180 (of_decide_eq_true (by first | (with_reducible assumption) | assumption)) q54 hroom54
                                  have hr54 := Kd.C_take (m := (t180 : Int).toNat) hC54 (by omega)
                                  have hy54 : y186.length = (t180 : Int).toNat := (by rw [Ny186.out, List.length_take]; omega)
                                  rw [← Ny186.out] at hr54
                                  rw [← hy54] at hcut54
                                  have HR189 := Aside0.mk hr54
                                  have HC189 := Aside0.mk (show y186.length ≤ co37 from by omega)
                                  clear hr54 hC54 hroom54 hi054 hsz54
                                  have KY54 := Aside0.mk hy54
                                  clear hy54
                                  have KL54 := Aside0.mk (show (t180 : Int).toNat ≤ x10_12.length from by omega)
                                  replace q54 := eq_true q54
                                  have q55 : ((ji49) : Int) ≤ ((x10_12.length : Int) : Int) := of_decide_eq_true (by first | (with_reducible assumption) | assumption)
                                  obtain ⟨i055, hi055, _, hsz55, _⟩ := info_parts info26
                                  have hroom55 : x10_12.length ≤ co37 := (Kd.R_reads' HO_10.out).2.1
                                  have hC55 : Kd.C k26 _ (some ad181) x10_12.length x10_12 := (Kd.R_reads' HO_10.out).2.2
                                  have q055 : (0 : Int) ≤ ((ji49) : Int) := of_decide_eq_true (by first | (with_reducible assumption) | assumption)
                                  have hcut55 := cut_from (P := Try.prog) 33 26 .i64 Try.underlying33 hi055 3 hsz55 (some ad181) x10_12.length co37 (ji49) q055 q55
                                  have hr55 := Kd.C_drop (m := ((ji49) : Int).toNat) (c := co37) hC55 (by omega) hroom55
                                  obtain ⟨A55, hA55⟩ : ∃ A1, A1 = (if co37 = ((ji49) : Int).toNat then (some ad181) else ((some ad181) : Option Addr).map (·.add (((ji49) : Int).toNat * 3))) := ⟨_, rfl⟩
                                  obtain ⟨c55, hc55⟩ : ∃ c1, c1 = co37 - ((ji49) : Int).toNat := ⟨_, rfl⟩
                                  have hy55 : y193.length = x10_12.length - ((ji49) : Int).toNat := (by rw [Ny193.out, List.length_drop] <;> omega)
                                  rw [show (x10_12).drop ((ji49) : Int).toNat = y193 from Ny193.out.symm] at hr55
                                  replace hr55 : Kd.C k26 _ A55 y193.length y193 := (by rw [hA55]; exact hr55)
                                  rw [← hy55, ← hA55, ← hc55] at hcut55
                                  have HR196 := Aside0.mk hr55
                                  have HC196 := Aside0.mk (show y193.length ≤ c55 from by rw [hy55, hc55]; exact Nat.sub_le_sub_right hroom55 _)
                                  clear hr55 hC55 hroom55 hi055 hsz55 hc55
                                  have KY55 := Aside0.mk hy55
                                  have KA55 := Aside0.mk hA55
                                  clear hy55 hA55
                                  have KL55 := Aside0.mk (show ((ji49) : Int).toNat ≤ x10_12.length from by omega)
                                  replace q55 := eq_true q55
                                  refine start_ (n := 11) (S := fun w' => True) (ds := []) #[false, false, false, false, false, false, false, false, false, false, false] (by kernel_rfl) rfl rfl trivial (fun hHeld => ?_); refine with_tabW remontoirlaw08_TurnServed.tab25 remontoirlaw08_TurnServed.bits25 (fun HT_ HW_ => ?_)
                                  generalize wc.drew = w53 at HO_10 BK160 BK161 HB HR189 HR196 hHeld ⊢
                                  refine pure_ (i := 1) (N := some 101) (v := ?_) (a' := ?_) #[false, true, false, false, false, false, false, false, false, false, false] rfl rfl (any_of HT_.out (by kernel_rfl)) (fun _ _ _ h => h) (Or.inl ⟨by rfl, ?_⟩) ?_ ?_
                                  rotate_left
                                  · intro w'
                                    go_simp
                                    with_reducible rfl
                                  rotate_left
                                  · simp only [Act.put, List.setIfInBounds_toArray, List.set_cons_zero, List.set_cons_succ, i64_w, i32_w]
                                    rfl
                                  refine pure_ (i := 2) (N := some 102) (v := ?_) (a' := ?_) #[false, true, true, false, false, false, false, false, false, false, false] rfl rfl (any_of HT_.out (by kernel_rfl)) (fun _ _ _ h => h) (Or.inl ⟨by rfl, ?_⟩) ?_ ?_
                                  rotate_left
                                  · intro w'
                                    go_simp
                                    with_reducible rfl
                                  rotate_left
                                  · simp only [Act.put, List.setIfInBounds_toArray, List.set_cons_zero, List.set_cons_succ, i64_w, i32_w]
                                    rfl
                                  refine pure_ (i := 3) (N := some 103) (v := ?_) (a' := ?_) #[false, true, true, true, false, false, false, false, false, false, false] rfl rfl (any_of HT_.out (by kernel_rfl)) (fun _ _ _ h => h) (Or.inl ⟨by rfl, ?_⟩) ?_ ?_
                                  rotate_left
                                  · intro w'
                                    go_simp
                                    with_reducible rfl
                                  rotate_left
                                  · simp only [Act.put, List.setIfInBounds_toArray, List.set_cons_zero, List.set_cons_succ, i64_w, i32_w]
                                    rfl
                                  refine pure_ (i := 5) (N := some 105) (v := ?_) (a' := ?_) #[false, true, true, true, false, true, false, false, false, false, false] rfl rfl (any_of HT_.out (by kernel_rfl)) (fun _ _ _ h => h) (Or.inl ⟨by rfl, ?_⟩) ?_ ?_
                                  rotate_left
                                  · intro w'
                                    go_simp
                                    with_reducible rfl
                                  rotate_left
                                  · simp only [Act.put, List.setIfInBounds_toArray, List.set_cons_zero, List.set_cons_succ, i64_w, i32_w]
                                    rfl
                                  refine pure_ (i := 6) (N := some 106) (v := ?_) (a' := ?_) #[false, true, true, true, false, true, true, false, false, false, false] rfl rfl (any_of HT_.out (by kernel_rfl)) (fun _ _ _ h => h) (Or.inl ⟨by rfl, ?_⟩) ?_ ?_
                                  rotate_left
                                  · intro w'
                                    go_simp
                                    with_reducible rfl
                                  rotate_left
                                  · simp only [Act.put, List.setIfInBounds_toArray, List.set_cons_zero, List.set_cons_succ, i64_w, i32_w]
                                    rfl
                                  refine pure_ (i := 7) (N := some 107) (v := ?_) (a' := ?_) #[false, true, true, true, false, true, true, true, false, false, false] rfl rfl (any_of HT_.out (by kernel_rfl)) (fun _ _ _ h => h) (Or.inl ⟨by rfl, ?_⟩) ?_ ?_
                                  rotate_left
                                  · intro w'
                                    go_simp
                                    with_reducible rfl
                                  rotate_left
                                  · simp only [Act.put, List.setIfInBounds_toArray, List.set_cons_zero, List.set_cons_succ, i64_w, i32_w]
                                    rfl
                                  refine pure_ (i := 8) (N := some 108) (v := ?_) (a' := ?_) #[false, true, true, true, false, true, true, true, true, false, false] rfl rfl (any_of HT_.out (by kernel_rfl)) (fun _ _ _ h => h) (Or.inl ⟨by rfl, ?_⟩) ?_ ?_
                                  rotate_left
                                  · intro w'
                                    go_simp
                                    with_reducible rfl
                                  rotate_left
                                  · simp only [Act.put, List.setIfInBounds_toArray, List.set_cons_zero, List.set_cons_succ, i64_w, i32_w]
                                    rfl
                                  refine one_ (i := 0) (N := some 100) #[true, true, true, true, false, true, true, true, true, false, false] rfl rfl (one_of HT_.out (by kernel_rfl)) (by decide) (fun K hK => ?_)
                                  refine Kd.R_lit_step k26 _ 26 ?hg (N := 100) ?hd (xs := ([] : List (S26))) (inner := []) (ok := fun _ => True) (okp := fun _ => True) ?hr ?hp (fun _ hk => hk) trivial (Below.refl _ _) (Nat.le_refl _) (by simp) ?_; (case hd => rfl); (case hg => rfl); (case hr => first | (go_simp; done) | (go_simp; rfl)); (case hp => exact (Reps.none _ _))
                                  intro v184 w56 ho57 hb hg_ hnew_
                                  clear hg_ hnew_
                                  (first | rw [← Ny183.out] at ho57 | (simp only [Int.reduceToNat] at ho57; rw [← Ny183.out] at ho57))
                                  have n0_ := Aside0.mk (Kd.R_elder' (by (with_reducible repeat (first | apply Kd.R_alloc | apply Kd.R_drewN | apply Kd.R_drew)); exact HO_10.out) (Kd.R_base ho57) hb)
                                  have n1_ := Aside0.mk (Kd.R_lower (Kd.R_newB (Kd.R_new' ho57 (Kd.R_lt (by (with_reducible repeat (first | apply Kd.R_alloc | apply Kd.R_drewN | apply Kd.R_drew)); exact HO_10.out))) (g := gb161) (o := .cells #[.int .i64 0, .int .i64 (Int.tmod (wrap64 (a1)) 8), .int .i64 7] 26 (0, 0)) (by (with_reducible repeat (first | refine blk_drewN ?_ _ | refine blk_drew ?_ | refine blk_alloc ?_ _)); exact BK161.out)) (below_size (by repeat (first | (with_reducible first | exact HB.out | apply below_alloc | apply pw_below_drewN | apply below_drew1 | refine below_set ?_ GE160.out | refine below_set ?_ GE161.out) | exact HB.out))))
                                  have n2_ := Aside0.mk (blk_below (g := gb160) (o := .cells #[.int .u16 a0_0, .int .u16 a0_1] 23 (0, 0)) (by (with_reducible repeat (first | refine blk_drewN ?_ _ | refine blk_drew ?_ | refine blk_alloc ?_ _)); exact BK160.out) hb)
                                  have n3_ := Aside0.mk (blk_below (g := gb161) (o := .cells #[.int .i64 0, .int .i64 (Int.tmod (wrap64 (a1)) 8), .int .i64 7] 26 (0, 0)) (by (with_reducible repeat (first | refine blk_drewN ?_ _ | refine blk_drew ?_ | refine blk_alloc ?_ _)); exact BK161.out) hb)
                                  have n4_ := Aside0.mk (Kd.C_below (by repeat (first | (with_reducible exact HR189.out) | (with_reducible refine Kd.C_alloc ?_ _) | (with_reducible refine Kd.C_drewN ?_ _) | (with_reducible refine Kd.C_drew ?_) | exact HR189.out)) hb)
                                  have n5_ := Aside0.mk (Kd.C_below (by repeat (first | (with_reducible exact HR196.out) | (with_reducible refine Kd.C_alloc ?_ _) | (with_reducible refine Kd.C_drewN ?_ _) | (with_reducible refine Kd.C_drew ?_) | exact HR196.out)) hb)
                                  have n6_ := Aside0.mk (below_step (by repeat (first | (with_reducible first | exact HB.out | apply below_alloc | apply pw_below_drewN | apply below_drew1 | refine below_set ?_ GE160.out | refine below_set ?_ GE161.out) | exact HB.out)) hb)
                                  clear HO_10
                                  clear BK160
                                  clear BK161
                                  clear HR189
                                  clear HR196
                                  clear HB
                                  have HO_10 := n0_
                                  have HO185 := n1_
                                  have BK160 := n2_
                                  have BK161 := n3_
                                  have HR189 := n4_
                                  have HR196 := n5_
                                  have HB := n6_
                                  clear n0_ n1_ n2_ n3_ n4_ n5_ n6_
                                  clear hb ho57
                                  refine hK.out _ _ trivial (fun hHeld => ?_)
                                  clear hK K
                                  refine norm_ (a' := ?_) ?_ ?_
                                  rotate_left
                                  · show Act.put _ (some 100) _ = _
                                    simp only [Act.put, List.setIfInBounds_toArray, List.set_cons_zero, List.set_cons_succ, i64_w, i32_w]
                                    rfl
                                  refine one_ (i := 4) (N := some 104) #[true, true, true, true, true, true, true, true, true, false, false] rfl rfl (one_of HT_.out (by kernel_rfl)) (by decide) (fun K hK => ?_)
                                  refine Kd.R_append_rows_step k26 (w0 := w) w.heap.size (by rfl) (.tmp 100) (.tmp 103) 33 26 (.agg #[(.int .i64 0), (.int .i64 0), (.int .i64 0)]) 24 rfl Try.underlying33 info26 rfl (by decide) (by omega) v184 y183 y186 _ _ _ (fun k_ => some k_ ≠ (.slice (some ad181) x10_12.length co37 : Value).ownBlock ∧ k_ ≠ gb161) (fun _ => False) rfl rfl ?aO ?aR (fun _ _ h => h) (fun _ h => h.elim) ?aF ?aB ?aS ?aL ?_
                                  (case aR => repeat (first | exact (by repeat (first | (with_reducible exact HR189.out) | (with_reducible refine Kd.C_alloc ?_ _) | (with_reducible refine Kd.C_drewN ?_ _) | (with_reducible refine Kd.C_drew ?_) | exact HR189.out)) | (with_reducible refine Kd.C_alloc ?_ _) | (with_reducible refine Kd.C_drewN ?_ _) | (with_reducible refine Kd.C_drew ?_)))
                                  (case aB => exact (by repeat (first | (with_reducible first | exact HB.out | apply below_alloc | apply pw_below_drewN | apply below_drew1 | refine below_set ?_ GE160.out | refine below_set ?_ GE161.out) | exact HB.out)))
                                  (case aF => exact (fun k_ hk => ⟨Kd.fresh' (Kd.R_lt (by (with_reducible repeat (first | apply Kd.R_alloc | apply Kd.R_drewN | apply Kd.R_drew)); exact HO_10.out)) k_ hk, Kd.freshB (g := gb161) (o := .cells #[.int .i64 0, .int .i64 (Int.tmod (wrap64 (a1)) 8), .int .i64 7] 26 (0, 0)) (by (with_reducible repeat (first | refine blk_drewN ?_ _ | refine blk_drew ?_ | refine blk_alloc ?_ _)); exact BK161.out) k_ hk⟩))
                                  (case aO => exact (by (with_reducible repeat (first | apply Kd.R_alloc | apply Kd.R_drewN | apply Kd.R_drew)); exact Kd.R_mono HO185.out (fun _ hk => ⟨hk.1.2, hk.2⟩)))
                                  (case aS => exact (below_size (by repeat (first | (with_reducible first | exact HB.out | apply below_alloc | apply pw_below_drewN | apply below_drew1 | refine below_set ?_ GE160.out | refine below_set ?_ GE161.out) | exact HB.out))))
                                  (case aL => have := LMc48.out; omega)
                                  intro v191 w58 ho hb hg hat
                                  rw [← Ny190.out] at ho
                                  have n0_ := Aside0.mk (Kd.R_after (ok := (fun k_ => k_ ≠ gb161)) (by (with_reducible repeat (first | apply Kd.R_alloc | apply Kd.R_drewN | apply Kd.R_drew)); exact HO_10.out) hg hat)
                                  have n1_ := Aside0.mk (blk_grown (g := gb160) (o := .cells #[.int .u16 a0_0, .int .u16 a0_1] 23 (0, 0)) (by (with_reducible repeat (first | refine blk_drewN ?_ _ | refine blk_drew ?_ | refine blk_alloc ?_ _)); exact BK160.out) hg (Kd.R_ne HO185.out BK160.out (by decide)))
                                  have n2_ := Aside0.mk (blk_grown (g := gb161) (o := .cells #[.int .i64 0, .int .i64 (Int.tmod (wrap64 (a1)) 8), .int .i64 7] 26 (0, 0)) (by (with_reducible repeat (first | refine blk_drewN ?_ _ | refine blk_drew ?_ | refine blk_alloc ?_ _)); exact BK161.out) hg (Kd.R_away HO185.out (fun _ hk => hk.2)))
                                  have n3_ := Aside0.mk (hb)
                                  have n4_ := Aside0.mk ((show Kd.C k26 w58 (some ad181) y186.length y186 from by rw [Ny186.out]; exact Kd.C_take (m := (t180 : Int).toNat) ((Kd.R_reads' (Kd.R_after (ok := (fun k_ => k_ ≠ gb161)) (by (with_reducible repeat (first | apply Kd.R_alloc | apply Kd.R_drewN | apply Kd.R_drew)); exact HO_10.out) hg hat)).2.2) KL54.out))
                                  have n5_ := Aside0.mk ((show Kd.C k26 w58 A55 y193.length y193 from by rw [Ny193.out, KA55.out]; exact Kd.C_drop (m := ((ji49) : Int).toNat) (c := co37) ((Kd.R_reads' (Kd.R_after (ok := (fun k_ => k_ ≠ gb161)) (by (with_reducible repeat (first | apply Kd.R_alloc | apply Kd.R_drewN | apply Kd.R_drew)); exact HO_10.out) hg hat)).2.2) KL55.out ((Kd.R_reads' (Kd.R_after (ok := (fun k_ => k_ ≠ gb161)) (by (with_reducible repeat (first | apply Kd.R_alloc | apply Kd.R_drewN | apply Kd.R_drew)); exact HO_10.out) hg hat)).2.1)))
                                  have n6_ := Aside0.mk (ho)
                                  clear HO_10
                                  clear BK160
                                  clear BK161
                                  clear HB
                                  clear HR189
                                  clear HR196
                                  clear HO185
                                  have HO_10 := n0_
                                  have BK160 := n1_
                                  have BK161 := n2_
                                  have HB := n3_
                                  have HR189 := n4_
                                  have HR196 := n5_
                                  have HO192 := n6_
                                  clear n0_ n1_ n2_ n3_ n4_ n5_ n6_
                                  clear ho hb hg hat
                                  refine hK.out _ _ trivial (fun hHeld => ?_)
                                  clear hK K
                                  refine norm_ (a' := ?_) ?_ ?_
                                  rotate_left
                                  · show Act.put _ (some 104) _ = _
                                    simp only [Act.put, List.setIfInBounds_toArray, List.set_cons_zero, List.set_cons_succ, i64_w, i32_w]
                                    rfl
                                  refine one_ (i := 9) (N := some 109) #[true, true, true, true, true, true, true, true, true, true, false] rfl rfl (one_of HT_.out (by kernel_rfl)) (by decide) (fun K hK => ?_)
                                  refine Kd.R_append_rows_step k26 (w0 := w) w.heap.size (by rfl) (.tmp 104) (.tmp 108) 33 26 (.agg #[(.int .i64 0), (.int .i64 0), (.int .i64 0)]) 24 rfl Try.underlying33 info26 rfl (by decide) (by omega) v191 y190 y193 _ _ _ (fun k_ => some k_ ≠ (.slice (some ad181) x10_12.length co37 : Value).ownBlock ∧ k_ ≠ gb161) (fun _ => False) rfl rfl ?aO ?aR (fun _ _ h => h) (fun _ h => h.elim) ?aF ?aB ?aS ?aL ?_
                                  (case aR => repeat (first | exact (by repeat (first | (with_reducible exact HR196.out) | (with_reducible refine Kd.C_alloc ?_ _) | (with_reducible refine Kd.C_drewN ?_ _) | (with_reducible refine Kd.C_drew ?_) | exact HR196.out)) | (with_reducible refine Kd.C_alloc ?_ _) | (with_reducible refine Kd.C_drewN ?_ _) | (with_reducible refine Kd.C_drew ?_)))
                                  (case aB => exact (by repeat (first | (with_reducible first | exact HB.out | apply below_alloc | apply pw_below_drewN | apply below_drew1 | refine below_set ?_ GE160.out | refine below_set ?_ GE161.out) | exact HB.out)))
                                  (case aF => exact (fun k_ hk => ⟨Kd.fresh' (Kd.R_lt (by (with_reducible repeat (first | apply Kd.R_alloc | apply Kd.R_drewN | apply Kd.R_drew)); exact HO_10.out)) k_ hk, Kd.freshB (g := gb161) (o := .cells #[.int .i64 0, .int .i64 (Int.tmod (wrap64 (a1)) 8), .int .i64 7] 26 (0, 0)) (by (with_reducible repeat (first | refine blk_drewN ?_ _ | refine blk_drew ?_ | refine blk_alloc ?_ _)); exact BK161.out) k_ hk⟩))
                                  (case aO => exact (by (with_reducible repeat (first | apply Kd.R_alloc | apply Kd.R_drewN | apply Kd.R_drew)); exact HO192.out))
                                  (case aS => exact (below_size (by repeat (first | (with_reducible first | exact HB.out | apply below_alloc | apply pw_below_drewN | apply below_drew1 | refine below_set ?_ GE160.out | refine below_set ?_ GE161.out) | exact HB.out))))
                                  (case aL => have := LMc52.out; omega)
                                  intro v198 w59 ho hb hg hat
                                  rw [← Ny197.out] at ho
                                  have n0_ := Aside0.mk (Kd.R_after (ok := (fun k_ => k_ ≠ gb161)) (by (with_reducible repeat (first | apply Kd.R_alloc | apply Kd.R_drewN | apply Kd.R_drew)); exact HO_10.out) hg hat)
                                  have n1_ := Aside0.mk (blk_grown (g := gb160) (o := .cells #[.int .u16 a0_0, .int .u16 a0_1] 23 (0, 0)) (by (with_reducible repeat (first | refine blk_drewN ?_ _ | refine blk_drew ?_ | refine blk_alloc ?_ _)); exact BK160.out) hg (Kd.R_ne HO192.out BK160.out (by decide)))
                                  have n2_ := Aside0.mk (blk_grown (g := gb161) (o := .cells #[.int .i64 0, .int .i64 (Int.tmod (wrap64 (a1)) 8), .int .i64 7] 26 (0, 0)) (by (with_reducible repeat (first | refine blk_drewN ?_ _ | refine blk_drew ?_ | refine blk_alloc ?_ _)); exact BK161.out) hg (Kd.R_away HO192.out (fun _ hk => hk.2)))
                                  have n3_ := Aside0.mk (hb)
                                  have n4_ := Aside0.mk ((show Kd.C k26 w59 (some ad181) y186.length y186 from by rw [Ny186.out]; exact Kd.C_take (m := (t180 : Int).toNat) ((Kd.R_reads' (Kd.R_after (ok := (fun k_ => k_ ≠ gb161)) (by (with_reducible repeat (first | apply Kd.R_alloc | apply Kd.R_drewN | apply Kd.R_drew)); exact HO_10.out) hg hat)).2.2) KL54.out))
                                  have n5_ := Aside0.mk ((show Kd.C k26 w59 A55 y193.length y193 from by rw [Ny193.out, KA55.out]; exact Kd.C_drop (m := ((ji49) : Int).toNat) (c := co37) ((Kd.R_reads' (Kd.R_after (ok := (fun k_ => k_ ≠ gb161)) (by (with_reducible repeat (first | apply Kd.R_alloc | apply Kd.R_drewN | apply Kd.R_drew)); exact HO_10.out) hg hat)).2.2) KL55.out ((Kd.R_reads' (Kd.R_after (ok := (fun k_ => k_ ≠ gb161)) (by (with_reducible repeat (first | apply Kd.R_alloc | apply Kd.R_drewN | apply Kd.R_drew)); exact HO_10.out) hg hat)).2.1)))
                                  have n6_ := Aside0.mk (ho)
                                  clear HO_10
                                  clear BK160
                                  clear BK161
                                  clear HB
                                  clear HR189
                                  clear HR196
                                  clear HO192
                                  have HO_10 := n0_
                                  have BK160 := n1_
                                  have BK161 := n2_
                                  have HB := n3_
                                  have HR189 := n4_
                                  have HR196 := n5_
                                  have HO199 := n6_
                                  clear n0_ n1_ n2_ n3_ n4_ n5_ n6_
                                  clear ho hb hg hat
                                  refine hK.out _ _ trivial (fun hHeld => ?_)
                                  clear hK K
                                  refine norm_ (a' := ?_) ?_ ?_
                                  rotate_left
                                  · show Act.put _ (some 109) _ = _
                                    simp only [Act.put, List.setIfInBounds_toArray, List.set_cons_zero, List.set_cons_succ, i64_w, i32_w]
                                    rfl
                                  refine pure_ (i := 10) (N := some 10) (v := ?_) (a' := ?_) #[true, true, true, true, true, true, true, true, true, true, true] rfl rfl (any_of HT_.out (by kernel_rfl)) (fun _ _ _ h => h) (Or.inl ⟨by rfl, ?_⟩) ?_ ?_
                                  rotate_left
                                  · intro w'
                                    go_simp
                                    with_reducible rfl
                                  rotate_left
                                  · simp only [Act.put, List.setIfInBounds_toArray, List.set_cons_zero, List.set_cons_succ, i64_w, i32_w]
                                    rfl
                                  refine done_ (done_of HT_.out (by kernel_rfl)) ?_
                                  try go_wp2
                                  go_roundg kj35
                                  case measure => have := HK1.out; have := HJ12.out; have := HJ35.out; omega
                                  case rel => exact ⟨(y197), (x11_12), (x12_12), (wrap64 (x13_1 + 1)), (by first | rfl | (simp; done) | (simp [*]; done)), (by first | rfl | (simp; done) | (simp [*]; done)), (by first | rfl | (simp; done) | (simp [*]; done)), H', ⟨by have := HK1.out; have := HJ12.out; have := HJ35.out; omega⟩, ⟨by (with_reducible repeat (first | apply Kd.R_alloc | apply Kd.R_drewN | apply Kd.R_drew)); exact Kd.R_mono HO199.out (fun _ hk => hk.2)⟩, ⟨by (with_reducible repeat (first | refine blk_drewN ?_ _ | refine blk_drew ?_ | refine blk_alloc ?_ _)); exact BK160.out⟩, ⟨by (with_reducible repeat (first | refine blk_drewN ?_ _ | refine blk_drew ?_ | refine blk_alloc ?_ _)); exact BK161.out⟩, ⟨by repeat (first | (with_reducible first | exact HB.out | apply below_alloc | apply pw_below_drewN | apply below_drew1 | refine below_set ?_ GE160.out | refine below_set ?_ GE161.out) | exact HB.out)⟩⟩
                                · rw [if_neg c52] at H
                                  exact absurd H (by simp)
                              · rw [if_neg c51] at H
                                exact absurd H (by simp)
                            · rw [if_neg c50] at H
                              exact absurd H (by simp)
                          · rw [if_neg c48] at H
                            exact absurd H (by simp)
                        · rw [if_neg c47] at H
                          exact absurd H (by simp)
                    · rw [if_neg c42] at H
                      exact absurd H (by simp)
                  · rw [if_neg c41] at H
                    exact absurd H (by simp)
      · rw [if_neg c12] at H
        exact absurd H (by simp)

end Go.Proofs.Ytdnonlapiheenaa.PAll
