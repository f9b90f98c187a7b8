-- Printed by a program of ours (wip/common/mkprint.py), turned from the kit's print; Lean checks it.
import Derived.Test.YtholnjcfhjjphaaDoorPAllx0
import Derived.Test.YtholnjcfhjjphaaDoorPAllx1
import Derived.Test.YtholnjcfhjjphaaDoorPAllx2
import Derived.Test.YtholnjcfhjjphaaDoorPAllx3
import Derived.Test.YtholnjcfhjjphaaDoorPAllx5
namespace Go.Proofs.YtholnjcfhjjphaaDoor.PAll
open Go.Proofs.YtholnjcfhjjphaaDoor.Tz
open Go.RowKit Go.Proofs.YtholnjcfhjjphaaDoorW.PrintWords Go.Proofs.YtholnjcfhjjphaaDoorW.PrintLast Go.Proofs.YtholnjcfhjjphaaDoorW.PrintMore
attribute [local go_sem] max2_int min2_int max_two min_two max_three min_three max_four min_four   -- for this text's walks alone
set_option linter.unusedVariables false
set_option linter.unusedSimpArgs false

attribute [local go_sem high] eqA33
/-! ### remontoirref04_Without: function 17 -/
def remontoirref04_Without.l0 : Nat → Int → List Int → List Int → Int → Int → Option (Int)
  | 0, _, _, _, _, _ => none
  | k + 1, x1, x5, x9, x10, x11 => if x11 < x10 then (if 0 ≤ x11 then (if x11 < (x9.length : Int) then (if (rd x9 x11) = x1 then (remontoirref04_Without.l0 k x1 x5 x9 x10 (wrap64 (x11 + 1))) else (if x5.length < 17592186044416 then (remontoirref04_Without.l0 k x1 (x5 ++ [rd x9 x11]) x9 x10 (wrap64 (x11 + 1))) else (none))) else (none)) else (none)) else ((remontoirref04_Of.f k x5).bind fun t211 => (some t211))
def remontoirref04_Without.f (k : Nat) (a0 : Int) (a1 : Int) : Option (Int) := (remontoirref04_List.f k a0).bind fun t204 => (remontoirref04_Without.l0 k a1 ([] : List Int) t204 (t204.length : Int) 0)
theorem remontoirref04_Without.mono_l : ∀ k, (∀ y0 y1 y2 y3 y4, LeO (remontoirref04_Without.l0 k y0 y1 y2 y3 y4) (remontoirref04_Without.l0 (k + 1) y0 y1 y2 y3 y4))
  | 0 => fun _ _ _ _ _ r h => by simp [remontoirref04_Without.l0] at h
  | k + 1 => by
    have ih0 := remontoirref04_Without.mono_l k
    · intro y0 y1 y2 y3 y4
      unfold remontoirref04_Without.l0
      repeat' first
      | (with_reducible exact ih0 _ _ _ _ _)
      | (with_reducible exact remontoirref04_List.mono _ _)
      | (with_reducible exact remontoirref04_Of.mono _ _)
      | (with_reducible exact LeO.refl _)
      | (with_reducible exact LeO.none _)
      | (with_reducible refine LeO.ite ?_ ?_)
      | (with_reducible refine LeO.bind ?_ (fun _ => ?_))
      | exact ih0 _ _ _ _ _
      | exact remontoirref04_List.mono _ _
      | exact remontoirref04_Of.mono _ _
      | exact LeO.none _
      | refine LeO.ite ?_ ?_
      | refine LeO.bind ?_ (fun _ => ?_)
theorem remontoirref04_Without.mono : ∀ a0 a1 k, LeO (remontoirref04_Without.f k a0 a1) (remontoirref04_Without.f (k + 1) a0 a1) := by
  intro a0 a1 k
  have ih0 := remontoirref04_Without.mono_l k
  unfold remontoirref04_Without.f
  repeat' first
      | (with_reducible exact ih0 _ _ _ _ _)
      | (with_reducible exact remontoirref04_List.mono _ _)
      | (with_reducible exact remontoirref04_Of.mono _ _)
      | (with_reducible exact LeO.refl _)
      | (with_reducible exact LeO.none _)
      | (with_reducible refine LeO.ite ?_ ?_)
      | (with_reducible refine LeO.bind ?_ (fun _ => ?_))
      | exact ih0 _ _ _ _ _
      | exact remontoirref04_List.mono _ _
      | exact remontoirref04_Of.mono _ _
      | exact LeO.none _
      | refine LeO.ite ?_ ?_
      | refine LeO.bind ?_ (fun _ => ?_)
set_option maxHeartbeats 8000000 in
set_option maxRecDepth 100000 in
theorem remontoirref04_Without.calls (k : Nat) (a0 : Int) (a1 : Int) (r : Int) (w : World) (h : remontoirref04_Without.f k a0 a1 = some r) :
    Calls Tryd.prog 17 #[.int .u64 a0, .int .i64 a1] w fun e w' => e = .returned (.int .u64 r) ∧ Below w.heap.size w w' := by
  have HB := Aside0.mk (Below.refl w.heap.size w)
  have H : ((remontoirref04_List.f k a0).bind fun t204 => (remontoirref04_Without.l0 k a1 ([] : List Int) t204 (t204.length : Int) 0)) = some r := h
  clear h
  replace H := Option.bind_eq_some_iff.mp H
  obtain ⟨t204, A30, H⟩ := H
  replace H : (remontoirref04_Without.l0 k a1 ([] : List Int) t204 (t204.length : Int) 0) = some r := H
  have A3 := Aside0.mk A30
  clear A30
  have H' := Aside0.mk H
  clear H
  go_enter Tryd.func17, Tryd.ntmps17
  go_wp2_with (first | ((with_reducible refine gate_callee (f := 22) rfl ?_); refine goesL_ (some 9) rfl rfl Tryd.func22 (by kernel_rfl) rfl #[.int .u64 a0] rfl (by (try simp only [List.map_toArray, List.map_cons, List.map_nil]); first | done | rfl | (simp only [List.length_drop, List.length_take]; rfl)) ?_; (with_reducible refine (remontoirref04_List.calls k a0 t204 _ A3.out).mono ?_); rintro e w4 ⟨v205, rfl, ho0, hb⟩; refine ⟨_, rfl, ?_⟩; have n0_ := Aside0.mk (Kd.R_lower ho0 (below_size (by repeat (first | (with_reducible first | exact HB.out | apply below_alloc | apply pw_below_drewN | apply below_drew1) | exact HB.out)))); have n1_ := Aside0.mk (below_step (by repeat (first | (with_reducible first | exact HB.out | apply below_alloc | apply pw_below_drewN | apply below_drew1) | exact HB.out)) hb); clear HB; have HO206 := n0_; have HB := n1_; clear n0_ n1_; (try clear hb); (try clear hb2); (try clear hk); (try clear hi); (try clear ho0); obtain ⟨Ao5, co5, eo5⟩ := Kd.R_slice HO206.out; subst eo5))
  go_loopg [5, 11] k (fun kq v5 v11 w' => ∃ (x5_1 : List Int) (x11_1 : Int), v11 = .int .i64 x11_1 ∧ Aside0 (remontoirref04_Without.l0 kq a1 x5_1 t204 (t204.length : Int) x11_1 = some r) ∧ Aside0 (kq ≤ k) ∧ Aside0 (Kd.R (Kd.int .i64) 3 w' w.heap.size (fun k_ => some k_ ≠ ((.slice Ao5 t204.length co5) : Value).ownBlock) v5 x5_1) ∧ Aside0 (Kd.R (Kd.int .i64) 3 w' w.heap.size (fun k_ => some k_ ≠ (v5 : Value).ownBlock) (.slice Ao5 t204.length co5) t204) ∧ Aside0 (Below w.heap.size w w'))
  case atStart => exact ⟨(([] : List Int)), (0), (by first | rfl | (simp; done) | (simp [*]; done)), H', ⟨Nat.le_refl _⟩, ⟨by first | exact Kd.R_nil _ _ _ _ _ | exact Kd.N_nil _ _ _ _ _ | exact Kd.V_nil _ _ _ _ _ | exact Kd.Q_nil _ _ _ _ _ | exact Kd.S_nil _ _ _ _ _⟩, ⟨by (with_reducible repeat (first | apply Kd.R_alloc | apply Kd.R_drewN | apply Kd.R_drew)); exact Kd.R_mono HO206.out (fun _ hk => (by simp [Value.ownBlock]))⟩, ⟨by repeat (first | (with_reducible first | exact HB.out | apply below_alloc | apply pw_below_drewN | apply below_drew1) | exact HB.out)⟩⟩
  case round =>
    clear H'
    try clear c1
    try clear c2
    try clear p2
    obtain ⟨x5_1, x11_1, rfl, HA, HK1, HO_5, HO_9, HB⟩ := hrel
    cases gk with
    | zero => exact absurd HA.out (by simp [remontoirref04_Without.l0])
    | succ k1 =>
      have H := HA.out
      clear HA
      simp only [remontoirref04_Without.l0] at H
      by_cases c6 : x11_1 < (t204.length : Int)
      · rw [if_pos c6] at H
        have c6b0 : decide (x11_1 < (t204.length : Int)) = true := decide_eq_true c6
        clear c6
        by_cases c7 : 0 ≤ x11_1
        · rw [if_pos c7] at H
          have c7b0 : decide (0 ≤ x11_1) = true := decide_eq_true c7
          clear c7
          by_cases c8 : x11_1 < (t204.length : Int)
          · rw [if_pos c8] at H
            have c8b0 : decide (x11_1 < (t204.length : Int)) = true := decide_eq_true c8
            clear c8
            by_cases c9 : (rd t204 x11_1) = a1
            · rw [if_pos c9] at H
              have c9b0 : ((rd t204 x11_1) == a1) = true := beq_iff_eq.mpr c9
              have c9b1 : ((rd t204 x11_1) != a1) = false := bne_eq_false_iff_eq.mpr c9
              clear c9
              have H' := Aside0.mk H
              clear H
              have p207 : 0 ≤ (x11_1 : Int) := of_decide_eq_true (by first | (with_reducible assumption) | assumption)
              have q207 : x11_1 < (t204.length : Int) := of_decide_eq_true (by first | (with_reducible assumption) | assumption)
              obtain ⟨ad207, e207, hx207_0⟩ := Kd.at_int (Kd.R_reads' HO_9.out).2.2 x11_1 p207 q207
              cases e207
              replace p207 := eq_true p207
              replace q207 := eq_true q207
              go_wp2
              go_roundg k1
              case measure => have := HK1.out; omega
              case rel => exact ⟨(x5_1), (wrap64 (x11_1 + 1)), (by first | rfl | (simp; done) | (simp [*]; done)), H', ⟨by have := HK1.out; omega⟩, ⟨by (with_reducible repeat (first | apply Kd.R_alloc | apply Kd.R_drewN | apply Kd.R_drew)); exact HO_5.out⟩, ⟨by (with_reducible repeat (first | apply Kd.R_alloc | apply Kd.R_drewN | apply Kd.R_drew)); exact HO_9.out⟩, ⟨by repeat (first | (with_reducible first | exact HB.out | apply below_alloc | apply pw_below_drewN | apply below_drew1) | exact HB.out)⟩⟩
            · rw [if_neg c9] at H
              have c9b0 : ((rd t204 x11_1) == a1) = false := beq_eq_false_iff_ne.mpr c9
              have c9b1 : ((rd t204 x11_1) != a1) = true := bne_iff_ne.mpr c9
              by_cases c10 : x5_1.length < 17592186044416
              · rw [if_pos c10] at H
                have LMc10 := Aside0.mk c10
                clear c10
                obtain ⟨y208, hy208⟩ : ∃ y_ : List Int, y_ = (x5_1 ++ [rd t204 x11_1]) := ⟨_, rfl⟩
                replace H : (remontoirref04_Without.l0 k1 a1 y208 t204 (t204.length : Int) (wrap64 (x11_1 + 1))) = some r := by first | (rw [hy208]; with_reducible exact H) | (have H2_ := (Option.bind_some _ _).symm.trans H; rw [hy208]; with_reducible exact H2_) | (have H2_ := (Option.bind_some _ _).symm.trans H; with_reducible exact H2_) | with_reducible exact H | (rw [hy208]; exact H) | exact H
                have Ny208 := Aside0.mk hy208
                clear hy208
                have H' := Aside0.mk H
                clear H
                have p207 : 0 ≤ (x11_1 : Int) := of_decide_eq_true (by first | (with_reducible assumption) | assumption)
                have q207 : x11_1 < (t204.length : Int) := of_decide_eq_true (by first | (with_reducible assumption) | assumption)
                obtain ⟨ad207, e207, hx207_0⟩ := Kd.at_int (Kd.R_reads' HO_9.out).2.2 x11_1 p207 q207
                cases e207
                replace p207 := eq_true p207
                replace q207 := eq_true q207
                go_wp2_with (first | ((with_reducible refine gate_builtin (b := .append) (xs := #[.tmp 18, .tmp 20]) rfl ?_); at_builtin; refine Kd.R_append (Kd.int .i64) (w0 := w) w.heap.size rfl (.tmp 18) (.tmp 20) 28 3 (.int .i64 0) 8 rfl Tryd.underlying28 info3 rfl (by decide) (by omega) u5 x5_1 (rd t204 x11_1) [.int .i64 (rd t204 x11_1)] (fun k_ => some k_ ≠ (.slice (some ad207) t204.length co5 : Value).ownBlock) (fun _ => False) rfl rfl ?aP (fun _ hk => hk.elim) ?aF ?aO ?aB ?aS ?aL ?_; (case aP => exact rfl); (case aB => exact (by repeat (first | (with_reducible first | exact HB.out | apply below_alloc | apply pw_below_drewN | apply below_drew1) | exact HB.out))); (case aF => exact (fun k_ hk => Kd.fresh' (Kd.R_lt (by (with_reducible repeat (first | apply Kd.R_alloc | apply Kd.R_drewN | apply Kd.R_drew)); exact HO_9.out)) k_ hk)); (case aO => exact (by (with_reducible repeat (first | apply Kd.R_alloc | apply Kd.R_drewN | apply Kd.R_drew)); exact HO_5.out)); (case aS => exact (below_size (by repeat (first | (with_reducible first | exact HB.out | apply below_alloc | apply pw_below_drewN | apply below_drew1) | exact HB.out)))); (case aL => have := LMc10.out; omega); intro v209 w11 ho hb hg hat; rw [← Ny208.out] at ho; have n0_ := Aside0.mk (Kd.R_after (ok := (fun _ => True)) (by (with_reducible repeat (first | apply Kd.R_alloc | apply Kd.R_drewN | apply Kd.R_drew)); exact Kd.R_mono HO_9.out (fun _ hk => ⟨trivial, hk⟩)) hg hat); have n1_ := Aside0.mk (hb); have n2_ := Aside0.mk (ho); clear HO_9; clear HB; clear HO_5; have HO_9 := n0_; have HB := n1_; have HO210 := n2_; clear n0_ n1_ n2_; clear ho hb hg hat))
                go_roundg k1
                case measure => have := HK1.out; omega
                case rel => exact ⟨(y208), (wrap64 (x11_1 + 1)), (by first | rfl | (simp; done) | (simp [*]; done)), H', ⟨by have := HK1.out; omega⟩, ⟨by (with_reducible repeat (first | apply Kd.R_alloc | apply Kd.R_drewN | apply Kd.R_drew)); exact HO210.out⟩, ⟨by (with_reducible repeat (first | apply Kd.R_alloc | apply Kd.R_drewN | apply Kd.R_drew)); exact Kd.R_mono HO_9.out (fun _ hk => hk.2)⟩, ⟨by repeat (first | (with_reducible first | exact HB.out | apply below_alloc | apply pw_below_drewN | apply below_drew1) | exact HB.out)⟩⟩
              · rw [if_neg c10] at H
                exact absurd H (by simp)
          · rw [if_neg c8] at H
            exact absurd H (by simp)
        · rw [if_neg c7] at H
          exact absurd H (by simp)
      · rw [if_neg c6] at H
        have c6b0 : decide (x11_1 < (t204.length : Int)) = false := decide_eq_false c6
        clear c6
        replace H := Option.bind_eq_some_iff.mp H
        obtain ⟨t211, A120, H⟩ := H
        replace H : (some t211) = some r := H
        have A12 := Aside0.mk A120
        clear A120
        obtain rfl := Option.some.inj H
        obtain ⟨Ao13, co13, eo13⟩ := Kd.R_slice HO_5.out
        subst eo13
        go_wp2_with (first | ((with_reducible refine gate_callee (f := 23) rfl ?_); refine goesL_ (some 24) rfl rfl Tryd.func23 (by kernel_rfl) rfl #[.slice Ao13 x5_1.length co13] rfl (by (try simp only [List.map_toArray, List.map_cons, List.map_nil]); first | done | rfl | (simp only [List.length_drop, List.length_take]; rfl)) ?_; (with_reducible refine (remontoirref04_Of.calls k1 _ _ x5_1 t211 _ ?side1 ?side2 A12.out).mono ?_); (case side1 => repeat (first | exact (Kd.R_reads' HO_5.out).2.2 | (with_reducible refine Kd.C_alloc ?_ _) | (with_reducible refine Kd.C_drewN ?_ _) | (with_reducible refine Kd.C_drew ?_))); (case side2 => exact (Kd.R_reads' HO_5.out).2.1); rintro e w14 ⟨rfl, hb⟩; refine ⟨_, rfl, ?_⟩; have n0_ := Aside0.mk (Kd.R_below (by (with_reducible repeat (first | apply Kd.R_alloc | apply Kd.R_drewN | apply Kd.R_drew)); exact HO_5.out) hb); have n1_ := Aside0.mk (Kd.R_below (by (with_reducible repeat (first | apply Kd.R_alloc | apply Kd.R_drewN | apply Kd.R_drew)); exact HO_9.out) hb); have n2_ := Aside0.mk (below_step (by repeat (first | (with_reducible first | exact HB.out | apply below_alloc | apply pw_below_drewN | apply below_drew1) | exact HB.out)) hb); clear HO_5; clear HO_9; clear HB; have HO_5 := n0_; have HO_9 := n1_; have HB := n2_; clear n0_ n1_ n2_; (try clear hb); (try clear hb2); (try clear hk); (try clear hi)))
        go_ret
        exact ⟨by first | rfl | (simp [errW_none, errW_some] <;> rfl) | (simp [*, errW_none, errW_some] <;> rfl), by repeat (first | (with_reducible first | exact HB.out | apply below_alloc | apply pw_below_drewN | apply below_drew1) | exact HB.out)⟩

/-! ### remontoirref04_Next: function 19 -/
def remontoirref04_Next.l0 : Nat → Int → List Int → Int → Int → Option (Int × Bool)
  | 0, _, _, _, _ => none
  | k + 1, x1, x8, x9, x10 => if x10 < x9 then (if 0 ≤ x10 then (if x10 < (x8.length : Int) then (if (rd x8 x10) ≥ x1 then (some (rd x8 x10, true)) else (remontoirref04_Next.l0 k x1 x8 x9 (wrap64 (x10 + 1)))) else (none)) else (none)) else (some (0, false))
def remontoirref04_Next.f (k : Nat) (a0 : Int) (a1 : Int) : Option (Int × Bool) := (remontoirref04_List.f k a0).bind fun t213 => (remontoirref04_Next.l0 k a1 t213 (t213.length : Int) 0)
theorem remontoirref04_Next.mono_l : ∀ k, (∀ y0 y1 y2 y3, LeO (remontoirref04_Next.l0 k y0 y1 y2 y3) (remontoirref04_Next.l0 (k + 1) y0 y1 y2 y3))
  | 0 => fun _ _ _ _ r h => by simp [remontoirref04_Next.l0] at h
  | k + 1 => by
    have ih0 := remontoirref04_Next.mono_l k
    · intro y0 y1 y2 y3
      unfold remontoirref04_Next.l0
      repeat' first
      | (with_reducible exact ih0 _ _ _ _)
      | (with_reducible exact remontoirref04_List.mono _ _)
      | (with_reducible exact LeO.refl _)
      | (with_reducible exact LeO.none _)
      | (with_reducible refine LeO.ite ?_ ?_)
      | (with_reducible refine LeO.bind ?_ (fun _ => ?_))
      | exact ih0 _ _ _ _
      | exact remontoirref04_List.mono _ _
      | exact LeO.none _
      | refine LeO.ite ?_ ?_
      | refine LeO.bind ?_ (fun _ => ?_)
theorem remontoirref04_Next.mono : ∀ a0 a1 k, LeO (remontoirref04_Next.f k a0 a1) (remontoirref04_Next.f (k + 1) a0 a1) := by
  intro a0 a1 k
  have ih0 := remontoirref04_Next.mono_l k
  unfold remontoirref04_Next.f
  repeat' first
      | (with_reducible exact ih0 _ _ _ _)
      | (with_reducible exact remontoirref04_List.mono _ _)
      | (with_reducible exact LeO.refl _)
      | (with_reducible exact LeO.none _)
      | (with_reducible refine LeO.ite ?_ ?_)
      | (with_reducible refine LeO.bind ?_ (fun _ => ?_))
      | exact ih0 _ _ _ _
      | exact remontoirref04_List.mono _ _
      | exact LeO.none _
      | refine LeO.ite ?_ ?_
      | refine LeO.bind ?_ (fun _ => ?_)
set_option maxHeartbeats 8000000 in
set_option maxRecDepth 100000 in
theorem remontoirref04_Next.calls (k : Nat) (a0 : Int) (a1 : Int) (r1 : Int) (r2 : Bool) (w : World) (h : remontoirref04_Next.f k a0 a1 = some (r1, r2)) :
    Calls Tryd.prog 19 #[.int .u64 a0, .int .i64 a1] w fun e w' => e = .returned (.agg #[.int .i64 r1, .bool r2]) ∧ Below w.heap.size w w' := by
  have hu33 := Tryd.underlying33
  have HB := Aside0.mk (Below.refl w.heap.size w)
  have H : ((remontoirref04_List.f k a0).bind fun t213 => (remontoirref04_Next.l0 k a1 t213 (t213.length : Int) 0)) = some (r1, r2) := h
  clear h
  replace H := Option.bind_eq_some_iff.mp H
  obtain ⟨t213, A30, H⟩ := H
  replace H : (remontoirref04_Next.l0 k a1 t213 (t213.length : Int) 0) = some (r1, r2) := H
  have A3 := Aside0.mk A30
  clear A30
  have H' := Aside0.mk H
  clear H
  go_enter Tryd.func19, Tryd.ntmps19
  go_wp2_with (first | ((with_reducible refine gate_dst (N := 4) rfl ?_); refine box_event ?hg (N := 4) ?hd (cs := #[.int .i64 0, .bool false]) (t := 33) ?hr ?_; (case hd => rfl); (case hg => rfl); (case hr => first | (go_simp; done) | (go_simp; rfl)); intro gb212 hg w4 hbox hb; have n0_ := Aside0.mk (below_step (by repeat (first | (with_reducible first | exact HB.out | apply below_alloc | apply pw_below_drewN | apply below_drew1) | exact HB.out)) hb); have n1_ := Aside0.mk (hbox); have n2_ := Aside0.mk ((by rw [hg]; exact (below_size (by repeat (first | (with_reducible first | exact HB.out | apply below_alloc | apply pw_below_drewN | apply below_drew1) | exact HB.out))) : w.heap.size ≤ gb212)); have n3_ := Aside0.mk ((by rw [hg]; exact (below_size (by repeat (first | (with_reducible first | exact HB.out | apply below_alloc | apply pw_below_drewN | apply below_drew1) | exact HB.out))) : w.heap.size ≤ gb212)); clear HB; have HB := n0_; have BK212 := n1_; have GW212 := n2_; have GE212 := n3_; clear n0_ n1_ n2_ n3_; clear hb hbox hg) | ((with_reducible refine gate_callee (f := 22) rfl ?_); refine goesL_ (some 8) rfl rfl Tryd.func22 (by kernel_rfl) rfl #[.int .u64 a0] rfl (by (try simp only [List.map_toArray, List.map_cons, List.map_nil]); first | done | rfl | (simp only [List.length_drop, List.length_take]; rfl)) ?_; (with_reducible refine (remontoirref04_List.calls k a0 t213 _ A3.out).mono ?_); rintro e w5 ⟨v214, rfl, ho0, hb⟩; refine ⟨_, rfl, ?_⟩; have n0_ := Aside0.mk (Kd.R_lower ho0 (below_size (by repeat (first | (with_reducible first | exact HB.out | apply below_alloc | apply pw_below_drewN | apply below_drew1 | refine below_set ?_ GE212.out) | exact HB.out)))); have n1_ := Aside0.mk (blk_below (g := gb212) (o := .cells #[.int .i64 0, .bool false] 33 (0, 0)) (by (with_reducible repeat (first | refine blk_drewN ?_ _ | refine blk_drew ?_ | refine blk_alloc ?_ _)); exact BK212.out) hb); have n2_ := Aside0.mk (below_step (by repeat (first | (with_reducible first | exact HB.out | apply below_alloc | apply pw_below_drewN | apply below_drew1 | refine below_set ?_ GE212.out) | exact HB.out)) hb); clear BK212; clear HB; have HO215 := n0_; have BK212 := n1_; have HB := n2_; clear n0_ n1_ n2_; (try clear hb); (try clear hb2); (try clear hk); (try clear hi); (try clear ho0); obtain ⟨Ao6, co6, eo6⟩ := Kd.R_slice HO215.out; subst eo6))
  go_loopg [10] k (fun kq v10 w' => ∃ (x10_1 : Int) (x213000_1 : Int) (x213001_1 : Bool), v10 = .int .i64 x10_1 ∧ Aside0 (remontoirref04_Next.l0 kq a1 t213 (t213.length : Int) x10_1 = some (r1, r2)) ∧ Aside0 (kq ≤ k) ∧ Aside0 (Kd.R (Kd.int .i64) 3 w' w.heap.size (fun _ => True) (.slice Ao6 t213.length co6) t213) ∧ Aside0 (w'.heap[gb212]? = some (.cells #[.int .i64 x213000_1, .bool x213001_1] 33 (0, 0))) ∧ Aside0 (Below w.heap.size w w'))
  case atStart => exact ⟨(0), (0), (false), (by first | rfl | (simp; done) | (simp [*]; done)), H', ⟨Nat.le_refl _⟩, ⟨by (with_reducible repeat (first | apply Kd.R_alloc | apply Kd.R_drewN | apply Kd.R_drew)); exact HO215.out⟩, ⟨by (with_reducible repeat (first | refine blk_drewN ?_ _ | refine blk_drew ?_ | refine blk_alloc ?_ _)); exact BK212.out⟩, ⟨by repeat (first | (with_reducible first | exact HB.out | apply below_alloc | apply pw_below_drewN | apply below_drew1 | refine below_set ?_ GE212.out) | exact HB.out)⟩⟩
  case round =>
    clear H'
    try clear c1
    try clear c2
    try clear p2
    obtain ⟨x10_1, x213000_1, x213001_1, rfl, HA, HK1, HO_8, BK212, HB⟩ := hrel
    cases gk with
    | zero => exact absurd HA.out (by simp [remontoirref04_Next.l0])
    | succ k1 =>
      have H := HA.out
      clear HA
      simp only [remontoirref04_Next.l0] at H
      by_cases c7 : x10_1 < (t213.length : Int)
      · rw [if_pos c7] at H
        have c7b0 : decide (x10_1 < (t213.length : Int)) = true := decide_eq_true c7
        clear c7
        by_cases c8 : 0 ≤ x10_1
        · rw [if_pos c8] at H
          have c8b0 : decide (0 ≤ x10_1) = true := decide_eq_true c8
          clear c8
          by_cases c9 : x10_1 < (t213.length : Int)
          · rw [if_pos c9] at H
            have c9b0 : decide (x10_1 < (t213.length : Int)) = true := decide_eq_true c9
            clear c9
            by_cases c10 : (rd t213 x10_1) ≥ a1
            · rw [if_pos c10] at H
              have c10b0 : decide (a1 ≤ (rd t213 x10_1)) = true := decide_eq_true c10
              clear c10
              simp only [Option.some.injEq, Prod.mk.injEq] at H
              obtain ⟨rfl, rfl⟩ := H
              have p216 : 0 ≤ (x10_1 : Int) := of_decide_eq_true (by first | (with_reducible assumption) | assumption)
              have q216 : x10_1 < (t213.length : Int) := of_decide_eq_true (by first | (with_reducible assumption) | assumption)
              obtain ⟨ad216, e216, hx216_0⟩ := Kd.at_int (Kd.R_reads' HO_8.out).2.2 x10_1 p216 q216
              cases e216
              replace p216 := eq_true p216
              replace q216 := eq_true q216
              have hcz11_0 : wr.cell? ⟨gb212, 0, none⟩ = some (.int .i64 x213000_1) := (blk_cell BK212.out 0).trans rfl
              have hcz11_1 : wr.cell? ⟨gb212, 1, none⟩ = some (.bool x213001_1) := (blk_cell BK212.out 1).trans rfl
              have hfz11_0 := blk_frozen BK212.out 0
              have hfz11_1 := blk_frozen BK212.out 1
              go_wp2
              refine bodyPost_ret (results_cell_row rfl _ _ gb212 33 #[.int .i64 (rd t213 x10_1), .bool true] (0, 0) _ rfl (by (with_reducible repeat (first | refine blk_drewN ?_ _ | refine blk_drew ?_ | refine blk_alloc ?_ _)); refine blk_put (cs := #[.int .i64 (rd t213 x10_1), .bool x213001_1]) ?_ 1 _ rfl; (with_reducible repeat (first | refine blk_drewN ?_ _ | refine blk_drew ?_ | refine blk_alloc ?_ _)); refine blk_put (cs := #[.int .i64 x213000_1, .bool x213001_1]) ?_ 0 _ rfl; (with_reducible repeat (first | refine blk_drewN ?_ _ | refine blk_drew ?_ | refine blk_alloc ?_ _)); exact BK212.out) Tryd.underlying33 rfl (by kernel_rfl)) rfl ?_
              exact ⟨by first | rfl | (simp [errW_none, errW_some] <;> rfl) | (simp [*, errW_none, errW_some] <;> rfl), by repeat (first | (with_reducible first | exact HB.out | apply below_alloc | apply pw_below_drewN | apply below_drew1 | refine below_set ?_ GE212.out) | exact HB.out)⟩
            · rw [if_neg c10] at H
              have c10b0 : decide (a1 ≤ (rd t213 x10_1)) = false := decide_eq_false c10
              clear c10
              have H' := Aside0.mk H
              clear H
              have p216 : 0 ≤ (x10_1 : Int) := of_decide_eq_true (by first | (with_reducible assumption) | assumption)
              have q216 : x10_1 < (t213.length : Int) := of_decide_eq_true (by first | (with_reducible assumption) | assumption)
              obtain ⟨ad216, e216, hx216_0⟩ := Kd.at_int (Kd.R_reads' HO_8.out).2.2 x10_1 p216 q216
              cases e216
              replace p216 := eq_true p216
              replace q216 := eq_true q216
              go_wp2
              go_roundg k1
              case measure => have := HK1.out; omega
              case rel => exact ⟨(wrap64 (x10_1 + 1)), (x213000_1), (x213001_1), (by first | rfl | (simp; done) | (simp [*]; done)), H', ⟨by have := HK1.out; omega⟩, ⟨by (with_reducible repeat (first | apply Kd.R_alloc | apply Kd.R_drewN | apply Kd.R_drew)); exact HO_8.out⟩, ⟨by (with_reducible repeat (first | refine blk_drewN ?_ _ | refine blk_drew ?_ | refine blk_alloc ?_ _)); exact BK212.out⟩, ⟨by repeat (first | (with_reducible first | exact HB.out | apply below_alloc | apply pw_below_drewN | apply below_drew1 | refine below_set ?_ GE212.out) | exact HB.out)⟩⟩
          · rw [if_neg c9] at H
            exact absurd H (by simp)
        · rw [if_neg c8] at H
          exact absurd H (by simp)
      · rw [if_neg c7] at H
        have c7b0 : decide (x10_1 < (t213.length : Int)) = false := decide_eq_false c7
        clear c7
        simp only [Option.some.injEq, Prod.mk.injEq] at H
        obtain ⟨rfl, rfl⟩ := H
        have hcz12_0 : wr.cell? ⟨gb212, 0, none⟩ = some (.int .i64 x213000_1) := (blk_cell BK212.out 0).trans rfl
        have hcz12_1 : wr.cell? ⟨gb212, 1, none⟩ = some (.bool x213001_1) := (blk_cell BK212.out 1).trans rfl
        have hfz12_0 := blk_frozen BK212.out 0
        have hfz12_1 := blk_frozen BK212.out 1
        go_wp2
        refine bodyPost_ret (results_cell_row rfl _ _ gb212 33 #[.int .i64 0, .bool false] (0, 0) _ rfl (by (with_reducible repeat (first | refine blk_drewN ?_ _ | refine blk_drew ?_ | refine blk_alloc ?_ _)); refine blk_put (cs := #[.int .i64 0, .bool x213001_1]) ?_ 1 _ rfl; (with_reducible repeat (first | refine blk_drewN ?_ _ | refine blk_drew ?_ | refine blk_alloc ?_ _)); refine blk_put (cs := #[.int .i64 x213000_1, .bool x213001_1]) ?_ 0 _ rfl; (with_reducible repeat (first | refine blk_drewN ?_ _ | refine blk_drew ?_ | refine blk_alloc ?_ _)); exact BK212.out) Tryd.underlying33 rfl (by kernel_rfl)) rfl ?_
        exact ⟨by first | rfl | (simp [errW_none, errW_some] <;> rfl) | (simp [*, errW_none, errW_some] <;> rfl), by repeat (first | (with_reducible first | exact HB.out | apply below_alloc | apply pw_below_drewN | apply below_drew1 | refine below_set ?_ GE212.out) | exact HB.out)⟩

/-! ### remontoirref04_Round: function 20 -/
def remontoirref04_Round.j0 : Nat → Int → Int → Bool → Option (Int × Bool)
  | 0, _, _, _ => none
  | k + 1, x0, x1, x11 => if x11 = true then (some (0, false)) else ((remontoirref04_Next.f k x0 x1).bind fun bt218 => (if bt218.2 = true then (some (bt218.1, bt218.2)) else ((remontoirref04_Next.f k x0 0).bind fun bt221 => (some (bt221.1, bt221.2)))))
def remontoirref04_Round.f (k : Nat) (a0 : Int) (a1 : Int) : Option (Int × Bool) := if a1 < 0 then (remontoirref04_Round.j0 k a0 a1 true) else (remontoirref04_Round.j0 k a0 a1 (decide (a1 ≥ 64)))
theorem remontoirref04_Round.mono_l : ∀ k, (∀ y0 y1 y2, LeO (remontoirref04_Round.j0 k y0 y1 y2) (remontoirref04_Round.j0 (k + 1) y0 y1 y2))
  | 0 => fun _ _ _ r h => by simp [remontoirref04_Round.j0] at h
  | k + 1 => by
    have ih0 := remontoirref04_Round.mono_l k
    · intro y0 y1 y2
      unfold remontoirref04_Round.j0
      repeat' first
      | (with_reducible exact ih0 _ _ _)
      | (with_reducible exact remontoirref04_Next.mono _ _ _)
      | (with_reducible exact LeO.refl _)
      | (with_reducible exact LeO.none _)
      | (with_reducible refine LeO.ite ?_ ?_)
      | (with_reducible refine LeO.bind ?_ (fun _ => ?_))
      | exact ih0 _ _ _
      | exact remontoirref04_Next.mono _ _ _
      | exact LeO.none _
      | refine LeO.ite ?_ ?_
      | refine LeO.bind ?_ (fun _ => ?_)
theorem remontoirref04_Round.mono : ∀ a0 a1 k, LeO (remontoirref04_Round.f k a0 a1) (remontoirref04_Round.f (k + 1) a0 a1) := by
  intro a0 a1 k
  have ih0 := remontoirref04_Round.mono_l k
  unfold remontoirref04_Round.f
  repeat' first
      | (with_reducible exact ih0 _ _ _)
      | (with_reducible exact remontoirref04_Next.mono _ _ _)
      | (with_reducible exact LeO.refl _)
      | (with_reducible exact LeO.none _)
      | (with_reducible refine LeO.ite ?_ ?_)
      | (with_reducible refine LeO.bind ?_ (fun _ => ?_))
      | exact ih0 _ _ _
      | exact remontoirref04_Next.mono _ _ _
      | exact LeO.none _
      | refine LeO.ite ?_ ?_
      | refine LeO.bind ?_ (fun _ => ?_)
set_option maxHeartbeats 8000000 in
set_option maxRecDepth 100000 in
theorem remontoirref04_Round.calls (k : Nat) (a0 : Int) (a1 : Int) (r1 : Int) (r2 : Bool) (w : World) (h : remontoirref04_Round.f k a0 a1 = some (r1, r2)) :
    Calls Tryd.prog 20 #[.int .u64 a0, .int .i64 a1] w fun e w' => e = .returned (.agg #[.int .i64 r1, .bool r2]) ∧ Below w.heap.size w w' := by
  have hu33 := Tryd.underlying33
  have HB := Aside0.mk (Below.refl w.heap.size w)
  have H : (if a1 < 0 then (remontoirref04_Round.j0 k a0 a1 true) else (remontoirref04_Round.j0 k a0 a1 (decide (a1 ≥ 64)))) = some (r1, r2) := h
  clear h
  have HC3 := Aside0.mk H
  clear H
  go_enter Tryd.func20, Tryd.ntmps20
  go_upto_region 1 with (first | ((with_reducible refine gate_dst (N := 4) rfl ?_); refine box_event ?hg (N := 4) ?hd (cs := #[.int .i64 0, .bool false]) (t := 33) ?hr ?_; (case hd => rfl); (case hg => rfl); (case hr => first | (go_simp; done) | (go_simp; rfl)); intro gb217 hg w4 hbox hb; have n0_ := Aside0.mk (below_step (by repeat (first | (with_reducible first | exact HB.out | apply below_alloc | apply pw_below_drewN | apply below_drew1) | exact HB.out)) hb); have n1_ := Aside0.mk (hbox); have n2_ := Aside0.mk ((by rw [hg]; exact (below_size (by repeat (first | (with_reducible first | exact HB.out | apply below_alloc | apply pw_below_drewN | apply below_drew1) | exact HB.out))) : w.heap.size ≤ gb217)); have n3_ := Aside0.mk ((by rw [hg]; exact (below_size (by repeat (first | (with_reducible first | exact HB.out | apply below_alloc | apply pw_below_drewN | apply below_drew1) | exact HB.out))) : w.heap.size ≤ gb217)); clear HB; have HB := n0_; have BK217 := n1_; have GW217 := n2_; have GE217 := n3_; clear n0_ n1_ n2_ n3_; clear hb hbox hg))
  (try simp only [Act.put, List.setIfInBounds_toArray, List.set_cons_zero, List.set_cons_succ])
  go_cut [11] (fun v11 wc => ∃ (kq : Nat) (x11_2 : Bool), v11 = .bool x11_2 ∧ Aside0 (remontoirref04_Round.j0 kq a0 a1 x11_2 = some (r1, r2)) ∧ Aside0 (kq ≤ k) ∧ Aside0 (wc.heap[gb217]? = some (.cells #[.int .i64 0, .bool false] 33 (0, 0))) ∧ Aside0 (Below w.heap.size w wc))
  case first =>
    have H := HC3.out
    clear HC3
    by_cases c5 : a1 < 0
    · rw [if_pos c5] at H
      have c5b0 : decide (a1 < 0) = true := decide_eq_true c5
      clear c5
      (first | rw [c5b0] | (simp only [i64_w, i32_w]; rw [c5b0]) | skip)
      have H' := Aside0.mk H
      clear H
      go_wp2
      go_meet
      case rel => exact ⟨_, (true), (by first | rfl | (simp; done) | (simp [*]; done)), H', ⟨by first | omega | exact Nat.le_refl _⟩, ⟨by (with_reducible repeat (first | refine blk_drewN ?_ _ | refine blk_drew ?_ | refine blk_alloc ?_ _)); exact BK217.out⟩, ⟨by repeat (first | (with_reducible first | exact HB.out | apply below_alloc | apply pw_below_drewN | apply below_drew1 | refine below_set ?_ GE217.out) | exact HB.out)⟩⟩
    · rw [if_neg c5] at H
      have c5b0 : decide (a1 < 0) = false := decide_eq_false c5
      clear c5
      (first | rw [c5b0] | (simp only [i64_w, i32_w]; rw [c5b0]) | skip)
      have H' := Aside0.mk H
      clear H
      go_wp2
      go_meet
      case rel => exact ⟨_, (decide (a1 ≥ 64)), (by first | rfl | (simp; done) | (simp [*]; done)), H', ⟨by first | omega | exact Nat.le_refl _⟩, ⟨by (with_reducible repeat (first | refine blk_drewN ?_ _ | refine blk_drew ?_ | refine blk_alloc ?_ _)); exact BK217.out⟩, ⟨by repeat (first | (with_reducible first | exact HB.out | apply below_alloc | apply pw_below_drewN | apply below_drew1 | refine below_set ?_ GE217.out) | exact HB.out)⟩⟩
  case rest =>
    clear HC3
    try clear c2
    try clear p2
    try clear c5
    try clear c5b0
    obtain ⟨kq, x11_2, rfl, HA, HJ2, BK217, HB⟩ := hcut
    cases kq with
    | zero => exact absurd HA.out (by simp [remontoirref04_Round.j0])
    | succ kj2 =>
      have H := HA.out
      clear HA
      simp only [remontoirref04_Round.j0] at H
      by_cases c6 : x11_2 = true
      · subst c6
        have H1 : (some (0, false)) = some (r1, r2) := by rw [if_pos rfl] at H; exact H
        clear H
        have H := H1
        clear H1
        simp only [Option.some.injEq, Prod.mk.injEq] at H
        obtain ⟨rfl, rfl⟩ := H
        have hcz7_0 : wc.cell? ⟨gb217, 0, none⟩ = some (.int .i64 0) := (blk_cell BK217.out 0).trans rfl
        have hcz7_1 : wc.cell? ⟨gb217, 1, none⟩ = some (.bool false) := (blk_cell BK217.out 1).trans rfl
        have hfz7_0 := blk_frozen BK217.out 0
        have hfz7_1 := blk_frozen BK217.out 1
        go_wp2
        refine bodyPost_ret (results_cell_row rfl _ _ gb217 33 #[.int .i64 0, .bool false] (0, 0) _ rfl (by (with_reducible repeat (first | refine blk_drewN ?_ _ | refine blk_drew ?_ | refine blk_alloc ?_ _)); refine blk_put (cs := #[.int .i64 0, .bool false]) ?_ 1 _ rfl; (with_reducible repeat (first | refine blk_drewN ?_ _ | refine blk_drew ?_ | refine blk_alloc ?_ _)); refine blk_put (cs := #[.int .i64 0, .bool false]) ?_ 0 _ rfl; (with_reducible repeat (first | refine blk_drewN ?_ _ | refine blk_drew ?_ | refine blk_alloc ?_ _)); exact BK217.out) Tryd.underlying33 rfl (by kernel_rfl)) rfl ?_
        exact ⟨by first | rfl | (simp [errW_none, errW_some] <;> rfl) | (simp [*, errW_none, errW_some] <;> rfl), by repeat (first | (with_reducible first | exact HB.out | apply below_alloc | apply pw_below_drewN | apply below_drew1 | refine below_set ?_ GE217.out) | exact HB.out)⟩
      · replace c6 := Bool.eq_false_iff.mpr c6
        subst c6
        have H1 : ((remontoirref04_Next.f kj2 a0 a1).bind fun bt218 => (if bt218.2 = true then (some (bt218.1, bt218.2)) else ((remontoirref04_Next.f kj2 a0 0).bind fun bt221 => (some (bt221.1, bt221.2))))) = some (r1, r2) := by rw [if_neg (show ¬ (false = true) by decide)] at H; exact H
        clear H
        have H := H1
        clear H1
        replace H := Option.bind_eq_some_iff.mp H
        obtain ⟨⟨t218, t219⟩, A80, H⟩ := H
        replace H : (if t219 = true then (some (t218, t219)) else ((remontoirref04_Next.f kj2 a0 0).bind fun bt221 => (some (bt221.1, bt221.2)))) = some (r1, r2) := H
        have A8 := Aside0.mk A80
        clear A80
        by_cases c9 : t219 = true
        · subst c9
          have H1 : (some (t218, true)) = some (r1, r2) := by rw [if_pos rfl] at H; exact H
          clear H
          have H := H1
          clear H1
          simp only [Option.some.injEq, Prod.mk.injEq] at H
          obtain ⟨rfl, rfl⟩ := H
          go_wp2_with (first | ((with_reducible refine gate_callee (f := 19) rfl ?_); refine goesL_ (some 15) rfl rfl Tryd.func19 (by kernel_rfl) rfl #[.int .u64 a0, .int .i64 a1] rfl (by (try simp only [List.map_toArray, List.map_cons, List.map_nil]); first | done | rfl | (simp only [List.length_drop, List.length_take]; rfl)) ?_; (with_reducible refine (remontoirref04_Next.calls kj2 a0 a1 t218 true _ A8.out).mono ?_); rintro e w10 ⟨rfl, hb⟩; refine ⟨_, rfl, ?_⟩; have n0_ := Aside0.mk (blk_below (g := gb217) (o := .cells #[.int .i64 0, .bool false] 33 (0, 0)) (by (with_reducible repeat (first | refine blk_drewN ?_ _ | refine blk_drew ?_ | refine blk_alloc ?_ _)); exact BK217.out) hb); have n1_ := Aside0.mk (below_step (by repeat (first | (with_reducible first | exact HB.out | apply below_alloc | apply pw_below_drewN | apply below_drew1 | refine below_set ?_ GE217.out) | exact HB.out)) hb); clear BK217; clear HB; have BK217 := n0_; have HB := n1_; clear n0_ n1_; (try clear hb); (try clear hb2); (try clear hk); (try clear hi)) | ((with_reducible refine gate_dst (N := 5) rfl ?_); refine box_event ?hg (N := 5) ?hd (cs := #[.int .i64 0, .bool false]) (t := 33) ?hr ?_; (case hd => rfl); (case hg => rfl); (case hr => first | (go_simp; done) | (go_simp; rfl)); intro gb220 hg w11 hbox hb; have n0_ := Aside0.mk (blk_below (g := gb217) (o := .cells #[.int .i64 0, .bool false] 33 (0, 0)) (by (with_reducible repeat (first | refine blk_drewN ?_ _ | refine blk_drew ?_ | refine blk_alloc ?_ _)); exact BK217.out) hb); have n1_ := Aside0.mk (below_step (by repeat (first | (with_reducible first | exact HB.out | apply below_alloc | apply pw_below_drewN | apply below_drew1 | refine below_set ?_ GE217.out) | exact HB.out)) hb); have n2_ := Aside0.mk (hbox); have n3_ := Aside0.mk ((by rw [hg]; exact (below_size (by repeat (first | (with_reducible first | exact HB.out | apply below_alloc | apply pw_below_drewN | apply below_drew1 | refine below_set ?_ GE217.out) | exact HB.out))) : w.heap.size ≤ gb220)); have n4_ := Aside0.mk ((by rw [hg]; exact (below_size (by repeat (first | (with_reducible first | exact HB.out | apply below_alloc | apply pw_below_drewN | apply below_drew1 | refine below_set ?_ GE217.out) | exact HB.out))) : w.heap.size ≤ gb220)); have n5_ := Aside0.mk ((by rw [hg]; exact Nat.ne_of_lt (blk_lt (g := gb217) (o := .cells #[.int .i64 0, .bool false] 33 (0, 0)) (by (with_reducible repeat (first | refine blk_drewN ?_ _ | refine blk_drew ?_ | refine blk_alloc ?_ _)); exact BK217.out)) : gb217 ≠ gb220)); have n6_ := Aside0.mk ((by rw [hg]; exact Nat.ne_of_gt (blk_lt (g := gb217) (o := .cells #[.int .i64 0, .bool false] 33 (0, 0)) (by (with_reducible repeat (first | refine blk_drewN ?_ _ | refine blk_drew ?_ | refine blk_alloc ?_ _)); exact BK217.out)) : gb220 ≠ gb217)); clear BK217; clear HB; have BK217 := n0_; have HB := n1_; have BK220 := n2_; have GW220 := n3_; have GE220 := n4_; have NB217_220 := n5_; have NB220_217 := n6_; clear n0_ n1_ n2_ n3_ n4_ n5_ n6_; clear hb hbox hg; have hnb12 := NB220_217.out; have hnc12 := NB217_220.out; have hcz13_0 : w11.cell? ⟨gb220, 0, none⟩ = some (.int .i64 0) := (blk_cell BK220.out 0).trans rfl; have hcz13_1 : w11.cell? ⟨gb220, 1, none⟩ = some (.bool false) := (blk_cell BK220.out 1).trans rfl; have hfz13_0 := blk_frozen BK220.out 0; have hfz13_1 := blk_frozen BK220.out 1; have hcz14_0 : w11.cell? ⟨gb217, 0, none⟩ = some (.int .i64 0) := (blk_cell BK217.out 0).trans rfl; have hcz14_1 : w11.cell? ⟨gb217, 1, none⟩ = some (.bool false) := (blk_cell BK217.out 1).trans rfl; have hfz14_0 := blk_frozen BK217.out 0; have hfz14_1 := blk_frozen BK217.out 1))
          refine bodyPost_ret (results_cell_row rfl _ _ gb217 33 #[.int .i64 t218, .bool true] (0, 0) _ rfl (by (with_reducible repeat (first | refine blk_drewN ?_ _ | refine blk_drew ?_ | refine blk_alloc ?_ _)); refine blk_put (cs := #[.int .i64 t218, .bool false]) ?_ 1 _ rfl; (with_reducible repeat (first | refine blk_drewN ?_ _ | refine blk_drew ?_ | refine blk_alloc ?_ _)); refine blk_put (cs := #[.int .i64 0, .bool false]) ?_ 0 _ rfl; (with_reducible repeat (first | refine blk_drewN ?_ _ | refine blk_drew ?_ | refine blk_alloc ?_ _)); refine blk_far ?_ NB217_220.out _; (with_reducible repeat (first | refine blk_drewN ?_ _ | refine blk_drew ?_ | refine blk_alloc ?_ _)); refine blk_far ?_ NB217_220.out _; (with_reducible repeat (first | refine blk_drewN ?_ _ | refine blk_drew ?_ | refine blk_alloc ?_ _)); exact BK217.out) Tryd.underlying33 rfl (by kernel_rfl)) rfl ?_
          exact ⟨by first | rfl | (simp [errW_none, errW_some] <;> rfl) | (simp [*, errW_none, errW_some] <;> rfl), by repeat (first | (with_reducible first | exact HB.out | apply below_alloc | apply pw_below_drewN | apply below_drew1 | refine below_set ?_ GE217.out | refine below_set ?_ GE220.out) | exact HB.out)⟩
        · replace c9 := Bool.eq_false_iff.mpr c9
          subst c9
          have H1 : ((remontoirref04_Next.f kj2 a0 0).bind fun bt221 => (some (bt221.1, bt221.2))) = some (r1, r2) := by rw [if_neg (show ¬ (false = true) by decide)] at H; exact H
          clear H
          have H := H1
          clear H1
          replace H := Option.bind_eq_some_iff.mp H
          obtain ⟨⟨t221, t222⟩, A150, H⟩ := H
          replace H : (some (t221, t222)) = some (r1, r2) := H
          have A15 := Aside0.mk A150
          clear A150
          simp only [Option.some.injEq, Prod.mk.injEq] at H
          obtain ⟨rfl, rfl⟩ := H
          go_wp2_with (first | ((with_reducible refine gate_callee (f := 19) rfl ?_); refine goesL_ (some 15) rfl rfl Tryd.func19 (by kernel_rfl) rfl #[.int .u64 a0, .int .i64 a1] rfl (by (try simp only [List.map_toArray, List.map_cons, List.map_nil]); first | done | rfl | (simp only [List.length_drop, List.length_take]; rfl)) ?_; (with_reducible refine (remontoirref04_Next.calls kj2 a0 a1 t218 false _ A8.out).mono ?_); rintro e w16 ⟨rfl, hb⟩; refine ⟨_, rfl, ?_⟩; have n0_ := Aside0.mk (blk_below (g := gb217) (o := .cells #[.int .i64 0, .bool false] 33 (0, 0)) (by (with_reducible repeat (first | refine blk_drewN ?_ _ | refine blk_drew ?_ | refine blk_alloc ?_ _)); exact BK217.out) hb); have n1_ := Aside0.mk (below_step (by repeat (first | (with_reducible first | exact HB.out | apply below_alloc | apply pw_below_drewN | apply below_drew1 | refine below_set ?_ GE217.out) | exact HB.out)) hb); clear BK217; clear HB; have BK217 := n0_; have HB := n1_; clear n0_ n1_; (try clear hb); (try clear hb2); (try clear hk); (try clear hi)) | ((with_reducible refine gate_dst (N := 5) rfl ?_); refine box_event ?hg (N := 5) ?hd (cs := #[.int .i64 0, .bool false]) (t := 33) ?hr ?_; (case hd => rfl); (case hg => rfl); (case hr => first | (go_simp; done) | (go_simp; rfl)); intro gb220 hg w17 hbox hb; have n0_ := Aside0.mk (blk_below (g := gb217) (o := .cells #[.int .i64 0, .bool false] 33 (0, 0)) (by (with_reducible repeat (first | refine blk_drewN ?_ _ | refine blk_drew ?_ | refine blk_alloc ?_ _)); exact BK217.out) hb); have n1_ := Aside0.mk (below_step (by repeat (first | (with_reducible first | exact HB.out | apply below_alloc | apply pw_below_drewN | apply below_drew1 | refine below_set ?_ GE217.out) | exact HB.out)) hb); have n2_ := Aside0.mk (hbox); have n3_ := Aside0.mk ((by rw [hg]; exact (below_size (by repeat (first | (with_reducible first | exact HB.out | apply below_alloc | apply pw_below_drewN | apply below_drew1 | refine below_set ?_ GE217.out) | exact HB.out))) : w.heap.size ≤ gb220)); have n4_ := Aside0.mk ((by rw [hg]; exact (below_size (by repeat (first | (with_reducible first | exact HB.out | apply below_alloc | apply pw_below_drewN | apply below_drew1 | refine below_set ?_ GE217.out) | exact HB.out))) : w.heap.size ≤ gb220)); have n5_ := Aside0.mk ((by rw [hg]; exact Nat.ne_of_lt (blk_lt (g := gb217) (o := .cells #[.int .i64 0, .bool false] 33 (0, 0)) (by (with_reducible repeat (first | refine blk_drewN ?_ _ | refine blk_drew ?_ | refine blk_alloc ?_ _)); exact BK217.out)) : gb217 ≠ gb220)); have n6_ := Aside0.mk ((by rw [hg]; exact Nat.ne_of_gt (blk_lt (g := gb217) (o := .cells #[.int .i64 0, .bool false] 33 (0, 0)) (by (with_reducible repeat (first | refine blk_drewN ?_ _ | refine blk_drew ?_ | refine blk_alloc ?_ _)); exact BK217.out)) : gb220 ≠ gb217)); clear BK217; clear HB; have BK217 := n0_; have HB := n1_; have BK220 := n2_; have GW220 := n3_; have GE220 := n4_; have NB217_220 := n5_; have NB220_217 := n6_; clear n0_ n1_ n2_ n3_ n4_ n5_ n6_; clear hb hbox hg; have hnb18 := NB220_217.out; have hnc18 := NB217_220.out; have hcz19_0 : w17.cell? ⟨gb220, 0, none⟩ = some (.int .i64 0) := (blk_cell BK220.out 0).trans rfl; have hcz19_1 : w17.cell? ⟨gb220, 1, none⟩ = some (.bool false) := (blk_cell BK220.out 1).trans rfl; have hfz19_0 := blk_frozen BK220.out 0; have hfz19_1 := blk_frozen BK220.out 1) | ((with_reducible refine gate_callee (f := 19) rfl ?_); refine goesL_ (some 20) rfl rfl Tryd.func19 (by kernel_rfl) rfl #[.int .u64 a0, .int .i64 0] rfl (by (try simp only [List.map_toArray, List.map_cons, List.map_nil]); first | done | rfl | (simp only [List.length_drop, List.length_take]; rfl)) ?_; (with_reducible refine (remontoirref04_Next.calls kj2 a0 0 t221 t222 _ A15.out).mono ?_); rintro e w20 ⟨rfl, hb⟩; refine ⟨_, rfl, ?_⟩; have n0_ := Aside0.mk (blk_below (g := gb217) (o := .cells #[.int .i64 0, .bool false] 33 (0, 0)) (by (with_reducible repeat (first | refine blk_drewN ?_ _ | refine blk_drew ?_ | refine blk_alloc ?_ _)); refine blk_far ?_ NB217_220.out _; (with_reducible repeat (first | refine blk_drewN ?_ _ | refine blk_drew ?_ | refine blk_alloc ?_ _)); refine blk_far ?_ NB217_220.out _; (with_reducible repeat (first | refine blk_drewN ?_ _ | refine blk_drew ?_ | refine blk_alloc ?_ _)); exact BK217.out) hb); have n1_ := Aside0.mk (blk_below (g := gb220) (o := .cells #[.int .i64 t218, .bool false] 33 (0, 0)) (by (with_reducible repeat (first | refine blk_drewN ?_ _ | refine blk_drew ?_ | refine blk_alloc ?_ _)); refine blk_put (cs := #[.int .i64 t218, .bool false]) ?_ 1 _ rfl; (with_reducible repeat (first | refine blk_drewN ?_ _ | refine blk_drew ?_ | refine blk_alloc ?_ _)); refine blk_put (cs := #[.int .i64 0, .bool false]) ?_ 0 _ rfl; (with_reducible repeat (first | refine blk_drewN ?_ _ | refine blk_drew ?_ | refine blk_alloc ?_ _)); exact BK220.out) hb); have n2_ := Aside0.mk (below_step (by repeat (first | (with_reducible first | exact HB.out | apply below_alloc | apply pw_below_drewN | apply below_drew1 | refine below_set ?_ GE217.out | refine below_set ?_ GE220.out) | exact HB.out)) hb); clear BK217; clear BK220; clear HB; have BK217 := n0_; have BK220 := n1_; have HB := n2_; clear n0_ n1_ n2_; (try clear hb); (try clear hb2); (try clear hk); (try clear hi); have hcz21_0 : w20.cell? ⟨gb217, 0, none⟩ = some (.int .i64 0) := (blk_cell BK217.out 0).trans rfl; have hcz21_1 : w20.cell? ⟨gb217, 1, none⟩ = some (.bool false) := (blk_cell BK217.out 1).trans rfl; have hfz21_0 := blk_frozen BK217.out 0; have hfz21_1 := blk_frozen BK217.out 1))
          refine bodyPost_ret (results_cell_row rfl _ _ gb217 33 #[.int .i64 t221, .bool t222] (0, 0) _ rfl (by (with_reducible repeat (first | refine blk_drewN ?_ _ | refine blk_drew ?_ | refine blk_alloc ?_ _)); refine blk_put (cs := #[.int .i64 t221, .bool false]) ?_ 1 _ rfl; (with_reducible repeat (first | refine blk_drewN ?_ _ | refine blk_drew ?_ | refine blk_alloc ?_ _)); refine blk_put (cs := #[.int .i64 0, .bool false]) ?_ 0 _ rfl; (with_reducible repeat (first | refine blk_drewN ?_ _ | refine blk_drew ?_ | refine blk_alloc ?_ _)); exact BK217.out) Tryd.underlying33 rfl (by kernel_rfl)) rfl ?_
          exact ⟨by first | rfl | (simp [errW_none, errW_some] <;> rfl) | (simp [*, errW_none, errW_some] <;> rfl), by repeat (first | (with_reducible first | exact HB.out | apply below_alloc | apply pw_below_drewN | apply below_drew1 | refine below_set ?_ GE217.out | refine below_set ?_ GE220.out) | exact HB.out)⟩

/-! ### remontoirkeep_Ints: function 21 -/
def remontoirkeep_Ints.l0 : Nat → List Int → List Int → Int → Option (Bool)
  | 0, _, _, _ => none
  | k + 1, x0, x1, x5 => if x5 < (x0.length : Int) then (if 0 ≤ x5 then (if x5 < (x1.length : Int) then (if (rd x0 x5) = (rd x1 x5) then (remontoirkeep_Ints.l0 k x0 x1 (wrap64 (x5 + 1))) else (some false)) else (none)) else (none)) else (some true)
def remontoirkeep_Ints.f (k : Nat) (l0 : List Int) (l1 : List Int) : Option (Bool) := if (l0.length : Int) = (l1.length : Int) then (remontoirkeep_Ints.l0 k l0 l1 0) else (some false)
theorem remontoirkeep_Ints.mono_l : ∀ k, (∀ y0 y1 y2, LeO (remontoirkeep_Ints.l0 k y0 y1 y2) (remontoirkeep_Ints.l0 (k + 1) y0 y1 y2))
  | 0 => fun _ _ _ r h => by simp [remontoirkeep_Ints.l0] at h
  | k + 1 => by
    have ih0 := remontoirkeep_Ints.mono_l k
    · intro y0 y1 y2
      unfold remontoirkeep_Ints.l0
      repeat' first
      | (with_reducible exact ih0 _ _ _)
      | (with_reducible exact LeO.refl _)
      | (with_reducible exact LeO.none _)
      | (with_reducible refine LeO.ite ?_ ?_)
      | (with_reducible refine LeO.bind ?_ (fun _ => ?_))
      | exact ih0 _ _ _
      | exact LeO.none _
      | refine LeO.ite ?_ ?_
      | refine LeO.bind ?_ (fun _ => ?_)
theorem remontoirkeep_Ints.mono : ∀ a0 a1 k, LeO (remontoirkeep_Ints.f k a0 a1) (remontoirkeep_Ints.f (k + 1) a0 a1) := by
  intro a0 a1 k
  have ih0 := remontoirkeep_Ints.mono_l k
  unfold remontoirkeep_Ints.f
  repeat' first
      | (with_reducible exact ih0 _ _ _)
      | (with_reducible exact LeO.refl _)
      | (with_reducible exact LeO.none _)
      | (with_reducible refine LeO.ite ?_ ?_)
      | (with_reducible refine LeO.bind ?_ (fun _ => ?_))
      | exact ih0 _ _ _
      | exact LeO.none _
      | refine LeO.ite ?_ ?_
      | refine LeO.bind ?_ (fun _ => ?_)
set_option maxHeartbeats 8000000 in
set_option maxRecDepth 100000 in
theorem remontoirkeep_Ints.calls (k : Nat) (A0 : Option Addr) (c0 : Nat) (l0 : List Int) (A1 : Option Addr) (c1 : Nat) (l1 : List Int) (r : Bool) (w : World) (hr0 : Kd.C (Kd.int .i64) w A0 l0.length l0) (hc0 : l0.length ≤ c0) (hr1 : Kd.C (Kd.int .i64) w A1 l1.length l1) (hc1 : l1.length ≤ c1) (h : remontoirkeep_Ints.f k l0 l1 = some r) :
    Calls Tryd.prog 21 #[.slice A0 l0.length c0, .slice A1 l1.length c1] w fun e w' => e = .returned (.bool r) ∧ Drawn0 w w' := by
  have HR0 := Aside0.mk hr0
  have HC0 := Aside0.mk hc0
  clear hr0 hc0
  have HR1 := Aside0.mk hr1
  have HC1 := Aside0.mk hc1
  clear hr1 hc1
  have H : (if (l0.length : Int) = (l1.length : Int) then (remontoirkeep_Ints.l0 k l0 l1 0) else (some false)) = some r := h
  clear h
  by_cases c3 : (l0.length : Int) = (l1.length : Int)
  · rw [if_pos c3] at H
    have c3b0 : ((l0.length : Int) == (l1.length : Int)) = true := beq_iff_eq.mpr c3
    have c3b1 : ((l0.length : Int) != (l1.length : Int)) = false := bne_eq_false_iff_eq.mpr c3
    have c3b2 : (l0.length == l1.length) = true := by first | simpa using c3 | (simp at c3 ⊢; omega)
    clear c3
    have H' := Aside0.mk H
    clear H
    go_enter Tryd.func21, Tryd.ntmps21
    go_wp2
    repeat (go_quiet (fail); try go_wp2)
    go_loopg [5] k (fun kq v5 w' => ∃ (x5_1 : Int), v5 = .int .i64 x5_1 ∧ Aside0 (remontoirkeep_Ints.l0 kq l0 l1 x5_1 = some r) ∧ Aside0 (kq ≤ k) ∧ Drawn0 w w')
    case atStart => exact ⟨(0), (by first | rfl | (simp; done) | (simp [*]; done)), H', ⟨Nat.le_refl _⟩, by repeat (first | exact Drawn0.refl _ | apply Drawn0.step)⟩
    case round =>
      clear H'
      try clear c1
      try clear c2
      try clear p2
      try clear c3
      try clear c3b0
      try clear c3b1
      try clear c3b2
      obtain ⟨x5_1, rfl, HA, HK1, ⟨m1, rfl⟩⟩ := hrel
      cases gk with
      | zero => exact absurd HA.out (by simp [remontoirkeep_Ints.l0])
      | succ k1 =>
        have H := HA.out
        clear HA
        simp only [remontoirkeep_Ints.l0] at H
        by_cases c4 : x5_1 < (l0.length : Int)
        · rw [if_pos c4] at H
          have c4b0 : decide (x5_1 < (l0.length : Int)) = true := decide_eq_true c4
          clear c4
          by_cases c5 : 0 ≤ x5_1
          · rw [if_pos c5] at H
            have c5b0 : decide (0 ≤ x5_1) = true := decide_eq_true c5
            clear c5
            by_cases c6 : x5_1 < (l1.length : Int)
            · rw [if_pos c6] at H
              have c6b0 : decide (x5_1 < (l1.length : Int)) = true := decide_eq_true c6
              clear c6
              by_cases c7 : (rd l0 x5_1) = (rd l1 x5_1)
              · rw [if_pos c7] at H
                have c7b0 : ((rd l0 x5_1) == (rd l1 x5_1)) = true := beq_iff_eq.mpr c7
                have c7b1 : ((rd l0 x5_1) != (rd l1 x5_1)) = false := bne_eq_false_iff_eq.mpr c7
                clear c7
                have H' := Aside0.mk H
                clear H
                have p223 : 0 ≤ (x5_1 : Int) := of_decide_eq_true (by first | (with_reducible assumption) | assumption)
                have q223 : x5_1 < (l0.length : Int) := of_decide_eq_true (by first | (with_reducible assumption) | assumption)
                obtain ⟨ad223, e223, hx223_0⟩ := Kd.at_int HR0.out x5_1 p223 q223
                cases e223
                replace p223 := eq_true p223
                replace q223 := eq_true q223
                have p224 : 0 ≤ (x5_1 : Int) := of_decide_eq_true (by first | (with_reducible assumption) | assumption)
                have q224 : x5_1 < (l1.length : Int) := of_decide_eq_true (by first | (with_reducible assumption) | assumption)
                obtain ⟨ad224, e224, hx224_0⟩ := Kd.at_int HR1.out x5_1 p224 q224
                cases e224
                replace p224 := eq_true p224
                replace q224 := eq_true q224
                go_wp2
                repeat (go_quiet (fail); try go_wp2)
                go_roundg k1
                case measure => have := HK1.out; omega
                case rel => exact ⟨(wrap64 (x5_1 + 1)), (by first | rfl | (simp; done) | (simp [*]; done)), H', ⟨by have := HK1.out; omega⟩, by repeat (first | exact Drawn0.refl _ | apply Drawn0.step)⟩
              · rw [if_neg c7] at H
                have c7b0 : ((rd l0 x5_1) == (rd l1 x5_1)) = false := beq_eq_false_iff_ne.mpr c7
                have c7b1 : ((rd l0 x5_1) != (rd l1 x5_1)) = true := bne_iff_ne.mpr c7
                obtain rfl := Option.some.inj H
                have p223 : 0 ≤ (x5_1 : Int) := of_decide_eq_true (by first | (with_reducible assumption) | assumption)
                have q223 : x5_1 < (l0.length : Int) := of_decide_eq_true (by first | (with_reducible assumption) | assumption)
                obtain ⟨ad223, e223, hx223_0⟩ := Kd.at_int HR0.out x5_1 p223 q223
                cases e223
                replace p223 := eq_true p223
                replace q223 := eq_true q223
                have p224 : 0 ≤ (x5_1 : Int) := of_decide_eq_true (by first | (with_reducible assumption) | assumption)
                have q224 : x5_1 < (l1.length : Int) := of_decide_eq_true (by first | (with_reducible assumption) | assumption)
                obtain ⟨ad224, e224, hx224_0⟩ := Kd.at_int HR1.out x5_1 p224 q224
                cases e224
                replace p224 := eq_true p224
                replace q224 := eq_true q224
                go_wp2
                repeat (go_quiet (fail); try go_wp2)
                go_ret
                exact ⟨by first | rfl | (simp; done) | (simp [*]; done), by repeat (first | exact Drawn0.refl _ | apply Drawn0.step)⟩
            · rw [if_neg c6] at H
              exact absurd H (by simp)
          · rw [if_neg c5] at H
            exact absurd H (by simp)
        · rw [if_neg c4] at H
          have c4b0 : decide (x5_1 < (l0.length : Int)) = false := decide_eq_false c4
          clear c4
          obtain rfl := Option.some.inj H
          go_wp2
          repeat (go_quiet (fail); try go_wp2)
          go_ret
          exact ⟨by first | rfl | (simp; done) | (simp [*]; done), by repeat (first | exact Drawn0.refl _ | apply Drawn0.step)⟩
  · rw [if_neg c3] at H
    have c3b0 : ((l0.length : Int) == (l1.length : Int)) = false := beq_eq_false_iff_ne.mpr c3
    have c3b1 : ((l0.length : Int) != (l1.length : Int)) = true := bne_iff_ne.mpr c3
    have c3b2 : (l0.length == l1.length) = false := by first | simpa using c3 | (simp at c3 ⊢; omega)
    obtain rfl := Option.some.inj H
    go_enter Tryd.func21, Tryd.ntmps21
    go_wp2
    repeat (go_quiet (fail); try go_wp2)
    go_ret
    exact ⟨by first | rfl | (simp; done) | (simp [*]; done), by repeat (first | exact Drawn0.refl _ | apply Drawn0.step)⟩

/-! ### remontoirlaw04_MaskTells: function 7 -/
def remontoirlaw04_MaskTells.f (k : Nat) (a0 : Int) (a1 : Int) (l2 : List Int) : Option (Bool) := if (l2.length : Int) > 200 then ((remontoirlaw04_wakes.f k).bind fun t225 => (some t225)) else ((mask_Next.f a0 a1).bind fun bt226 => ((mask_Round.f a0 a1).bind fun bt228 => ((mask_With.f a0 a1).bind fun t230 => ((remontoirref04_With.f k a0 a1).bind fun t231 => (if t230 = t231 then ((mask_Without.f a0 a1).bind fun t232 => ((remontoirref04_Without.f k a0 a1).bind fun t233 => (if t232 = t233 then ((mask_Has.f a0 a1).bind fun t234 => ((remontoirref04_Has.f k a0 a1).bind fun t235 => (if (t234 == t235) = true then ((remontoirref04_Next.f k a0 a1).bind fun bt236 => (if (bt226.1 == bt236.1 && (bt226.2 == bt236.2)) = true then ((remontoirref04_Round.f k a0 a1).bind fun bt238 => (if (bt228.1 == bt238.1 && (bt228.2 == bt238.2)) = true then ((mask_List.f k a0).bind fun t240 => ((remontoirref04_List.f k a0).bind fun t243 => ((remontoirkeep_Ints.f k t240 t243).bind fun t246 => (if t246 = true then ((mask_Of.f k l2).bind fun t247 => ((remontoirref04_Of.f k l2).bind fun t248 => (if t247 = t248 then ((remontoirlaw04_wakes.f k).bind fun t249 => (some t249)) else (none)))) else (none))))) else (none))) else (none))) else (none)))) else (none)))) else (none))))))
theorem remontoirlaw04_MaskTells.mono : ∀ a0 a1 a2 k, LeO (remontoirlaw04_MaskTells.f k a0 a1 a2) (remontoirlaw04_MaskTells.f (k + 1) a0 a1 a2) := by
  intro a0 a1 a2 k
  unfold remontoirlaw04_MaskTells.f
  repeat' first
      | (with_reducible exact mask_List.mono _ _)
      | (with_reducible exact mask_Of.mono _ _)
      | (with_reducible exact remontoirkeep_Ints.mono _ _ _)
      | (with_reducible exact remontoirlaw04_wakes.mono _)
      | (with_reducible exact remontoirref04_Has.mono _ _ _)
      | (with_reducible exact remontoirref04_List.mono _ _)
      | (with_reducible exact remontoirref04_Next.mono _ _ _)
      | (with_reducible exact remontoirref04_Of.mono _ _)
      | (with_reducible exact remontoirref04_Round.mono _ _ _)
      | (with_reducible exact remontoirref04_With.mono _ _ _)
      | (with_reducible exact remontoirref04_Without.mono _ _ _)
      | (with_reducible exact LeO.refl _)
      | (with_reducible exact LeO.none _)
      | (with_reducible refine LeO.ite ?_ ?_)
      | (with_reducible refine LeO.bind ?_ (fun _ => ?_))
      | exact mask_List.mono _ _
      | exact mask_Of.mono _ _
      | exact remontoirkeep_Ints.mono _ _ _
      | exact remontoirlaw04_wakes.mono _
      | exact remontoirref04_Has.mono _ _ _
      | exact remontoirref04_List.mono _ _
      | exact remontoirref04_Next.mono _ _ _
      | exact remontoirref04_Of.mono _ _
      | exact remontoirref04_Round.mono _ _ _
      | exact remontoirref04_With.mono _ _ _
      | exact remontoirref04_Without.mono _ _ _
      | exact LeO.none _
      | refine LeO.ite ?_ ?_
      | refine LeO.bind ?_ (fun _ => ?_)
set_option maxHeartbeats 8000000 in
set_option maxRecDepth 100000 in
theorem remontoirlaw04_MaskTells.calls (k : Nat) (a0 : Int) (a1 : Int) (A2 : Option Addr) (c2 : Nat) (l2 : List Int) (r : Bool) (w : World) (hr2 : Kd.C (Kd.int .i64) w A2 l2.length l2) (hc2 : l2.length ≤ c2) (h : remontoirlaw04_MaskTells.f k a0 a1 l2 = some r) (hT0 : TabOk w) :
    Calls Tryd.prog 7 #[.int .u64 a0, .int .i64 a1, .slice A2 l2.length c2] w fun e w' => e = .returned (.bool r) ∧ Below w.heap.size w w' := by
  have HT0 := Aside0.mk hT0
  clear hT0
  have hu33 := Tryd.underlying33
  have HR2 := Aside0.mk hr2
  have HC2 := Aside0.mk hc2
  clear hr2 hc2
  have HB := Aside0.mk (Below.refl w.heap.size w)
  have H : (if (l2.length : Int) > 200 then ((remontoirlaw04_wakes.f k).bind fun t225 => (some t225)) else ((mask_Next.f a0 a1).bind fun bt226 => ((mask_Round.f a0 a1).bind fun bt228 => ((mask_With.f a0 a1).bind fun t230 => ((remontoirref04_With.f k a0 a1).bind fun t231 => (if t230 = t231 then ((mask_Without.f a0 a1).bind fun t232 => ((remontoirref04_Without.f k a0 a1).bind fun t233 => (if t232 = t233 then ((mask_Has.f a0 a1).bind fun t234 => ((remontoirref04_Has.f k a0 a1).bind fun t235 => (if (t234 == t235) = true then ((remontoirref04_Next.f k a0 a1).bind fun bt236 => (if (bt226.1 == bt236.1 && (bt226.2 == bt236.2)) = true then ((remontoirref04_Round.f k a0 a1).bind fun bt238 => (if (bt228.1 == bt238.1 && (bt228.2 == bt238.2)) = true then ((mask_List.f k a0).bind fun t240 => ((remontoirref04_List.f k a0).bind fun t243 => ((remontoirkeep_Ints.f k t240 t243).bind fun t246 => (if t246 = true then ((mask_Of.f k l2).bind fun t247 => ((remontoirref04_Of.f k l2).bind fun t248 => (if t247 = t248 then ((remontoirlaw04_wakes.f k).bind fun t249 => (some t249)) else (none)))) else (none))))) else (none))) else (none))) else (none)))) else (none)))) else (none))))))) = some r := h
  clear h
  by_cases c4 : (l2.length : Int) > 200
  · rw [if_pos c4] at H
    have c4b0 : decide (200 < (l2.length : Int)) = true := decide_eq_true c4
    have c4b1 : decide (200 < l2.length) = true := decide_eq_true (by omega)
    clear c4
    replace H := Option.bind_eq_some_iff.mp H
    obtain ⟨t225, A50, H⟩ := H
    replace H : (some t225) = some r := H
    have A5 := Aside0.mk A50
    clear A50
    obtain rfl := Option.some.inj H
    go_enter Tryd.func7, Tryd.ntmps7
    go_wp2_with (first | ((with_reducible refine gate_callee (f := 10) rfl ?_); refine goesL_ (some 14) rfl rfl Tryd.func10 (by kernel_rfl) rfl #[] rfl (by (try simp only [List.map_toArray, List.map_cons, List.map_nil]); first | done | rfl | (simp only [List.length_drop, List.length_take]; rfl)) ?_; (with_reducible refine (remontoirlaw04_wakes.calls k  t225 _ A5.out (TabOk.below HT0.out (by repeat (first | (with_reducible first | exact HB.out | apply below_alloc | apply pw_below_drewN | apply below_drew1) | exact HB.out)))).mono ?_); rintro e w6 ⟨rfl, hb⟩; refine ⟨_, rfl, ?_⟩; have n0_ := Aside0.mk (below_step (by repeat (first | (with_reducible first | exact HB.out | apply below_alloc | apply pw_below_drewN | apply below_drew1) | exact HB.out)) hb); clear HB; have HB := n0_; clear n0_; (try clear hb); (try clear hb2); (try clear hk); (try clear hi)))
    go_ret
    exact ⟨by first | rfl | (simp [errW_none, errW_some] <;> rfl) | (simp [*, errW_none, errW_some] <;> rfl), by repeat (first | (with_reducible first | exact HB.out | apply below_alloc | apply pw_below_drewN | apply below_drew1) | exact HB.out)⟩
  · rw [if_neg c4] at H
    have c4b0 : decide (200 < (l2.length : Int)) = false := decide_eq_false c4
    have c4b1 : decide (200 < l2.length) = false := decide_eq_false (by omega)
    clear c4
    replace H := Option.bind_eq_some_iff.mp H
    obtain ⟨⟨t226, t227⟩, A70, H⟩ := H
    replace H : ((mask_Round.f a0 a1).bind fun bt228 => ((mask_With.f a0 a1).bind fun t230 => ((remontoirref04_With.f k a0 a1).bind fun t231 => (if t230 = t231 then ((mask_Without.f a0 a1).bind fun t232 => ((remontoirref04_Without.f k a0 a1).bind fun t233 => (if t232 = t233 then ((mask_Has.f a0 a1).bind fun t234 => ((remontoirref04_Has.f k a0 a1).bind fun t235 => (if (t234 == t235) = true then ((remontoirref04_Next.f k a0 a1).bind fun bt236 => (if (t226 == bt236.1 && (t227 == bt236.2)) = true then ((remontoirref04_Round.f k a0 a1).bind fun bt238 => (if (bt228.1 == bt238.1 && (bt228.2 == bt238.2)) = true then ((mask_List.f k a0).bind fun t240 => ((remontoirref04_List.f k a0).bind fun t243 => ((remontoirkeep_Ints.f k t240 t243).bind fun t246 => (if t246 = true then ((mask_Of.f k l2).bind fun t247 => ((remontoirref04_Of.f k l2).bind fun t248 => (if t247 = t248 then ((remontoirlaw04_wakes.f k).bind fun t249 => (some t249)) else (none)))) else (none))))) else (none))) else (none))) else (none)))) else (none)))) else (none))))) = some r := H
    have A7 := Aside0.mk A70
    clear A70
    replace H := Option.bind_eq_some_iff.mp H
    obtain ⟨⟨t228, t229⟩, A80, H⟩ := H
    replace H : ((mask_With.f a0 a1).bind fun t230 => ((remontoirref04_With.f k a0 a1).bind fun t231 => (if t230 = t231 then ((mask_Without.f a0 a1).bind fun t232 => ((remontoirref04_Without.f k a0 a1).bind fun t233 => (if t232 = t233 then ((mask_Has.f a0 a1).bind fun t234 => ((remontoirref04_Has.f k a0 a1).bind fun t235 => (if (t234 == t235) = true then ((remontoirref04_Next.f k a0 a1).bind fun bt236 => (if (t226 == bt236.1 && (t227 == bt236.2)) = true then ((remontoirref04_Round.f k a0 a1).bind fun bt238 => (if (t228 == bt238.1 && (t229 == bt238.2)) = true then ((mask_List.f k a0).bind fun t240 => ((remontoirref04_List.f k a0).bind fun t243 => ((remontoirkeep_Ints.f k t240 t243).bind fun t246 => (if t246 = true then ((mask_Of.f k l2).bind fun t247 => ((remontoirref04_Of.f k l2).bind fun t248 => (if t247 = t248 then ((remontoirlaw04_wakes.f k).bind fun t249 => (some t249)) else (none)))) else (none))))) else (none))) else (none))) else (none)))) else (none)))) else (none)))) = some r := H
    have A8 := Aside0.mk A80
    clear A80
    replace H := Option.bind_eq_some_iff.mp H
    obtain ⟨t230, A90, H⟩ := H
    replace H : ((remontoirref04_With.f k a0 a1).bind fun t231 => (if t230 = t231 then ((mask_Without.f a0 a1).bind fun t232 => ((remontoirref04_Without.f k a0 a1).bind fun t233 => (if t232 = t233 then ((mask_Has.f a0 a1).bind fun t234 => ((remontoirref04_Has.f k a0 a1).bind fun t235 => (if (t234 == t235) = true then ((remontoirref04_Next.f k a0 a1).bind fun bt236 => (if (t226 == bt236.1 && (t227 == bt236.2)) = true then ((remontoirref04_Round.f k a0 a1).bind fun bt238 => (if (t228 == bt238.1 && (t229 == bt238.2)) = true then ((mask_List.f k a0).bind fun t240 => ((remontoirref04_List.f k a0).bind fun t243 => ((remontoirkeep_Ints.f k t240 t243).bind fun t246 => (if t246 = true then ((mask_Of.f k l2).bind fun t247 => ((remontoirref04_Of.f k l2).bind fun t248 => (if t247 = t248 then ((remontoirlaw04_wakes.f k).bind fun t249 => (some t249)) else (none)))) else (none))))) else (none))) else (none))) else (none)))) else (none)))) else (none))) = some r := H
    have A9 := Aside0.mk A90
    clear A90
    replace H := Option.bind_eq_some_iff.mp H
    obtain ⟨t231, A100, H⟩ := H
    replace H : (if t230 = t231 then ((mask_Without.f a0 a1).bind fun t232 => ((remontoirref04_Without.f k a0 a1).bind fun t233 => (if t232 = t233 then ((mask_Has.f a0 a1).bind fun t234 => ((remontoirref04_Has.f k a0 a1).bind fun t235 => (if (t234 == t235) = true then ((remontoirref04_Next.f k a0 a1).bind fun bt236 => (if (t226 == bt236.1 && (t227 == bt236.2)) = true then ((remontoirref04_Round.f k a0 a1).bind fun bt238 => (if (t228 == bt238.1 && (t229 == bt238.2)) = true then ((mask_List.f k a0).bind fun t240 => ((remontoirref04_List.f k a0).bind fun t243 => ((remontoirkeep_Ints.f k t240 t243).bind fun t246 => (if t246 = true then ((mask_Of.f k l2).bind fun t247 => ((remontoirref04_Of.f k l2).bind fun t248 => (if t247 = t248 then ((remontoirlaw04_wakes.f k).bind fun t249 => (some t249)) else (none)))) else (none))))) else (none))) else (none))) else (none)))) else (none)))) else (none)) = some r := H
    have A10 := Aside0.mk A100
    clear A100
    by_cases c11 : t230 = t231
    · rw [if_pos c11] at H
      have c11b0 : (t230 == t231) = true := beq_iff_eq.mpr c11
      have c11b1 : (t230 != t231) = false := bne_eq_false_iff_eq.mpr c11
      clear c11
      replace H := Option.bind_eq_some_iff.mp H
      obtain ⟨t232, A120, H⟩ := H
      replace H : ((remontoirref04_Without.f k a0 a1).bind fun t233 => (if t232 = t233 then ((mask_Has.f a0 a1).bind fun t234 => ((remontoirref04_Has.f k a0 a1).bind fun t235 => (if (t234 == t235) = true then ((remontoirref04_Next.f k a0 a1).bind fun bt236 => (if (t226 == bt236.1 && (t227 == bt236.2)) = true then ((remontoirref04_Round.f k a0 a1).bind fun bt238 => (if (t228 == bt238.1 && (t229 == bt238.2)) = true then ((mask_List.f k a0).bind fun t240 => ((remontoirref04_List.f k a0).bind fun t243 => ((remontoirkeep_Ints.f k t240 t243).bind fun t246 => (if t246 = true then ((mask_Of.f k l2).bind fun t247 => ((remontoirref04_Of.f k l2).bind fun t248 => (if t247 = t248 then ((remontoirlaw04_wakes.f k).bind fun t249 => (some t249)) else (none)))) else (none))))) else (none))) else (none))) else (none)))) else (none))) = some r := H
      have A12 := Aside0.mk A120
      clear A120
      replace H := Option.bind_eq_some_iff.mp H
      obtain ⟨t233, A130, H⟩ := H
      replace H : (if t232 = t233 then ((mask_Has.f a0 a1).bind fun t234 => ((remontoirref04_Has.f k a0 a1).bind fun t235 => (if (t234 == t235) = true then ((remontoirref04_Next.f k a0 a1).bind fun bt236 => (if (t226 == bt236.1 && (t227 == bt236.2)) = true then ((remontoirref04_Round.f k a0 a1).bind fun bt238 => (if (t228 == bt238.1 && (t229 == bt238.2)) = true then ((mask_List.f k a0).bind fun t240 => ((remontoirref04_List.f k a0).bind fun t243 => ((remontoirkeep_Ints.f k t240 t243).bind fun t246 => (if t246 = true then ((mask_Of.f k l2).bind fun t247 => ((remontoirref04_Of.f k l2).bind fun t248 => (if t247 = t248 then ((remontoirlaw04_wakes.f k).bind fun t249 => (some t249)) else (none)))) else (none))))) else (none))) else (none))) else (none)))) else (none)) = some r := H
      have A13 := Aside0.mk A130
      clear A130
      by_cases c14 : t232 = t233
      · rw [if_pos c14] at H
        have c14b0 : (t232 == t233) = true := beq_iff_eq.mpr c14
        have c14b1 : (t232 != t233) = false := bne_eq_false_iff_eq.mpr c14
        clear c14
        replace H := Option.bind_eq_some_iff.mp H
        obtain ⟨t234, A150, H⟩ := H
        replace H : ((remontoirref04_Has.f k a0 a1).bind fun t235 => (if (t234 == t235) = true then ((remontoirref04_Next.f k a0 a1).bind fun bt236 => (if (t226 == bt236.1 && (t227 == bt236.2)) = true then ((remontoirref04_Round.f k a0 a1).bind fun bt238 => (if (t228 == bt238.1 && (t229 == bt238.2)) = true then ((mask_List.f k a0).bind fun t240 => ((remontoirref04_List.f k a0).bind fun t243 => ((remontoirkeep_Ints.f k t240 t243).bind fun t246 => (if t246 = true then ((mask_Of.f k l2).bind fun t247 => ((remontoirref04_Of.f k l2).bind fun t248 => (if t247 = t248 then ((remontoirlaw04_wakes.f k).bind fun t249 => (some t249)) else (none)))) else (none))))) else (none))) else (none))) else (none))) = some r := H
        have A15 := Aside0.mk A150
        clear A150
        replace H := Option.bind_eq_some_iff.mp H
        obtain ⟨t235, A160, H⟩ := H
        replace H : (if (t234 == t235) = true then ((remontoirref04_Next.f k a0 a1).bind fun bt236 => (if (t226 == bt236.1 && (t227 == bt236.2)) = true then ((remontoirref04_Round.f k a0 a1).bind fun bt238 => (if (t228 == bt238.1 && (t229 == bt238.2)) = true then ((mask_List.f k a0).bind fun t240 => ((remontoirref04_List.f k a0).bind fun t243 => ((remontoirkeep_Ints.f k t240 t243).bind fun t246 => (if t246 = true then ((mask_Of.f k l2).bind fun t247 => ((remontoirref04_Of.f k l2).bind fun t248 => (if t247 = t248 then ((remontoirlaw04_wakes.f k).bind fun t249 => (some t249)) else (none)))) else (none))))) else (none))) else (none))) else (none)) = some r := H
        have A16 := Aside0.mk A160
        clear A160
        by_cases c17 : (t234 == t235) = true
        · rw [if_pos c17] at H
          have c17b0 : (t234 == t235) = true := c17
          (try (have c17b1 : decide (t234 = t235) = true := by simpa using c17))
          (try (have c17b2 : (t234 == t235) = true := by simpa using c17))
          clear c17
          replace H := Option.bind_eq_some_iff.mp H
          obtain ⟨⟨t236, t237⟩, A180, H⟩ := H
          replace H : (if (t226 == t236 && (t227 == t237)) = true then ((remontoirref04_Round.f k a0 a1).bind fun bt238 => (if (t228 == bt238.1 && (t229 == bt238.2)) = true then ((mask_List.f k a0).bind fun t240 => ((remontoirref04_List.f k a0).bind fun t243 => ((remontoirkeep_Ints.f k t240 t243).bind fun t246 => (if t246 = true then ((mask_Of.f k l2).bind fun t247 => ((remontoirref04_Of.f k l2).bind fun t248 => (if t247 = t248 then ((remontoirlaw04_wakes.f k).bind fun t249 => (some t249)) else (none)))) else (none))))) else (none))) else (none)) = some r := H
          have A18 := Aside0.mk A180
          clear A180
          by_cases c19 : (t226 == t236 && (t227 == t237)) = true
          · rw [if_pos c19] at H
            have c19b0 : (t226 == t236 && (t227 == t237)) = true := c19
            (try (have c19b1 : decide (t226 = t236 && (t227 == t237)) = true := by simpa using c19))
            (try (have c19b2 : (t226 == t236 && (t227 == t237)) = true := by simpa using c19))
            clear c19
            replace H := Option.bind_eq_some_iff.mp H
            obtain ⟨⟨t238, t239⟩, A200, H⟩ := H
            replace H : (if (t228 == t238 && (t229 == t239)) = true then ((mask_List.f k a0).bind fun t240 => ((remontoirref04_List.f k a0).bind fun t243 => ((remontoirkeep_Ints.f k t240 t243).bind fun t246 => (if t246 = true then ((mask_Of.f k l2).bind fun t247 => ((remontoirref04_Of.f k l2).bind fun t248 => (if t247 = t248 then ((remontoirlaw04_wakes.f k).bind fun t249 => (some t249)) else (none)))) else (none))))) else (none)) = some r := H
            have A20 := Aside0.mk A200
            clear A200
            by_cases c21 : (t228 == t238 && (t229 == t239)) = true
            · rw [if_pos c21] at H
              have c21b0 : (t228 == t238 && (t229 == t239)) = true := c21
              (try (have c21b1 : decide (t228 = t238 && (t229 == t239)) = true := by simpa using c21))
              (try (have c21b2 : (t228 == t238 && (t229 == t239)) = true := by simpa using c21))
              clear c21
              replace H := Option.bind_eq_some_iff.mp H
              obtain ⟨t240, A220, H⟩ := H
              replace H : ((remontoirref04_List.f k a0).bind fun t243 => ((remontoirkeep_Ints.f k t240 t243).bind fun t246 => (if t246 = true then ((mask_Of.f k l2).bind fun t247 => ((remontoirref04_Of.f k l2).bind fun t248 => (if t247 = t248 then ((remontoirlaw04_wakes.f k).bind fun t249 => (some t249)) else (none)))) else (none)))) = some r := H
              have A22 := Aside0.mk A220
              clear A220
              replace H := Option.bind_eq_some_iff.mp H
              obtain ⟨t243, A230, H⟩ := H
              replace H : ((remontoirkeep_Ints.f k t240 t243).bind fun t246 => (if t246 = true then ((mask_Of.f k l2).bind fun t247 => ((remontoirref04_Of.f k l2).bind fun t248 => (if t247 = t248 then ((remontoirlaw04_wakes.f k).bind fun t249 => (some t249)) else (none)))) else (none))) = some r := H
              have A23 := Aside0.mk A230
              clear A230
              replace H := Option.bind_eq_some_iff.mp H
              obtain ⟨t246, A240, H⟩ := H
              replace H : (if t246 = true then ((mask_Of.f k l2).bind fun t247 => ((remontoirref04_Of.f k l2).bind fun t248 => (if t247 = t248 then ((remontoirlaw04_wakes.f k).bind fun t249 => (some t249)) else (none)))) else (none)) = some r := H
              have A24 := Aside0.mk A240
              clear A240
              by_cases c25 : t246 = true
              · subst c25
                have H1 : ((mask_Of.f k l2).bind fun t247 => ((remontoirref04_Of.f k l2).bind fun t248 => (if t247 = t248 then ((remontoirlaw04_wakes.f k).bind fun t249 => (some t249)) else (none)))) = some r := by rw [if_pos rfl] at H; exact H
                clear H
                have H := H1
                clear H1
                replace H := Option.bind_eq_some_iff.mp H
                obtain ⟨t247, A260, H⟩ := H
                replace H : ((remontoirref04_Of.f k l2).bind fun t248 => (if t247 = t248 then ((remontoirlaw04_wakes.f k).bind fun t249 => (some t249)) else (none))) = some r := H
                have A26 := Aside0.mk A260
                clear A260
                replace H := Option.bind_eq_some_iff.mp H
                obtain ⟨t248, A270, H⟩ := H
                replace H : (if t247 = t248 then ((remontoirlaw04_wakes.f k).bind fun t249 => (some t249)) else (none)) = some r := H
                have A27 := Aside0.mk A270
                clear A270
                by_cases c28 : t247 = t248
                · rw [if_pos c28] at H
                  have c28b0 : (t247 == t248) = true := beq_iff_eq.mpr c28
                  have c28b1 : (t247 != t248) = false := bne_eq_false_iff_eq.mpr c28
                  clear c28
                  replace H := Option.bind_eq_some_iff.mp H
                  obtain ⟨t249, A290, H⟩ := H
                  replace H : (some t249) = some r := H
                  have A29 := Aside0.mk A290
                  clear A290
                  obtain rfl := Option.some.inj H
                  go_enter Tryd.func7, Tryd.ntmps7
                  go_wp2_with (first | ((with_reducible refine gate_callee (f := 8) rfl ?_); refine goesL_ (some 18) rfl rfl Tryd.func8 (by kernel_rfl) rfl #[.int .u64 a0, .int .i64 a1] rfl (by (try simp only [List.map_toArray, List.map_cons, List.map_nil]); first | done | rfl | (simp only [List.length_drop, List.length_take]; rfl)) ?_; (with_reducible refine (mask_Next.calls a0 a1 t226 t227 _ A7.out (TabOk.below HT0.out (by repeat (first | (with_reducible first | exact HB.out | apply below_alloc | apply pw_below_drewN | apply below_drew1) | exact HB.out)))).mono ?_); rintro e w30 ⟨rfl, hb⟩; refine ⟨_, rfl, ?_⟩; have n0_ := Aside0.mk (below_step (by repeat (first | (with_reducible first | exact HB.out | apply below_alloc | apply pw_below_drewN | apply below_drew1) | exact HB.out)) hb); clear HB; have HB := n0_; clear n0_; (try clear hb); (try clear hb2); (try clear hk); (try clear hi)) | ((with_reducible refine gate_callee (f := 15) rfl ?_); refine goesL_ (some 24) rfl rfl Tryd.func15 (by kernel_rfl) rfl #[.int .u64 a0, .int .i64 a1] rfl (by (try simp only [List.map_toArray, List.map_cons, List.map_nil]); first | done | rfl | (simp only [List.length_drop, List.length_take]; rfl)) ?_; (with_reducible refine (mask_Round.calls a0 a1 t228 t229 _ A8.out (TabOk.below HT0.out (by repeat (first | (with_reducible first | exact HB.out | apply below_alloc | apply pw_below_drewN | apply below_drew1) | exact HB.out)))).mono ?_); rintro e w31 ⟨rfl, hb⟩; refine ⟨_, rfl, ?_⟩; have n0_ := Aside0.mk (below_step (by repeat (first | (with_reducible first | exact HB.out | apply below_alloc | apply pw_below_drewN | apply below_drew1) | exact HB.out)) hb); clear HB; have HB := n0_; clear n0_; (try clear hb); (try clear hb2); (try clear hk); (try clear hi)) | ((with_reducible refine gate_callee (f := 11) rfl ?_); refine goesL_ (some 29) rfl rfl Tryd.func11 (by kernel_rfl) rfl #[.int .u64 a0, .int .i64 a1] rfl (by (try simp only [List.map_toArray, List.map_cons, List.map_nil]); first | done | rfl | (simp only [List.length_drop, List.length_take]; rfl)) ?_; (with_reducible refine (mask_With.calls a0 a1 t230 _ A9.out).mono ?_); rintro e w' ⟨rfl, ⟨nd, rfl⟩⟩; refine ⟨_, rfl, ?_⟩) | ((with_reducible refine gate_callee (f := 16) rfl ?_); refine goesL_ (some 32) rfl rfl Tryd.func16 (by kernel_rfl) rfl #[.int .u64 a0, .int .i64 a1] rfl (by (try simp only [List.map_toArray, List.map_cons, List.map_nil]); first | done | rfl | (simp only [List.length_drop, List.length_take]; rfl)) ?_; (with_reducible refine (remontoirref04_With.calls k a0 a1 t231 _ A10.out).mono ?_); rintro e w32 ⟨rfl, hb⟩; refine ⟨_, rfl, ?_⟩; have n0_ := Aside0.mk (below_step (by repeat (first | (with_reducible first | exact HB.out | apply below_alloc | apply pw_below_drewN | apply below_drew1) | exact HB.out)) hb); clear HB; have HB := n0_; clear n0_; (try clear hb); (try clear hb2); (try clear hk); (try clear hi)) | (go_at_call 12; (with_reducible refine (mask_Without.calls a0 a1 t232 _ A12.out).mono ?_); rintro e w' ⟨rfl, ⟨nd, rfl⟩⟩) | (go_at_call 17; (with_reducible refine (remontoirref04_Without.calls k a0 a1 t233 _ A13.out).mono ?_); rintro e w33 ⟨rfl, hb⟩; have n0_ := Aside0.mk (below_step (by repeat (first | (with_reducible first | exact HB.out | apply below_alloc | apply pw_below_drewN | apply below_drew1) | exact HB.out)) hb); clear HB; have HB := n0_; clear n0_; (try clear hb); (try clear hb2); (try clear hk); (try clear hi)) | (go_at_call 9; (with_reducible refine (mask_Has.calls a0 a1 t234 _ A15.out).mono ?_); rintro e w' ⟨rfl, ⟨nd, rfl⟩⟩) | (go_at_call 18; (with_reducible refine (remontoirref04_Has.calls k a0 a1 t235 _ A16.out).mono ?_); rintro e w34 ⟨rfl, hb⟩; have n0_ := Aside0.mk (below_step (by repeat (first | (with_reducible first | exact HB.out | apply below_alloc | apply pw_below_drewN | apply below_drew1) | exact HB.out)) hb); clear HB; have HB := n0_; clear n0_; (try clear hb); (try clear hb2); (try clear hk); (try clear hi)) | (go_at_call 19; (with_reducible refine (remontoirref04_Next.calls k a0 a1 t236 t237 _ A18.out).mono ?_); rintro e w35 ⟨rfl, hb⟩; have n0_ := Aside0.mk (below_step (by repeat (first | (with_reducible first | exact HB.out | apply below_alloc | apply pw_below_drewN | apply below_drew1) | exact HB.out)) hb); clear HB; have HB := n0_; clear n0_; (try clear hb); (try clear hb2); (try clear hk); (try clear hi)) | (go_at_call 20; (with_reducible refine (remontoirref04_Round.calls k a0 a1 t238 t239 _ A20.out).mono ?_); rintro e w36 ⟨rfl, hb⟩; have n0_ := Aside0.mk (below_step (by repeat (first | (with_reducible first | exact HB.out | apply below_alloc | apply pw_below_drewN | apply below_drew1) | exact HB.out)) hb); clear HB; have HB := n0_; clear n0_; (try clear hb); (try clear hb2); (try clear hk); (try clear hi)) | (go_at_call 13; (with_reducible refine (mask_List.calls k a0 t240 _ A22.out).mono ?_); rintro e w37 ⟨v241, rfl, ho0, hb⟩; have n0_ := Aside0.mk (Kd.R_lower ho0 (below_size (by repeat (first | (with_reducible first | exact HB.out | apply below_alloc | apply pw_below_drewN | apply below_drew1) | exact HB.out)))); have n1_ := Aside0.mk (below_step (by repeat (first | (with_reducible first | exact HB.out | apply below_alloc | apply pw_below_drewN | apply below_drew1) | exact HB.out)) hb); clear HB; have HO242 := n0_; have HB := n1_; clear n0_ n1_; (try clear hb); (try clear hb2); (try clear hk); (try clear hi); (try clear ho0)) | (go_at_call 22; (with_reducible refine (remontoirref04_List.calls k a0 t243 _ A23.out).mono ?_); rintro e w38 ⟨v244, rfl, ho0, hb⟩; have n0_ := Aside0.mk (Kd.R_elder' (by (with_reducible repeat (first | apply Kd.R_alloc | apply Kd.R_drewN | apply Kd.R_drew)); exact HO242.out) (Kd.R_base ho0) hb); have n1_ := Aside0.mk (Kd.R_lower (Kd.R_new' ho0 (Kd.R_lt (by (with_reducible repeat (first | apply Kd.R_alloc | apply Kd.R_drewN | apply Kd.R_drew)); exact HO242.out))) (below_size (by repeat (first | (with_reducible first | exact HB.out | apply below_alloc | apply pw_below_drewN | apply below_drew1) | exact HB.out)))); have n2_ := Aside0.mk (below_step (by repeat (first | (with_reducible first | exact HB.out | apply below_alloc | apply pw_below_drewN | apply below_drew1) | exact HB.out)) hb); clear HO242; clear HB; have HO242 := n0_; have HO245 := n1_; have HB := n2_; clear n0_ n1_ n2_; (try clear hb); (try clear hb2); (try clear hk); (try clear hi); (try clear ho0); obtain ⟨Ao39, co39, eo39⟩ := Kd.R_slice HO242.out; subst eo39; obtain ⟨Ao40, co40, eo40⟩ := Kd.R_slice HO245.out; subst eo40) | (go_at_call 21; (with_reducible refine (remontoirkeep_Ints.calls k _ _ t240 _ _ t243 true _ ?side1 ?side2 ?side3 ?side4 A24.out).mono ?_); (case side1 => repeat (first | exact (Kd.R_reads' HO242.out).2.2 | (with_reducible refine Kd.C_alloc ?_ _) | (with_reducible refine Kd.C_drewN ?_ _) | (with_reducible refine Kd.C_drew ?_))); (case side2 => exact (Kd.R_reads' HO242.out).2.1); (case side3 => repeat (first | exact (Kd.R_reads' HO245.out).2.2 | (with_reducible refine Kd.C_alloc ?_ _) | (with_reducible refine Kd.C_drewN ?_ _) | (with_reducible refine Kd.C_drew ?_))); (case side4 => exact (Kd.R_reads' HO245.out).2.1); rintro e w' ⟨rfl, ⟨nd, rfl⟩⟩) | (go_at_call 14; (with_reducible refine (mask_Of.calls k _ _ l2 t247 _ ?side1 ?side2 A26.out).mono ?_); (case side1 => repeat (first | exact (Kd.C_below HR2.out (by repeat (first | (with_reducible first | exact HB.out | apply below_alloc | apply pw_below_drewN | apply below_drew1) | exact HB.out))) | (with_reducible refine Kd.C_alloc ?_ _) | (with_reducible refine Kd.C_drewN ?_ _) | (with_reducible refine Kd.C_drew ?_))); (case side2 => exact HC2.out); rintro e w' ⟨rfl, ⟨nd, rfl⟩⟩) | (go_at_call 23; (with_reducible refine (remontoirref04_Of.calls k _ _ l2 t248 _ ?side1 ?side2 A27.out).mono ?_); (case side1 => repeat (first | exact (Kd.C_below HR2.out (by repeat (first | (with_reducible first | exact HB.out | apply below_alloc | apply pw_below_drewN | apply below_drew1) | exact HB.out))) | (with_reducible refine Kd.C_alloc ?_ _) | (with_reducible refine Kd.C_drewN ?_ _) | (with_reducible refine Kd.C_drew ?_))); (case side2 => exact HC2.out); rintro e w41 ⟨rfl, hb⟩; have n0_ := Aside0.mk (Kd.R_below (by (with_reducible repeat (first | apply Kd.R_alloc | apply Kd.R_drewN | apply Kd.R_drew)); exact HO242.out) hb); have n1_ := Aside0.mk (Kd.R_below (by (with_reducible repeat (first | apply Kd.R_alloc | apply Kd.R_drewN | apply Kd.R_drew)); exact HO245.out) hb); have n2_ := Aside0.mk (below_step (by repeat (first | (with_reducible first | exact HB.out | apply below_alloc | apply pw_below_drewN | apply below_drew1) | exact HB.out)) hb); clear HO242; clear HO245; clear HB; have HO242 := n0_; have HO245 := n1_; have HB := n2_; clear n0_ n1_ n2_; (try clear hb); (try clear hb2); (try clear hk); (try clear hi)) | (go_at_call 10; (with_reducible refine (remontoirlaw04_wakes.calls k  t249 _ A29.out (TabOk.below HT0.out (by repeat (first | (with_reducible first | exact HB.out | apply below_alloc | apply pw_below_drewN | apply below_drew1) | exact HB.out)))).mono ?_); rintro e w42 ⟨rfl, hb⟩; have n0_ := Aside0.mk (Kd.R_below (by (with_reducible repeat (first | apply Kd.R_alloc | apply Kd.R_drewN | apply Kd.R_drew)); exact HO242.out) hb); have n1_ := Aside0.mk (Kd.R_below (by (with_reducible repeat (first | apply Kd.R_alloc | apply Kd.R_drewN | apply Kd.R_drew)); exact HO245.out) hb); have n2_ := Aside0.mk (below_step (by repeat (first | (with_reducible first | exact HB.out | apply below_alloc | apply pw_below_drewN | apply below_drew1) | exact HB.out)) hb); clear HO242; clear HO245; clear HB; have HO242 := n0_; have HO245 := n1_; have HB := n2_; clear n0_ n1_ n2_; (try clear hb); (try clear hb2); (try clear hk); (try clear hi)))
                  go_ret
                  exact ⟨by first | rfl | (simp [errW_none, errW_some] <;> rfl) | (simp [*, errW_none, errW_some] <;> rfl), by repeat (first | (with_reducible first | exact HB.out | apply below_alloc | apply pw_below_drewN | apply below_drew1) | exact HB.out)⟩
                · rw [if_neg c28] at H
                  exact absurd H (by simp)
              · replace c25 := Bool.eq_false_iff.mpr c25
                subst c25
                have H1 : (none) = some r := by rw [if_neg (show ¬ (false = true) by decide)] at H; exact H
                clear H
                have H := H1
                clear H1
                exact absurd H (by simp)
            · rw [if_neg c21] at H
              exact absurd H (by simp)
          · rw [if_neg c19] at H
            exact absurd H (by simp)
        · rw [if_neg c17] at H
          exact absurd H (by simp)
      · rw [if_neg c14] at H
        exact absurd H (by simp)
    · rw [if_neg c11] at H
      exact absurd H (by simp)

end Go.Proofs.YtholnjcfhjjphaaDoor.PAll
