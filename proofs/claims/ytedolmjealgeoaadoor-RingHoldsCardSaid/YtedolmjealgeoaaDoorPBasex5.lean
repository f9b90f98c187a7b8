-- Printed by a program of ours (wip/common/mkprint.py), turned from the kit's print; Lean checks it.
import Derived.Test.YtedolmjealgeoaaDoorPBasex0
import Derived.Test.YtedolmjealgeoaaDoorPBasex4
namespace Go.Proofs.YtedolmjealgeoaaDoor.PBase
open Go.Proofs.YtedolmjealgeoaaDoor.Gv
open Go.RowKit Go.Proofs.YtedolmjealgeoaaDoorW.PrintWords Go.Proofs.YtedolmjealgeoaaDoorW.PrintLast Go.Proofs.YtedolmjealgeoaaDoorW.PrintMore
attribute [local go_sem] max2_int min2_int max_two min_two max_three min_three max_four min_four   -- for this text's walks alone
set_option linter.unusedVariables false
set_option linter.unusedSimpArgs false

/-! ### remontoirref01_Held: function 41 -/
def remontoirref01_Held.f (a0 : Int) (a1 : Int) : Option (Int) := (remontoirref01_Sum.f a0 a1).bind fun bt192 => (if bt192.2 = true then (some bt192.1) else (some 18446744073709551615))
set_option maxHeartbeats 8000000 in
set_option maxRecDepth 100000 in
theorem remontoirref01_Held.calls (a0 : Int) (a1 : Int) (r : Int) (w : World) (h : remontoirref01_Held.f a0 a1 = some r) :
    Calls Tryd.prog 41 #[.int .u64 a0, .int .u64 a1] w fun e w' => e = .returned (.int .u64 r) ∧ Below w.heap.size w w' := by
  have hu64 := Tryd.underlying64
  have HB := Aside0.mk (Below.refl w.heap.size w)
  have H : ((remontoirref01_Sum.f a0 a1).bind fun bt192 => (if bt192.2 = true then (some bt192.1) else (some 18446744073709551615))) = some r := h
  clear h
  replace H := Option.bind_eq_some_iff.mp H
  obtain ⟨⟨t192, t193⟩, A30, H⟩ := H
  replace H : (if t193 = true then (some t192) else (some 18446744073709551615)) = some r := H
  have A3 := Aside0.mk A30
  clear A30
  by_cases c4 : t193 = true
  · subst c4
    have H1 : (some t192) = some r := by rw [if_pos rfl] at H; exact H
    clear H
    have H := H1
    clear H1
    obtain rfl := Option.some.inj H
    go_enter Tryd.func41, Tryd.ntmps41
    go_wp2_with (first | ((with_reducible refine gate_callee (f := 33) rfl ?_); refine goesL_ (some 8) rfl rfl Tryd.func33 (by kernel_rfl) rfl #[.int .u64 a0, .int .u64 a1] rfl (by (try simp only [List.map_toArray, List.map_cons, List.map_nil]); first | done | rfl | (simp only [List.length_drop, List.length_take]; rfl)) ?_; (with_reducible refine (remontoirref01_Sum.calls a0 a1 t192 true _ A3.out).mono ?_); rintro e w5 ⟨rfl, hb⟩; refine ⟨_, rfl, ?_⟩; have n0_ := Aside0.mk (below_step (by repeat (first | (with_reducible first | exact HB.out | apply below_alloc | apply pw_below_drewN | apply below_drew1) | exact HB.out)) hb); clear HB; have HB := n0_; clear n0_; (try clear hb); (try clear hb2); (try clear hk); (try clear hi)) | ((with_reducible refine gate_dst (N := 5) rfl ?_); refine box_event ?hg (N := 5) ?hd (cs := #[.int .u64 0, .bool false]) (t := 64) ?hr ?_; (case hd => rfl); (case hg => rfl); (case hr => first | (go_simp; done) | (go_simp; rfl)); intro gb194 hg w6 hbox hb; have n0_ := Aside0.mk (below_step (by repeat (first | (with_reducible first | exact HB.out | apply below_alloc | apply pw_below_drewN | apply below_drew1) | exact HB.out)) hb); have n1_ := Aside0.mk (hbox); have n2_ := Aside0.mk ((by rw [hg]; exact (below_size (by repeat (first | (with_reducible first | exact HB.out | apply below_alloc | apply pw_below_drewN | apply below_drew1) | exact HB.out))) : w.heap.size ≤ gb194)); have n3_ := Aside0.mk ((by rw [hg]; exact (below_size (by repeat (first | (with_reducible first | exact HB.out | apply below_alloc | apply pw_below_drewN | apply below_drew1) | exact HB.out))) : w.heap.size ≤ gb194)); clear HB; have HB := n0_; have BK194 := n1_; have GW194 := n2_; have GE194 := n3_; clear n0_ n1_ n2_ n3_; clear hb hbox hg; have hcz7_0 : w6.cell? ⟨gb194, 0, none⟩ = some (.int .u64 0) := (blk_cell BK194.out 0).trans rfl; have hcz7_1 : w6.cell? ⟨gb194, 1, none⟩ = some (.bool false) := (blk_cell BK194.out 1).trans rfl; have hfz7_0 := blk_frozen BK194.out 0; have hfz7_1 := blk_frozen BK194.out 1))
    go_ret
    exact ⟨by first | rfl | (simp [errW_none, errW_some] <;> rfl) | (simp [*, errW_none, errW_some] <;> rfl), by repeat (first | (with_reducible first | exact HB.out | apply below_alloc | apply pw_below_drewN | apply below_drew1 | refine below_set ?_ GE194.out) | exact HB.out)⟩
  · replace c4 := Bool.eq_false_iff.mpr c4
    subst c4
    have H1 : (some 18446744073709551615) = some r := by rw [if_neg (show ¬ (false = true) by decide)] at H; exact H
    clear H
    have H := H1
    clear H1
    obtain rfl := Option.some.inj H
    go_enter Tryd.func41, Tryd.ntmps41
    go_wp2_with (first | ((with_reducible refine gate_callee (f := 33) rfl ?_); refine goesL_ (some 8) rfl rfl Tryd.func33 (by kernel_rfl) rfl #[.int .u64 a0, .int .u64 a1] rfl (by (try simp only [List.map_toArray, List.map_cons, List.map_nil]); first | done | rfl | (simp only [List.length_drop, List.length_take]; rfl)) ?_; (with_reducible refine (remontoirref01_Sum.calls a0 a1 t192 false _ A3.out).mono ?_); rintro e w8 ⟨rfl, hb⟩; refine ⟨_, rfl, ?_⟩; have n0_ := Aside0.mk (below_step (by repeat (first | (with_reducible first | exact HB.out | apply below_alloc | apply pw_below_drewN | apply below_drew1) | exact HB.out)) hb); clear HB; have HB := n0_; clear n0_; (try clear hb); (try clear hb2); (try clear hk); (try clear hi)) | ((with_reducible refine gate_dst (N := 5) rfl ?_); refine box_event ?hg (N := 5) ?hd (cs := #[.int .u64 0, .bool false]) (t := 64) ?hr ?_; (case hd => rfl); (case hg => rfl); (case hr => first | (go_simp; done) | (go_simp; rfl)); intro gb194 hg w9 hbox hb; have n0_ := Aside0.mk (below_step (by repeat (first | (with_reducible first | exact HB.out | apply below_alloc | apply pw_below_drewN | apply below_drew1) | exact HB.out)) hb); have n1_ := Aside0.mk (hbox); have n2_ := Aside0.mk ((by rw [hg]; exact (below_size (by repeat (first | (with_reducible first | exact HB.out | apply below_alloc | apply pw_below_drewN | apply below_drew1) | exact HB.out))) : w.heap.size ≤ gb194)); have n3_ := Aside0.mk ((by rw [hg]; exact (below_size (by repeat (first | (with_reducible first | exact HB.out | apply below_alloc | apply pw_below_drewN | apply below_drew1) | exact HB.out))) : w.heap.size ≤ gb194)); clear HB; have HB := n0_; have BK194 := n1_; have GW194 := n2_; have GE194 := n3_; clear n0_ n1_ n2_ n3_; clear hb hbox hg; have hcz10_0 : w9.cell? ⟨gb194, 0, none⟩ = some (.int .u64 0) := (blk_cell BK194.out 0).trans rfl; have hcz10_1 : w9.cell? ⟨gb194, 1, none⟩ = some (.bool false) := (blk_cell BK194.out 1).trans rfl; have hfz10_0 := blk_frozen BK194.out 0; have hfz10_1 := blk_frozen BK194.out 1))
    go_ret
    exact ⟨by first | rfl | (simp [errW_none, errW_some] <;> rfl) | (simp [*, errW_none, errW_some] <;> rfl), by repeat (first | (with_reducible first | exact HB.out | apply below_alloc | apply pw_below_drewN | apply below_drew1 | refine below_set ?_ GE194.out) | exact HB.out)⟩

/-- A state of type 80 at block g of W; what its slices lead to came in by w0. -/
def IsS80 (w0 W : World) (g : Nat) (f0 : List (S31)) (f1 : Int) : Prop := ∃ A0 c0, W.heap[g]? = some (.cells #[.slice A0 f0.length c0, .int .u64 f1] 80 (0, 0)) ∧ w0.heap.size ≤ g ∧ Kd.C k31 w0 A0 f0.length f0
theorem IsS80.grown {w0 W : World} {g : Nat} {f0 : List (S31)} {f1 : Int} {W1 : World} {row : Option Nat} (h : IsS80 w0 W g f0 f1) (hw : W.grownBy W1 row) (hne : some g ≠ row) : IsS80 w0 W1 g f0 f1 := by
  obtain ⟨A0, c0, hb, hg, hr0⟩ := h
  exact ⟨A0, c0, blk_grown hb hw hne, hg, hr0⟩
theorem IsS80.own_neN {w0 W : World} {g : Nat} {f0 : List (S31)} {f1 : Int} {α : Type} {d : Kd α} {e : Nat} {base : Nat} {ok : Nat → Prop} {v : Value} {xs : List α} (h : IsS80 w0 W g f0 f1) (ho : Kd.N d e W base ok v xs) (ht : e ≠ 80) : some g ≠ v.ownBlock := by
  obtain ⟨A0, c0, hb, hg, hr0⟩ := h
  exact Kd.N_ne ho hb ht
theorem IsS80.fresh {w0 W : World} {g : Nat} {f0 : List (S31)} {f1 : Int} (h : IsS80 w0 W g f0 f1) : ∀ k, W.heap.size ≤ k → k ≠ g := by
  obtain ⟨A0, c0, hb, hg, hr0⟩ := h
  exact Kd.freshB hb
theorem IsS80.kept {w0 W : World} {g : Nat} {f0 : List (S31)} {f1 : Int} {W1 : World} {S : Nat → Prop} (h : IsS80 w0 W g f0 f1) (hk : Kept W W1 S) (hne : ¬ S g) : IsS80 w0 W1 g f0 f1 := by
  obtain ⟨A0, c0, hb, hg, hr0⟩ := h
  exact ⟨A0, c0, blk_kept hb hk hne, hg, hr0⟩
theorem IsS80.below {w0 W : World} {g : Nat} {f0 : List (S31)} {f1 : Int} {W1 : World} (h : IsS80 w0 W g f0 f1) (hw : Below W.heap.size W W1) : IsS80 w0 W1 g f0 f1 := h.grown (grown_of_below hw none) (by simp)
theorem IsS80.alloc {w0 W : World} {g : Nat} {f0 : List (S31)} {f1 : Int} (h : IsS80 w0 W g f0 f1) (o : Obj) : IsS80 w0 (W.alloc o) g f0 f1 := h.below (below_alloc (Below.refl _ _) o)
theorem IsS80.drewN {w0 W : World} {g : Nat} {f0 : List (S31)} {f1 : Int} (h : IsS80 w0 W g f0 f1) (m : Nat) : IsS80 w0 (W.drewN m) g f0 f1 := h
theorem IsS80.drew {w0 W : World} {g : Nat} {f0 : List (S31)} {f1 : Int} (h : IsS80 w0 W g f0 f1) : IsS80 w0 W.drew g f0 f1 := h
theorem IsS80.at_ {w0 W : World} {g : Nat} {f0 : List (S31)} {f1 : Int} {w' : World} {m : Nat} (hq : W.drewN m = w') (h : IsS80 w0 W g f0 f1) : IsS80 w0 w' g f0 f1 := by subst hq; exact IsS80.drewN h m
theorem IsS80.apart {w0 W : World} {g : Nat} {f0 : List (S31)} {f1 : Int} {α : Type} {d : Kd α} {e : Nat} {base : Nat} {ok : Nat → Prop} {v : Value} {xs : List α} (h : IsS80 w0 W g f0 f1) (ho : d.R e W base ok v xs) (ht : ∀ q, q ∈ e :: d.E → q ≠ 80) : d.R e W base (fun k => ok k ∧ k ≠ g) v xs := by
  obtain ⟨A0, c0, hb, hg, hr0⟩ := h
  exact Kd.R_types ho hb ht
theorem IsS80.own_ne {w0 W : World} {g : Nat} {f0 : List (S31)} {f1 : Int} {α : Type} {d : Kd α} {e : Nat} {base : Nat} {ok : Nat → Prop} {v : Value} {xs : List α} (h : IsS80 w0 W g f0 f1) (ho : d.R e W base ok v xs) (ht : e ≠ 80) : some g ≠ v.ownBlock := by
  obtain ⟨A0, c0, hb, hg, hr0⟩ := h
  exact Kd.R_ne ho hb ht
theorem IsS80.apartQ {w0 W : World} {g : Nat} {f0 : List (S31)} {f1 : Int} {α : Type} {d : Kd α} {e : Nat} {base : Nat} {ok : Nat → Prop} {v : Value} {xs : List α} (h : IsS80 w0 W g f0 f1) (ho : d.Q e W base ok v xs) (ht : ∀ q, q ∈ e :: d.E → q ≠ 80) : d.Q e W base (fun k => ok k ∧ k ≠ g) v xs := by
  obtain ⟨A0, c0, hb, hg, hr0⟩ := h
  exact Kd.Q_types ho hb ht
theorem IsS80.own_neQ {w0 W : World} {g : Nat} {f0 : List (S31)} {f1 : Int} {α : Type} {d : Kd α} {e : Nat} {base : Nat} {ok : Nat → Prop} {v : Value} {xs : List α} (h : IsS80 w0 W g f0 f1) (ho : d.Q e W base ok v xs) (ht : e ≠ 80) : some g ≠ v.ownBlock := by
  obtain ⟨A0, c0, hb, hg, hr0⟩ := h
  exact Kd.Q_ne ho hb ht
theorem IsS80.apartS {w0 W : World} {g : Nat} {f0 : List (S31)} {f1 : Int} {α : Type} {d : Kd α} {e : Nat} {base : Nat} {ok : Nat → Prop} {v : Value} {xs : List α} (h : IsS80 w0 W g f0 f1) (ho : d.S e W base ok v xs) (ht : ∀ q, q ∈ e :: d.E → q ≠ 80) : d.S e W base (fun k => ok k ∧ k ≠ g) v xs := by
  obtain ⟨A0, c0, hb, hg, hr0⟩ := h
  exact Kd.S_types ho hb ht
theorem IsS80.own_neS {w0 W : World} {g : Nat} {f0 : List (S31)} {f1 : Int} {α : Type} {d : Kd α} {e : Nat} {base : Nat} {ok : Nat → Prop} {v : Value} {xs : List α} (h : IsS80 w0 W g f0 f1) (ho : d.S e W base ok v xs) (ht : e ≠ 80) : some g ≠ v.ownBlock := by
  obtain ⟨A0, c0, hb, hg, hr0⟩ := h
  exact Kd.S_ne ho hb ht
theorem IsS80.lt {w0 W : World} {g : Nat} {f0 : List (S31)} {f1 : Int} (h : IsS80 w0 W g f0 f1) : g < W.heap.size := by
  obtain ⟨A0, c0, hb, hg, hr0⟩ := h
  exact blk_lt hb
theorem IsS80.ge {w0 W : World} {g : Nat} {f0 : List (S31)} {f1 : Int} (h : IsS80 w0 W g f0 f1) : w0.heap.size ≤ g := by
  obtain ⟨A0, c0, hb, hg, hr0⟩ := h
  exact hg
theorem IsS80.ne_blk {w0 W : World} {g : Nat} {f0 : List (S31)} {f1 : Int} {a : Nat} {cs : Array Value} {t : TypeId} {fr : Nat × Nat} (h : IsS80 w0 W g f0 f1) (hb2 : W.heap[a]? = some (.cells cs t fr)) (ht : t ≠ 80) : g ≠ a := by
  obtain ⟨A0, c0, hb, hg, hr0⟩ := h
  rintro rfl
  rw [hb] at hb2
  injection hb2 with hb2
  injection hb2 with _ ht2
  exact ht ht2.symm
theorem IsS80.far {w0 W : World} {g : Nat} {f0 : List (S31)} {f1 : Int} {p : Addr} (h : IsS80 w0 W g f0 f1) (hne : g ≠ p.block) (u : Value) : IsS80 w0 (W.setCell p u) g f0 f1 := by
  obtain ⟨A0, c0, hb, hg, hr0⟩ := h
  exact ⟨A0, c0, blk_far hb hne u, hg, hr0⟩
theorem cellS80_0 {W : World} {g : Nat} {A0 : Option Addr} {c0 : Nat} {f0 : List (S31)} {f1 : Int} (h : W.heap[g]? = some (.cells #[.slice A0 f0.length c0, .int .u64 f1] 80 (0, 0))) : W.cell? ⟨g, 0, none⟩ = some (.slice A0 f0.length c0) := (blk_cell h 0).trans rfl
theorem cellS80_1 {W : World} {g : Nat} {A0 : Option Addr} {c0 : Nat} {f0 : List (S31)} {f1 : Int} (h : W.heap[g]? = some (.cells #[.slice A0 f0.length c0, .int .u64 f1] 80 (0, 0))) : W.cell? ⟨g, 1, none⟩ = some (.int .u64 f1) := (blk_cell h 1).trans rfl
theorem IsS80.set_1 {w0 W : World} {g : Nat} {f0 : List (S31)} {f1 : Int} (h : IsS80 w0 W g f0 f1) (x : Int) : IsS80 w0 (W.setCell ⟨g, 1, none⟩ (.int .u64 x)) g f0 x := by
  obtain ⟨A0, c0, hb, hg, hr0⟩ := h
  exact ⟨A0, c0, by simpa using blk_set hb 1 (.int .u64 x), hg, hr0⟩
theorem IsS80.new (w0 W : World) (A0 : Option Addr) (c0 : Nat) (f0 : List (S31)) (f1 : Int) (hB : Below w0.heap.size w0 W) (hr0 : Kd.C k31 w0 A0 f0.length f0) : IsS80 w0 (W.alloc (.cells #[.slice A0 f0.length c0, .int .u64 f1] 80)) W.heap.size f0 f1 := ⟨A0, c0, by simpa using heap_alloc_new W _, hB.size, hr0⟩

/-! ### remontoirref06_Wheel_find: function 75 -/
def remontoirref06_Wheel_find.l0 : Nat → Int → Int → List (S31) → Int → Option (Int × Int)
  | 0, _, _, _, _ => none
  | k + 1, x1, x5, x1000, x1001 => if x5 < (x1000.length : Int) then (if 0 ≤ x5 then (if ((rd_T31 x1000 x5).f0) = x1 then (some (x5, x1001)) else (remontoirref06_Wheel_find.l0 k x1 (wrap64 (x5 + 1)) x1000 x1001)) else (none)) else (some ((-1), x1001))
def remontoirref06_Wheel_find.f (k : Nat) (s0_0 : List (S31)) (s0_1 : Int) (a1 : Int) : Option (Int × Int) := remontoirref06_Wheel_find.l0 k a1 0 s0_0 s0_1
theorem remontoirref06_Wheel_find.mono_l : ∀ k, (∀ y0 y1 y2 y3, LeO (remontoirref06_Wheel_find.l0 k y0 y1 y2 y3) (remontoirref06_Wheel_find.l0 (k + 1) y0 y1 y2 y3))
  | 0 => fun _ _ _ _ r h => by simp [remontoirref06_Wheel_find.l0] at h
  | k + 1 => by
    have ih0 := remontoirref06_Wheel_find.mono_l k
    · intro y0 y1 y2 y3
      unfold remontoirref06_Wheel_find.l0
      repeat' first
      | (with_reducible exact ih0 _ _ _ _)
      | (with_reducible exact LeO.refl _)
      | (with_reducible exact LeO.none _)
      | (with_reducible refine LeO.ite ?_ ?_)
      | (with_reducible refine LeO.bind ?_ (fun _ => ?_))
      | exact ih0 _ _ _ _
      | exact LeO.none _
      | refine LeO.ite ?_ ?_
      | refine LeO.bind ?_ (fun _ => ?_)
theorem remontoirref06_Wheel_find.mono : ∀ a0 a1 a2 k, LeO (remontoirref06_Wheel_find.f k a0 a1 a2) (remontoirref06_Wheel_find.f (k + 1) a0 a1 a2) := by
  intro a0 a1 a2 k
  have ih0 := remontoirref06_Wheel_find.mono_l k
  unfold remontoirref06_Wheel_find.f
  repeat' first
      | (with_reducible exact ih0 _ _ _ _)
      | (with_reducible exact LeO.refl _)
      | (with_reducible exact LeO.none _)
      | (with_reducible refine LeO.ite ?_ ?_)
      | (with_reducible refine LeO.bind ?_ (fun _ => ?_))
      | exact ih0 _ _ _ _
      | exact LeO.none _
      | refine LeO.ite ?_ ?_
      | refine LeO.bind ?_ (fun _ => ?_)
set_option maxHeartbeats 8000000 in
set_option maxRecDepth 100000 in
theorem remontoirref06_Wheel_find.calls (k : Nat) (g : Nat) (s0_0 : List (S31)) (s0_1 : Int) (a1 : Int) (r1 : Int) (r2 : Int) (w0 w : World) (hI : IsS80 w0 w g s0_0 s0_1) (hB : Below w0.heap.size w0 w) (h : remontoirref06_Wheel_find.f k s0_0 s0_1 a1 = some (r1, r2)) :
    Calls Tryd.prog 75 #[.pointer (some ⟨g, 0, none⟩), .int .i64 a1] w fun e w' => e = .returned (.int .i64 r1) ∧ IsS80 w0 w' g s0_0 r2 ∧ Below w0.heap.size w0 w' ∧ KeepBut w w' g none := by
  have HI0 := Aside0.mk hI
  have HK := Aside0.mk (KeepBut.refl w g none)
  have HL := Aside0.mk hB.size
  clear hI
  have HW0 := Aside0.mk hB.size
  have HB := Aside0.mk hB
  clear hB
  have H : (remontoirref06_Wheel_find.l0 k a1 0 s0_0 s0_1) = some (r1, r2) := h
  clear h
  have H' := Aside0.mk H
  clear H
  go_enter Tryd.func75, Tryd.ntmps75
  go_wp2
  go_loopg [5] k (fun kq v5 w' => ∃ (x5_1 : Int), v5 = .int .i64 x5_1 ∧ Aside0 (remontoirref06_Wheel_find.l0 kq a1 x5_1 s0_0 s0_1 = some (r1, r2)) ∧ Aside0 (kq ≤ k) ∧ Aside0 (IsS80 w0 w' g s0_0 s0_1) ∧ Aside0 (KeepBut w w' g none) ∧ Aside0 (Below w0.heap.size w0 w'))
  case atStart => exact ⟨(0), (by first | rfl | (simp; done) | (simp [*]; done) | (simp; decide +kernel)), H', ⟨Nat.le_refl _⟩, ⟨by repeat (first | (with_reducible first | exact HI0.out | apply IsS80.alloc | apply IsS80.drewN | apply IsS80.drew | apply IsS80.set_1) | exact HI0.out)⟩, ⟨by repeat (first | (with_reducible first | exact HK.out | apply KeepBut.set_ | apply keep_drewN | apply keep_drew | apply keep_alloc) | exact HK.out)⟩, ⟨by repeat (first | (with_reducible first | exact HB.out | apply below_alloc | apply pw_below_drewN | apply below_drew1 | refine below_set ?_ (IsS80.ge HI0.out)) | exact HB.out)⟩⟩
  case round =>
    clear H'
    try clear p2
    obtain ⟨x5_1, rfl, HA, HK1, HI0, HK, HB⟩ := hrel
    cases gk with
    | zero => exact absurd HA.out (by simp [remontoirref06_Wheel_find.l0])
    | succ k1 =>
      have H := HA.out
      clear HA
      simp only [remontoirref06_Wheel_find.l0] at H
      by_cases c3 : x5_1 < (s0_0.length : Int)
      · rw [if_pos c3] at H
        have c3b0 : decide (x5_1 < (s0_0.length : Int)) = true := decide_eq_true c3
        clear c3
        by_cases c4 : 0 ≤ x5_1
        · rw [if_pos c4] at H
          have c4b0 : decide (0 ≤ x5_1) = true := decide_eq_true c4
          clear c4
          by_cases c5 : ((rd_T31 s0_0 x5_1).f0) = a1
          · rw [if_pos c5] at H
            have c5b0 : (((rd_T31 s0_0 x5_1).f0) == a1) = true := beq_iff_eq.mpr c5
            have c5b1 : (((rd_T31 s0_0 x5_1).f0) != a1) = false := bne_eq_false_iff_eq.mpr c5
            clear c5
            simp only [Option.some.injEq, Prod.mk.injEq] at H
            obtain ⟨rfl, rfl⟩ := H
            obtain ⟨ASz6_0, cSz6_0, HGz6, hgz6, HSz6_0⟩ := HI0.out
            have hcz6_0 := cellS80_0 HGz6
            have hcz6_1 := cellS80_1 HGz6
            have hfz6_1 := blk_frozen HGz6 1
            clear HGz6 hgz6
            have p195 : 0 ≤ (x5_1 : Int) := of_decide_eq_true (by first | (with_reducible assumption) | assumption)
            have q195 : x5_1 < (s0_0.length : Int) := of_decide_eq_true (by first | (with_reducible assumption) | assumption)
            obtain ⟨ad195, e195, hx195_0, hx195_1⟩ := at_T31 HSz6_0 x5_1 p195 q195
            cases e195
            replace hx195_0 := pw_cell_below HB.out hx195_0
            replace hx195_1 := pw_cell_below HB.out hx195_1
            replace p195 := eq_true p195
            replace q195 := eq_true q195
            go_wp2
            go_ret
            exact ⟨by first | rfl | (simp [errW_none, errW_some] <;> rfl) | (simp [*, errW_none, errW_some] <;> rfl), by repeat (first | (with_reducible first | exact HI0.out | apply IsS80.alloc | apply IsS80.drewN | apply IsS80.drew | apply IsS80.set_1) | exact HI0.out), by repeat (first | (with_reducible first | exact HB.out | apply below_alloc | apply pw_below_drewN | apply below_drew1 | refine below_set ?_ (IsS80.ge HI0.out)) | exact HB.out), by repeat (first | (with_reducible first | exact HK.out | apply KeepBut.set_ | apply keep_drewN | apply keep_drew | apply keep_alloc) | exact HK.out)⟩
          · rw [if_neg c5] at H
            have c5b0 : (((rd_T31 s0_0 x5_1).f0) == a1) = false := beq_eq_false_iff_ne.mpr c5
            have c5b1 : (((rd_T31 s0_0 x5_1).f0) != a1) = true := bne_iff_ne.mpr c5
            have H' := Aside0.mk H
            clear H
            obtain ⟨ASz7_0, cSz7_0, HGz7, hgz7, HSz7_0⟩ := HI0.out
            have hcz7_0 := cellS80_0 HGz7
            have hcz7_1 := cellS80_1 HGz7
            have hfz7_1 := blk_frozen HGz7 1
            clear HGz7 hgz7
            have p195 : 0 ≤ (x5_1 : Int) := of_decide_eq_true (by first | (with_reducible assumption) | assumption)
            have q195 : x5_1 < (s0_0.length : Int) := of_decide_eq_true (by first | (with_reducible assumption) | assumption)
            obtain ⟨ad195, e195, hx195_0, hx195_1⟩ := at_T31 HSz7_0 x5_1 p195 q195
            cases e195
            replace hx195_0 := pw_cell_below HB.out hx195_0
            replace hx195_1 := pw_cell_below HB.out hx195_1
            replace p195 := eq_true p195
            replace q195 := eq_true q195
            go_wp2
            go_roundg k1
            case measure => have := HK1.out; omega
            case rel => exact ⟨(wrap64 (x5_1 + 1)), (by first | rfl | (simp; done) | (simp [*]; done) | (simp; decide +kernel)), H', ⟨by have := HK1.out; omega⟩, ⟨by repeat (first | (with_reducible first | exact HI0.out | apply IsS80.alloc | apply IsS80.drewN | apply IsS80.drew | apply IsS80.set_1) | exact HI0.out)⟩, ⟨by repeat (first | (with_reducible first | exact HK.out | apply KeepBut.set_ | apply keep_drewN | apply keep_drew | apply keep_alloc) | exact HK.out)⟩, ⟨by repeat (first | (with_reducible first | exact HB.out | apply below_alloc | apply pw_below_drewN | apply below_drew1 | refine below_set ?_ (IsS80.ge HI0.out)) | exact HB.out)⟩⟩
        · rw [if_neg c4] at H
          exact absurd H (by simp)
      · rw [if_neg c3] at H
        have c3b0 : decide (x5_1 < (s0_0.length : Int)) = false := decide_eq_false c3
        clear c3
        simp only [Option.some.injEq, Prod.mk.injEq] at H
        obtain ⟨rfl, rfl⟩ := H
        obtain ⟨ASz8_0, cSz8_0, HGz8, hgz8, HSz8_0⟩ := HI0.out
        have hcz8_0 := cellS80_0 HGz8
        have hcz8_1 := cellS80_1 HGz8
        have hfz8_1 := blk_frozen HGz8 1
        clear HGz8 hgz8
        go_wp2
        go_ret
        exact ⟨by first | rfl | (simp [errW_none, errW_some] <;> rfl) | (simp [*, errW_none, errW_some] <;> rfl), by repeat (first | (with_reducible first | exact HI0.out | apply IsS80.alloc | apply IsS80.drewN | apply IsS80.drew | apply IsS80.set_1) | exact HI0.out), by repeat (first | (with_reducible first | exact HB.out | apply below_alloc | apply pw_below_drewN | apply below_drew1 | refine below_set ?_ (IsS80.ge HI0.out)) | exact HB.out), by repeat (first | (with_reducible first | exact HK.out | apply KeepBut.set_ | apply keep_drewN | apply keep_drew | apply keep_alloc) | exact HK.out)⟩

-- NOT PRINTED: function 42 (remontoirref06_Wheel_Insert)

/-! ### remontoirref06_Wheel_At: function 49 -/
def remontoirref06_Wheel_At.f (k : Nat) (s0_0 : List (S31)) (s0_1 : Int) (a1 : Int) : Option (Int × Bool × Int) := (remontoirref06_Wheel_find.f k s0_0 s0_1 a1).bind fun bt202 => (if bt202.1 < 0 then (some (0, false, bt202.2)) else (if 0 ≤ bt202.1 then (if bt202.1 < (s0_0.length : Int) then (some ((rd_T31 s0_0 bt202.1).f1, true, bt202.2)) else (none)) else (none)))
theorem remontoirref06_Wheel_At.mono : ∀ a0 a1 a2 k, LeO (remontoirref06_Wheel_At.f k a0 a1 a2) (remontoirref06_Wheel_At.f (k + 1) a0 a1 a2) := by
  intro a0 a1 a2 k
  unfold remontoirref06_Wheel_At.f
  repeat' first
      | (with_reducible exact remontoirref06_Wheel_find.mono _ _ _ _)
      | (with_reducible exact LeO.refl _)
      | (with_reducible exact LeO.none _)
      | (with_reducible refine LeO.ite ?_ ?_)
      | (with_reducible refine LeO.bind ?_ (fun _ => ?_))
      | exact remontoirref06_Wheel_find.mono _ _ _ _
      | exact LeO.none _
      | refine LeO.ite ?_ ?_
      | refine LeO.bind ?_ (fun _ => ?_)
set_option maxHeartbeats 8000000 in
set_option maxRecDepth 100000 in
theorem remontoirref06_Wheel_At.calls (k : Nat) (g : Nat) (s0_0 : List (S31)) (s0_1 : Int) (a1 : Int) (r1 : Int) (r2 : Bool) (r3 : Int) (w0 w : World) (hI : IsS80 w0 w g s0_0 s0_1) (hB : Below w0.heap.size w0 w) (h : remontoirref06_Wheel_At.f k s0_0 s0_1 a1 = some (r1, r2, r3)) :
    Calls Tryd.prog 49 #[.pointer (some ⟨g, 0, none⟩), .int .i64 a1] w fun e w' => e = .returned (.agg #[.int .u64 r1, .bool r2]) ∧ IsS80 w0 w' g s0_0 r3 ∧ Below w0.heap.size w0 w' ∧ KeepBut w w' g none := by
  have hu64 := Tryd.underlying64
  have HI0 := Aside0.mk hI
  have HK := Aside0.mk (KeepBut.refl w g none)
  have HL := Aside0.mk hB.size
  clear hI
  have HW0 := Aside0.mk hB.size
  have HB := Aside0.mk hB
  clear hB
  have H : ((remontoirref06_Wheel_find.f k s0_0 s0_1 a1).bind fun bt202 => (if bt202.1 < 0 then (some (0, false, bt202.2)) else (if 0 ≤ bt202.1 then (if bt202.1 < (s0_0.length : Int) then (some ((rd_T31 s0_0 bt202.1).f1, true, bt202.2)) else (none)) else (none)))) = some (r1, r2, r3) := h
  clear h
  replace H := Option.bind_eq_some_iff.mp H
  obtain ⟨⟨t202, t203⟩, A30, H⟩ := H
  replace H : (if t202 < 0 then (some (0, false, t203)) else (if 0 ≤ t202 then (if t202 < (s0_0.length : Int) then (some ((rd_T31 s0_0 t202).f1, true, t203)) else (none)) else (none))) = some (r1, r2, r3) := H
  have A3 := Aside0.mk A30
  clear A30
  by_cases c4 : t202 < 0
  · rw [if_pos c4] at H
    have c4b0 : decide (t202 < 0) = true := decide_eq_true c4
    clear c4
    simp only [Option.some.injEq, Prod.mk.injEq] at H
    obtain ⟨rfl, rfl, rfl⟩ := H
    go_enter Tryd.func49, Tryd.ntmps49
    go_wp2_with (first | ((with_reducible refine gate_dst (N := 4) rfl ?_); refine box_event ?hg (N := 4) ?hd (cs := #[.int .u64 0, .bool false]) (t := 64) ?hr ?_; (case hd => rfl); (case hg => rfl); (case hr => first | (go_simp; done) | (go_simp; rfl)); intro gb201 hg w5 hbox hb; have n0_ := Aside0.mk (IsS80.below (by repeat (first | (with_reducible first | exact HI0.out | apply IsS80.alloc | apply IsS80.drewN | apply IsS80.drew | apply IsS80.set_1) | exact HI0.out)) hb); have n1_ := Aside0.mk (KeepBut.trans (by repeat (first | (with_reducible first | exact HK.out | apply KeepBut.set_ | apply keep_drewN | apply keep_drew | apply keep_alloc) | exact HK.out)) (KeepBut.of_below hb g none) (.inl rfl)); have n2_ := Aside0.mk (below_step (by repeat (first | (with_reducible first | exact HB.out | apply below_alloc | apply pw_below_drewN | apply below_drew1 | refine below_set ?_ (IsS80.ge HI0.out)) | exact HB.out)) hb); have n3_ := Aside0.mk (hbox); have n4_ := Aside0.mk ((by rw [hg]; exact (keep_size (w := w) (g := g) (row := none) (by repeat (first | (with_reducible first | exact HK.out | apply KeepBut.set_ | apply keep_drewN | apply keep_drew | apply keep_alloc) | exact HK.out))) : w.heap.size ≤ gb201)); have n5_ := Aside0.mk ((Nat.le_trans HW0.out (by rw [hg]; exact (keep_size (w := w) (g := g) (row := none) (by repeat (first | (with_reducible first | exact HK.out | apply KeepBut.set_ | apply keep_drewN | apply keep_drew | apply keep_alloc) | exact HK.out))) : w.heap.size ≤ gb201) : w0.heap.size ≤ gb201)); have n6_ := Aside0.mk ((by rw [hg]; exact Nat.ne_of_lt (IsS80.lt (show IsS80 w0 _ g s0_0 s0_1 from by repeat (first | (with_reducible first | exact HI0.out | apply IsS80.alloc | apply IsS80.drewN | apply IsS80.drew | apply IsS80.set_1) | exact HI0.out))) : g ≠ gb201)); have n7_ := Aside0.mk ((by rw [hg]; exact Nat.ne_of_gt (IsS80.lt (show IsS80 w0 _ g s0_0 s0_1 from by repeat (first | (with_reducible first | exact HI0.out | apply IsS80.alloc | apply IsS80.drewN | apply IsS80.drew | apply IsS80.set_1) | exact HI0.out))) : gb201 ≠ g)); clear HI0; clear HK; clear HB; have HI0 := n0_; have HK := n1_; have HB := n2_; have BK201 := n3_; have GW201 := n4_; have GE201 := n5_; have NB0_201 := n6_; have NB201_0 := n7_; clear n0_ n1_ n2_ n3_ n4_ n5_ n6_ n7_; clear hb hbox hg) | ((with_reducible refine gate_callee (f := 75) rfl ?_); refine goesL_ (some 8) rfl rfl Tryd.func75 (by kernel_rfl) rfl #[.pointer (some ⟨g, 0, none⟩), .int .i64 a1] rfl (by (try simp only [List.map_toArray, List.map_cons, List.map_nil]); first | done | rfl | (simp only [List.length_drop, List.length_take]; rfl)) ?_; (with_reducible refine (remontoirref06_Wheel_find.calls k g s0_0 s0_1 a1 t202 t203 w0 _ ?side1 ?side2 A3.out).mono ?_); (case side1 => repeat (first | (with_reducible first | exact HI0.out | apply IsS80.alloc | apply IsS80.drewN | apply IsS80.drew | apply IsS80.set_1 | refine IsS80.far ?_ NB0_201.out _) | exact HI0.out)); (case side2 => repeat (first | (with_reducible first | exact HB.out | apply below_alloc | apply pw_below_drewN | apply below_drew1 | refine below_set ?_ (IsS80.ge HI0.out) | refine below_set ?_ GE201.out) | exact HB.out)); rintro e w6 ⟨rfl, hi, hb, hk⟩; refine ⟨_, rfl, ?_⟩; have n0_ := Aside0.mk (KeepBut.blk hk (g' := gb201) (o := .cells #[.int .u64 0, .bool false] 64 (0, 0)) (by (with_reducible repeat (first | refine blk_drewN ?_ _ | refine blk_drew ?_ | refine blk_alloc ?_ _)); exact BK201.out) NB201_0.out (by simp)); have n1_ := Aside0.mk (KeepBut.trans (by repeat (first | (with_reducible first | exact HK.out | apply KeepBut.set_ | apply keep_drewN | apply keep_drew | apply keep_alloc | refine keep_far ?_ GW201.out _) | exact HK.out)) hk (.inl rfl)); have n2_ := Aside0.mk (hb); have n3_ := Aside0.mk (hi); clear BK201; clear HK; clear HB; clear HI0; have BK201 := n0_; have HK := n1_; have HB := n2_; have HI0 := n3_; clear n0_ n1_ n2_ n3_; (try clear hb); (try clear hb2); (try clear hk); (try clear hi); have hnb7 := NB201_0.out; have hnc7 := NB0_201.out; have hcz8_0 : w6.cell? ⟨gb201, 0, none⟩ = some (.int .u64 0) := (blk_cell BK201.out 0).trans rfl; have hcz8_1 : w6.cell? ⟨gb201, 1, none⟩ = some (.bool false) := (blk_cell BK201.out 1).trans rfl; have hfz8_0 := blk_frozen BK201.out 0; have hfz8_1 := blk_frozen BK201.out 1))
    refine bodyPost_ret (results_cell_row rfl _ _ gb201 64 #[.int .u64 0, .bool false] (0, 0) _ rfl (by (with_reducible repeat (first | refine blk_drewN ?_ _ | refine blk_drew ?_ | refine blk_alloc ?_ _)); refine blk_put (cs := #[.int .u64 0, .bool false]) ?_ 1 _ rfl; (with_reducible repeat (first | refine blk_drewN ?_ _ | refine blk_drew ?_ | refine blk_alloc ?_ _)); refine blk_put (cs := #[.int .u64 0, .bool false]) ?_ 0 _ rfl; (with_reducible repeat (first | refine blk_drewN ?_ _ | refine blk_drew ?_ | refine blk_alloc ?_ _)); exact BK201.out) Tryd.underlying64 rfl (by kernel_rfl)) rfl ?_
    exact ⟨by first | rfl | (simp [errW_none, errW_some] <;> rfl) | (simp [*, errW_none, errW_some] <;> rfl), by repeat (first | (with_reducible first | exact HI0.out | apply IsS80.alloc | apply IsS80.drewN | apply IsS80.drew | apply IsS80.set_1 | refine IsS80.far ?_ NB0_201.out _) | exact HI0.out), by repeat (first | (with_reducible first | exact HB.out | apply below_alloc | apply pw_below_drewN | apply below_drew1 | refine below_set ?_ (IsS80.ge HI0.out) | refine below_set ?_ GE201.out) | exact HB.out), by repeat (first | (with_reducible first | exact HK.out | apply KeepBut.set_ | apply keep_drewN | apply keep_drew | apply keep_alloc | refine keep_far ?_ GW201.out _) | exact HK.out)⟩
  · rw [if_neg c4] at H
    have c4b0 : decide (t202 < 0) = false := decide_eq_false c4
    clear c4
    by_cases c9 : 0 ≤ t202
    · rw [if_pos c9] at H
      have c9b0 : decide (0 ≤ t202) = true := decide_eq_true c9
      clear c9
      by_cases c10 : t202 < (s0_0.length : Int)
      · rw [if_pos c10] at H
        have c10b0 : decide (t202 < (s0_0.length : Int)) = true := decide_eq_true c10
        clear c10
        simp only [Option.some.injEq, Prod.mk.injEq] at H
        obtain ⟨rfl, rfl, rfl⟩ := H
        go_enter Tryd.func49, Tryd.ntmps49
        go_wp2_with (first | ((with_reducible refine gate_dst (N := 4) rfl ?_); refine box_event ?hg (N := 4) ?hd (cs := #[.int .u64 0, .bool false]) (t := 64) ?hr ?_; (case hd => rfl); (case hg => rfl); (case hr => first | (go_simp; done) | (go_simp; rfl)); intro gb201 hg w11 hbox hb; have n0_ := Aside0.mk (IsS80.below (by repeat (first | (with_reducible first | exact HI0.out | apply IsS80.alloc | apply IsS80.drewN | apply IsS80.drew | apply IsS80.set_1) | exact HI0.out)) hb); have n1_ := Aside0.mk (KeepBut.trans (by repeat (first | (with_reducible first | exact HK.out | apply KeepBut.set_ | apply keep_drewN | apply keep_drew | apply keep_alloc) | exact HK.out)) (KeepBut.of_below hb g none) (.inl rfl)); have n2_ := Aside0.mk (below_step (by repeat (first | (with_reducible first | exact HB.out | apply below_alloc | apply pw_below_drewN | apply below_drew1 | refine below_set ?_ (IsS80.ge HI0.out)) | exact HB.out)) hb); have n3_ := Aside0.mk (hbox); have n4_ := Aside0.mk ((by rw [hg]; exact (keep_size (w := w) (g := g) (row := none) (by repeat (first | (with_reducible first | exact HK.out | apply KeepBut.set_ | apply keep_drewN | apply keep_drew | apply keep_alloc) | exact HK.out))) : w.heap.size ≤ gb201)); have n5_ := Aside0.mk ((Nat.le_trans HW0.out (by rw [hg]; exact (keep_size (w := w) (g := g) (row := none) (by repeat (first | (with_reducible first | exact HK.out | apply KeepBut.set_ | apply keep_drewN | apply keep_drew | apply keep_alloc) | exact HK.out))) : w.heap.size ≤ gb201) : w0.heap.size ≤ gb201)); have n6_ := Aside0.mk ((by rw [hg]; exact Nat.ne_of_lt (IsS80.lt (show IsS80 w0 _ g s0_0 s0_1 from by repeat (first | (with_reducible first | exact HI0.out | apply IsS80.alloc | apply IsS80.drewN | apply IsS80.drew | apply IsS80.set_1) | exact HI0.out))) : g ≠ gb201)); have n7_ := Aside0.mk ((by rw [hg]; exact Nat.ne_of_gt (IsS80.lt (show IsS80 w0 _ g s0_0 s0_1 from by repeat (first | (with_reducible first | exact HI0.out | apply IsS80.alloc | apply IsS80.drewN | apply IsS80.drew | apply IsS80.set_1) | exact HI0.out))) : gb201 ≠ g)); clear HI0; clear HK; clear HB; have HI0 := n0_; have HK := n1_; have HB := n2_; have BK201 := n3_; have GW201 := n4_; have GE201 := n5_; have NB0_201 := n6_; have NB201_0 := n7_; clear n0_ n1_ n2_ n3_ n4_ n5_ n6_ n7_; clear hb hbox hg) | ((with_reducible refine gate_callee (f := 75) rfl ?_); refine goesL_ (some 8) rfl rfl Tryd.func75 (by kernel_rfl) rfl #[.pointer (some ⟨g, 0, none⟩), .int .i64 a1] rfl (by (try simp only [List.map_toArray, List.map_cons, List.map_nil]); first | done | rfl | (simp only [List.length_drop, List.length_take]; rfl)) ?_; (with_reducible refine (remontoirref06_Wheel_find.calls k g s0_0 s0_1 a1 t202 t203 w0 _ ?side1 ?side2 A3.out).mono ?_); (case side1 => repeat (first | (with_reducible first | exact HI0.out | apply IsS80.alloc | apply IsS80.drewN | apply IsS80.drew | apply IsS80.set_1 | refine IsS80.far ?_ NB0_201.out _) | exact HI0.out)); (case side2 => repeat (first | (with_reducible first | exact HB.out | apply below_alloc | apply pw_below_drewN | apply below_drew1 | refine below_set ?_ (IsS80.ge HI0.out) | refine below_set ?_ GE201.out) | exact HB.out)); rintro e w12 ⟨rfl, hi, hb, hk⟩; refine ⟨_, rfl, ?_⟩; have n0_ := Aside0.mk (KeepBut.blk hk (g' := gb201) (o := .cells #[.int .u64 0, .bool false] 64 (0, 0)) (by (with_reducible repeat (first | refine blk_drewN ?_ _ | refine blk_drew ?_ | refine blk_alloc ?_ _)); exact BK201.out) NB201_0.out (by simp)); have n1_ := Aside0.mk (KeepBut.trans (by repeat (first | (with_reducible first | exact HK.out | apply KeepBut.set_ | apply keep_drewN | apply keep_drew | apply keep_alloc | refine keep_far ?_ GW201.out _) | exact HK.out)) hk (.inl rfl)); have n2_ := Aside0.mk (hb); have n3_ := Aside0.mk (hi); clear BK201; clear HK; clear HB; clear HI0; have BK201 := n0_; have HK := n1_; have HB := n2_; have HI0 := n3_; clear n0_ n1_ n2_ n3_; (try clear hb); (try clear hb2); (try clear hk); (try clear hi); obtain ⟨ASz13_0, cSz13_0, HGz13, hgz13, HSz13_0⟩ := HI0.out; have hcz13_0 := cellS80_0 HGz13; have hcz13_1 := cellS80_1 HGz13; have hfz13_1 := blk_frozen HGz13 1; clear HGz13 hgz13; have p204 : 0 ≤ (t202 : Int) := of_decide_eq_true (by first | (with_reducible assumption) | assumption); have q204 : t202 < (s0_0.length : Int) := of_decide_eq_true (by first | (with_reducible assumption) | assumption); obtain ⟨ad204, e204, hx204_0, hx204_1⟩ := at_T31 HSz13_0 t202 p204 q204; cases e204; replace hx204_0 := pw_cell_below HB.out hx204_0; replace hx204_1 := pw_cell_below HB.out hx204_1; replace p204 := eq_true p204; replace q204 := eq_true q204; have hnb14 := NB201_0.out; have hnc14 := NB0_201.out; have hcz15_0 : w12.cell? ⟨gb201, 0, none⟩ = some (.int .u64 0) := (blk_cell BK201.out 0).trans rfl; have hcz15_1 : w12.cell? ⟨gb201, 1, none⟩ = some (.bool false) := (blk_cell BK201.out 1).trans rfl; have hfz15_0 := blk_frozen BK201.out 0; have hfz15_1 := blk_frozen BK201.out 1))
        refine bodyPost_ret (results_cell_row rfl _ _ gb201 64 #[.int .u64 ((rd_T31 s0_0 t202).f1), .bool true] (0, 0) _ rfl (by (with_reducible repeat (first | refine blk_drewN ?_ _ | refine blk_drew ?_ | refine blk_alloc ?_ _)); refine blk_put (cs := #[.int .u64 ((rd_T31 s0_0 t202).f1), .bool false]) ?_ 1 _ rfl; (with_reducible repeat (first | refine blk_drewN ?_ _ | refine blk_drew ?_ | refine blk_alloc ?_ _)); refine blk_put (cs := #[.int .u64 0, .bool false]) ?_ 0 _ rfl; (with_reducible repeat (first | refine blk_drewN ?_ _ | refine blk_drew ?_ | refine blk_alloc ?_ _)); exact BK201.out) Tryd.underlying64 rfl (by kernel_rfl)) rfl ?_
        exact ⟨by first | rfl | (simp [errW_none, errW_some] <;> rfl) | (simp [*, errW_none, errW_some] <;> rfl), by repeat (first | (with_reducible first | exact HI0.out | apply IsS80.alloc | apply IsS80.drewN | apply IsS80.drew | apply IsS80.set_1 | refine IsS80.far ?_ NB0_201.out _) | exact HI0.out), by repeat (first | (with_reducible first | exact HB.out | apply below_alloc | apply pw_below_drewN | apply below_drew1 | refine below_set ?_ (IsS80.ge HI0.out) | refine below_set ?_ GE201.out) | exact HB.out), by repeat (first | (with_reducible first | exact HK.out | apply KeepBut.set_ | apply keep_drewN | apply keep_drew | apply keep_alloc | refine keep_far ?_ GW201.out _) | exact HK.out)⟩
      · rw [if_neg c10] at H
        exact absurd H (by simp)
    · rw [if_neg c9] at H
      exact absurd H (by simp)

-- NOT PRINTED: function 43 (remontoirref06_Wheel_Cancel)

-- NOT PRINTED: function 44 (remontoirref06_Wheel_Pop)

-- NOT PRINTED: function 45 (remontoirref06_Wheel_Advance)

/-! ### remontoirref01_Digits: function 78 -/
def remontoirref01_Digits.l0 : Nat → Int → Int → Int → Int → Int → Int → Int → Int → Int → Int → Int → Int → Int → Option (Int × Int × Int × Int × Int × Int × Int × Int × Int × Int × Int)
  | 0, _, _, _, _, _, _, _, _, _, _, _, _, _ => none
  | k + 1, x0, x4, x227000, x227001, x227002, x227003, x227004, x227005, x227006, x227007, x227008, x227009, x227010 => if x4 < 11 then (if x4 = 0 then (remontoirref01_Digits.l0 k (IntKind.u64.wrap (Int.tdiv x0 64)) (wrap64 (x4 + 1)) (wrap64 (Int.tmod x0 64)) x227001 x227002 x227003 x227004 x227005 x227006 x227007 x227008 x227009 x227010) else (if x4 = 1 then (remontoirref01_Digits.l0 k (IntKind.u64.wrap (Int.tdiv x0 64)) (wrap64 (x4 + 1)) x227000 (wrap64 (Int.tmod x0 64)) x227002 x227003 x227004 x227005 x227006 x227007 x227008 x227009 x227010) else (if x4 = 2 then (remontoirref01_Digits.l0 k (IntKind.u64.wrap (Int.tdiv x0 64)) (wrap64 (x4 + 1)) x227000 x227001 (wrap64 (Int.tmod x0 64)) x227003 x227004 x227005 x227006 x227007 x227008 x227009 x227010) else (if x4 = 3 then (remontoirref01_Digits.l0 k (IntKind.u64.wrap (Int.tdiv x0 64)) (wrap64 (x4 + 1)) x227000 x227001 x227002 (wrap64 (Int.tmod x0 64)) x227004 x227005 x227006 x227007 x227008 x227009 x227010) else (if x4 = 4 then (remontoirref01_Digits.l0 k (IntKind.u64.wrap (Int.tdiv x0 64)) (wrap64 (x4 + 1)) x227000 x227001 x227002 x227003 (wrap64 (Int.tmod x0 64)) x227005 x227006 x227007 x227008 x227009 x227010) else (if x4 = 5 then (remontoirref01_Digits.l0 k (IntKind.u64.wrap (Int.tdiv x0 64)) (wrap64 (x4 + 1)) x227000 x227001 x227002 x227003 x227004 (wrap64 (Int.tmod x0 64)) x227006 x227007 x227008 x227009 x227010) else (if x4 = 6 then (remontoirref01_Digits.l0 k (IntKind.u64.wrap (Int.tdiv x0 64)) (wrap64 (x4 + 1)) x227000 x227001 x227002 x227003 x227004 x227005 (wrap64 (Int.tmod x0 64)) x227007 x227008 x227009 x227010) else (if x4 = 7 then (remontoirref01_Digits.l0 k (IntKind.u64.wrap (Int.tdiv x0 64)) (wrap64 (x4 + 1)) x227000 x227001 x227002 x227003 x227004 x227005 x227006 (wrap64 (Int.tmod x0 64)) x227008 x227009 x227010) else (if x4 = 8 then (remontoirref01_Digits.l0 k (IntKind.u64.wrap (Int.tdiv x0 64)) (wrap64 (x4 + 1)) x227000 x227001 x227002 x227003 x227004 x227005 x227006 x227007 (wrap64 (Int.tmod x0 64)) x227009 x227010) else (if x4 = 9 then (remontoirref01_Digits.l0 k (IntKind.u64.wrap (Int.tdiv x0 64)) (wrap64 (x4 + 1)) x227000 x227001 x227002 x227003 x227004 x227005 x227006 x227007 x227008 (wrap64 (Int.tmod x0 64)) x227010) else (if x4 = 10 then (remontoirref01_Digits.l0 k (IntKind.u64.wrap (Int.tdiv x0 64)) (wrap64 (x4 + 1)) x227000 x227001 x227002 x227003 x227004 x227005 x227006 x227007 x227008 x227009 (wrap64 (Int.tmod x0 64))) else (none)))))))))))) else (some (x227000, x227001, x227002, x227003, x227004, x227005, x227006, x227007, x227008, x227009, x227010))
def remontoirref01_Digits.f (k : Nat) (a0 : Int) : Option (Int × Int × Int × Int × Int × Int × Int × Int × Int × Int × Int) := remontoirref01_Digits.l0 k a0 0 0 0 0 0 0 0 0 0 0 0 0
theorem remontoirref01_Digits.mono_l : ∀ k, (∀ y0 y1 y2 y3 y4 y5 y6 y7 y8 y9 y10 y11 y12, LeO (remontoirref01_Digits.l0 k y0 y1 y2 y3 y4 y5 y6 y7 y8 y9 y10 y11 y12) (remontoirref01_Digits.l0 (k + 1) y0 y1 y2 y3 y4 y5 y6 y7 y8 y9 y10 y11 y12))
  | 0 => fun _ _ _ _ _ _ _ _ _ _ _ _ _ r h => by simp [remontoirref01_Digits.l0] at h
  | k + 1 => by
    have ih0 := remontoirref01_Digits.mono_l k
    · intro y0 y1 y2 y3 y4 y5 y6 y7 y8 y9 y10 y11 y12
      unfold remontoirref01_Digits.l0
      repeat' first
      | (with_reducible exact ih0 _ _ _ _ _ _ _ _ _ _ _ _ _)
      | (with_reducible exact LeO.refl _)
      | (with_reducible exact LeO.none _)
      | (with_reducible refine LeO.ite ?_ ?_)
      | (with_reducible refine LeO.bind ?_ (fun _ => ?_))
      | exact ih0 _ _ _ _ _ _ _ _ _ _ _ _ _
      | exact LeO.none _
      | refine LeO.ite ?_ ?_
      | refine LeO.bind ?_ (fun _ => ?_)
theorem remontoirref01_Digits.mono : ∀ a0 k, LeO (remontoirref01_Digits.f k a0) (remontoirref01_Digits.f (k + 1) a0) := by
  intro a0 k
  have ih0 := remontoirref01_Digits.mono_l k
  unfold remontoirref01_Digits.f
  repeat' first
      | (with_reducible exact ih0 _ _ _ _ _ _ _ _ _ _ _ _ _)
      | (with_reducible exact LeO.refl _)
      | (with_reducible exact LeO.none _)
      | (with_reducible refine LeO.ite ?_ ?_)
      | (with_reducible refine LeO.bind ?_ (fun _ => ?_))
      | exact ih0 _ _ _ _ _ _ _ _ _ _ _ _ _
      | exact LeO.none _
      | refine LeO.ite ?_ ?_
      | refine LeO.bind ?_ (fun _ => ?_)
set_option maxHeartbeats 8000000 in
set_option maxRecDepth 100000 in
theorem remontoirref01_Digits.calls (k : Nat) (a0 : Int) (r1 : Int) (r2 : Int) (r3 : Int) (r4 : Int) (r5 : Int) (r6 : Int) (r7 : Int) (r8 : Int) (r9 : Int) (r10 : Int) (r11 : Int) (w : World) (h : remontoirref01_Digits.f k a0 = some (r1, r2, r3, r4, r5, r6, r7, r8, r9, r10, r11)) :
    Calls Tryd.prog 78 #[.int .u64 a0] w fun e w' => e = .returned (.agg #[.int .i64 r1, .int .i64 r2, .int .i64 r3, .int .i64 r4, .int .i64 r5, .int .i64 r6, .int .i64 r7, .int .i64 r8, .int .i64 r9, .int .i64 r10, .int .i64 r11]) ∧ Below w.heap.size w w' := by
  have hu93 := Tryd.underlying93
  have HB := Aside0.mk (Below.refl w.heap.size w)
  have H : (remontoirref01_Digits.l0 k a0 0 0 0 0 0 0 0 0 0 0 0 0) = some (r1, r2, r3, r4, r5, r6, r7, r8, r9, r10, r11) := h
  clear h
  have H' := Aside0.mk H
  clear H
  go_enter Tryd.func78, Tryd.ntmps78
  go_wp2_with (first | ((with_reducible refine gate_dst (N := 2) rfl ?_); refine box_event ?hg (N := 2) ?hd (cs := #[.int .i64 0, .int .i64 0, .int .i64 0, .int .i64 0, .int .i64 0, .int .i64 0, .int .i64 0, .int .i64 0, .int .i64 0, .int .i64 0, .int .i64 0]) (t := 93) ?hr ?_; (case hd => rfl); (case hg => rfl); (case hr => first | (go_simp; done) | (go_simp; rfl)); intro gb225 hg w2 hbox hb; have n0_ := Aside0.mk (below_step (by repeat (first | (with_reducible first | exact HB.out | apply below_alloc | apply pw_below_drewN | apply below_drew1) | exact HB.out)) hb); have n1_ := Aside0.mk (hbox); have n2_ := Aside0.mk ((by rw [hg]; exact (below_size (by repeat (first | (with_reducible first | exact HB.out | apply below_alloc | apply pw_below_drewN | apply below_drew1) | exact HB.out))) : w.heap.size ≤ gb225)); have n3_ := Aside0.mk ((by rw [hg]; exact (below_size (by repeat (first | (with_reducible first | exact HB.out | apply below_alloc | apply pw_below_drewN | apply below_drew1) | exact HB.out))) : w.heap.size ≤ gb225)); clear HB; have HB := n0_; have BK225 := n1_; have GW225 := n2_; have GE225 := n3_; clear n0_ n1_ n2_ n3_; clear hb hbox hg) | ((with_reducible refine gate_dst (N := 3) rfl ?_); refine box_event ?hg (N := 3) ?hd (cs := #[.int .i64 0, .int .i64 0, .int .i64 0, .int .i64 0, .int .i64 0, .int .i64 0, .int .i64 0, .int .i64 0, .int .i64 0, .int .i64 0, .int .i64 0]) (t := 93) ?hr ?_; (case hd => rfl); (case hg => rfl); (case hr => first | (go_simp; done) | (go_simp; rfl)); intro gb226 hg w3 hbox hb; have n0_ := Aside0.mk (blk_below (g := gb225) (o := .cells #[.int .i64 0, .int .i64 0, .int .i64 0, .int .i64 0, .int .i64 0, .int .i64 0, .int .i64 0, .int .i64 0, .int .i64 0, .int .i64 0, .int .i64 0] 93 (0, 0)) (by (with_reducible repeat (first | refine blk_drewN ?_ _ | refine blk_drew ?_ | refine blk_alloc ?_ _)); exact BK225.out) hb); have n1_ := Aside0.mk (below_step (by repeat (first | (with_reducible first | exact HB.out | apply below_alloc | apply pw_below_drewN | apply below_drew1 | refine below_set ?_ GE225.out) | exact HB.out)) hb); have n2_ := Aside0.mk (hbox); have n3_ := Aside0.mk ((by rw [hg]; exact (below_size (by repeat (first | (with_reducible first | exact HB.out | apply below_alloc | apply pw_below_drewN | apply below_drew1 | refine below_set ?_ GE225.out) | exact HB.out))) : w.heap.size ≤ gb226)); have n4_ := Aside0.mk ((by rw [hg]; exact (below_size (by repeat (first | (with_reducible first | exact HB.out | apply below_alloc | apply pw_below_drewN | apply below_drew1 | refine below_set ?_ GE225.out) | exact HB.out))) : w.heap.size ≤ gb226)); have n5_ := Aside0.mk ((by rw [hg]; exact Nat.ne_of_lt (blk_lt (g := gb225) (o := .cells #[.int .i64 0, .int .i64 0, .int .i64 0, .int .i64 0, .int .i64 0, .int .i64 0, .int .i64 0, .int .i64 0, .int .i64 0, .int .i64 0, .int .i64 0] 93 (0, 0)) (by (with_reducible repeat (first | refine blk_drewN ?_ _ | refine blk_drew ?_ | refine blk_alloc ?_ _)); exact BK225.out)) : gb225 ≠ gb226)); have n6_ := Aside0.mk ((by rw [hg]; exact Nat.ne_of_gt (blk_lt (g := gb225) (o := .cells #[.int .i64 0, .int .i64 0, .int .i64 0, .int .i64 0, .int .i64 0, .int .i64 0, .int .i64 0, .int .i64 0, .int .i64 0, .int .i64 0, .int .i64 0] 93 (0, 0)) (by (with_reducible repeat (first | refine blk_drewN ?_ _ | refine blk_drew ?_ | refine blk_alloc ?_ _)); exact BK225.out)) : gb226 ≠ gb225)); clear BK225; clear HB; have BK225 := n0_; have HB := n1_; have BK226 := n2_; have GW226 := n3_; have GE226 := n4_; have NB225_226 := n5_; have NB226_225 := n6_; clear n0_ n1_ n2_ n3_ n4_ n5_ n6_; clear hb hbox hg))
  go_loopg [0, 4] k (fun kq v0 v4 w' => ∃ (x0_1 : Int) (x4_1 : Int) (x227000_1 : Int) (x227001_1 : Int) (x227002_1 : Int) (x227003_1 : Int) (x227004_1 : Int) (x227005_1 : Int) (x227006_1 : Int) (x227007_1 : Int) (x227008_1 : Int) (x227009_1 : Int) (x227010_1 : Int), v0 = .int .u64 x0_1 ∧ v4 = .int .i64 x4_1 ∧ Aside0 (remontoirref01_Digits.l0 kq x0_1 x4_1 x227000_1 x227001_1 x227002_1 x227003_1 x227004_1 x227005_1 x227006_1 x227007_1 x227008_1 x227009_1 x227010_1 = some (r1, r2, r3, r4, r5, r6, r7, r8, r9, r10, r11)) ∧ Aside0 (kq ≤ k) ∧ Aside0 (w'.heap[gb225]? = some (.cells #[.int .i64 0, .int .i64 0, .int .i64 0, .int .i64 0, .int .i64 0, .int .i64 0, .int .i64 0, .int .i64 0, .int .i64 0, .int .i64 0, .int .i64 0] 93 (0, 0))) ∧ Aside0 (w'.heap[gb226]? = some (.cells #[.int .i64 x227000_1, .int .i64 x227001_1, .int .i64 x227002_1, .int .i64 x227003_1, .int .i64 x227004_1, .int .i64 x227005_1, .int .i64 x227006_1, .int .i64 x227007_1, .int .i64 x227008_1, .int .i64 x227009_1, .int .i64 x227010_1] 93 (0, 0))) ∧ Aside0 (Below w.heap.size w w'))
  case atStart => exact ⟨(a0), (0), (0), (0), (0), (0), (0), (0), (0), (0), (0), (0), (0), (by first | rfl | (simp; done) | (simp [*]; done) | (simp; decide +kernel)), (by first | rfl | (simp; done) | (simp [*]; done) | (simp; decide +kernel)), H', ⟨Nat.le_refl _⟩, ⟨by (with_reducible repeat (first | refine blk_drewN ?_ _ | refine blk_drew ?_ | refine blk_alloc ?_ _)); exact BK225.out⟩, ⟨by (with_reducible repeat (first | refine blk_drewN ?_ _ | refine blk_drew ?_ | refine blk_alloc ?_ _)); exact BK226.out⟩, ⟨by repeat (first | (with_reducible first | exact HB.out | apply below_alloc | apply pw_below_drewN | apply below_drew1 | refine below_set ?_ GE225.out | refine below_set ?_ GE226.out) | exact HB.out)⟩⟩
  case round =>
    clear H'
    try clear p2
    obtain ⟨x0_1, x4_1, x227000_1, x227001_1, x227002_1, x227003_1, x227004_1, x227005_1, x227006_1, x227007_1, x227008_1, x227009_1, x227010_1, rfl, rfl, HA, HK1, BK225, BK226, HB⟩ := hrel
    cases gk with
    | zero => exact absurd HA.out (by simp [remontoirref01_Digits.l0])
    | succ k1 =>
      have H := HA.out
      clear HA
      simp only [remontoirref01_Digits.l0] at H
      by_cases c4 : x4_1 < 11
      · rw [if_pos c4] at H
        have c4b0 : decide (x4_1 < 11) = true := decide_eq_true c4
        clear c4
        by_cases c5 : x4_1 = 0
        · subst c5
          rw [if_pos rfl] at H
          have H' := Aside0.mk H
          clear H
          have hnb6 := NB226_225.out
          have hnc6 := NB225_226.out
          have hcz7_0 : wr.cell? ⟨gb226, 0, none⟩ = some (.int .i64 x227000_1) := (blk_cell BK226.out 0).trans rfl
          have hcz7_1 : wr.cell? ⟨gb226, 1, none⟩ = some (.int .i64 x227001_1) := (blk_cell BK226.out 1).trans rfl
          have hcz7_2 : wr.cell? ⟨gb226, 2, none⟩ = some (.int .i64 x227002_1) := (blk_cell BK226.out 2).trans rfl
          have hcz7_3 : wr.cell? ⟨gb226, 3, none⟩ = some (.int .i64 x227003_1) := (blk_cell BK226.out 3).trans rfl
          have hcz7_4 : wr.cell? ⟨gb226, 4, none⟩ = some (.int .i64 x227004_1) := (blk_cell BK226.out 4).trans rfl
          have hcz7_5 : wr.cell? ⟨gb226, 5, none⟩ = some (.int .i64 x227005_1) := (blk_cell BK226.out 5).trans rfl
          have hcz7_6 : wr.cell? ⟨gb226, 6, none⟩ = some (.int .i64 x227006_1) := (blk_cell BK226.out 6).trans rfl
          have hcz7_7 : wr.cell? ⟨gb226, 7, none⟩ = some (.int .i64 x227007_1) := (blk_cell BK226.out 7).trans rfl
          have hcz7_8 : wr.cell? ⟨gb226, 8, none⟩ = some (.int .i64 x227008_1) := (blk_cell BK226.out 8).trans rfl
          have hcz7_9 : wr.cell? ⟨gb226, 9, none⟩ = some (.int .i64 x227009_1) := (blk_cell BK226.out 9).trans rfl
          have hcz7_10 : wr.cell? ⟨gb226, 10, none⟩ = some (.int .i64 x227010_1) := (blk_cell BK226.out 10).trans rfl
          have hfz7_0 := blk_frozen BK226.out 0
          have hfz7_1 := blk_frozen BK226.out 1
          have hfz7_2 := blk_frozen BK226.out 2
          have hfz7_3 := blk_frozen BK226.out 3
          have hfz7_4 := blk_frozen BK226.out 4
          have hfz7_5 := blk_frozen BK226.out 5
          have hfz7_6 := blk_frozen BK226.out 6
          have hfz7_7 := blk_frozen BK226.out 7
          have hfz7_8 := blk_frozen BK226.out 8
          have hfz7_9 := blk_frozen BK226.out 9
          have hfz7_10 := blk_frozen BK226.out 10
          go_wp2
          go_roundg k1
          case measure => have := HK1.out; omega
          case rel => exact ⟨(IntKind.u64.wrap (Int.tdiv x0_1 64)), (wrap64 ((0 : Int) + 1)), (wrap64 (Int.tmod x0_1 64)), (x227001_1), (x227002_1), (x227003_1), (x227004_1), (x227005_1), (x227006_1), (x227007_1), (x227008_1), (x227009_1), (x227010_1), (by first | rfl | (simp; done) | (simp [*]; done) | (simp; decide +kernel)), (by first | rfl | (simp; done) | (simp [*]; done) | (simp; decide +kernel)), H', ⟨by have := HK1.out; omega⟩, ⟨by (with_reducible repeat (first | refine blk_drewN ?_ _ | refine blk_drew ?_ | refine blk_alloc ?_ _)); refine blk_far ?_ NB225_226.out _; (with_reducible repeat (first | refine blk_drewN ?_ _ | refine blk_drew ?_ | refine blk_alloc ?_ _)); exact BK225.out⟩, ⟨by (with_reducible repeat (first | refine blk_drewN ?_ _ | refine blk_drew ?_ | refine blk_alloc ?_ _)); refine blk_put (cs := #[.int .i64 x227000_1, .int .i64 x227001_1, .int .i64 x227002_1, .int .i64 x227003_1, .int .i64 x227004_1, .int .i64 x227005_1, .int .i64 x227006_1, .int .i64 x227007_1, .int .i64 x227008_1, .int .i64 x227009_1, .int .i64 x227010_1]) ?_ 0 _ rfl; (with_reducible repeat (first | refine blk_drewN ?_ _ | refine blk_drew ?_ | refine blk_alloc ?_ _)); exact BK226.out⟩, ⟨by repeat (first | (with_reducible first | exact HB.out | apply below_alloc | apply pw_below_drewN | apply below_drew1 | refine below_set ?_ GE225.out | refine below_set ?_ GE226.out) | exact HB.out)⟩⟩
        · rw [if_neg c5] at H
          clear c5
          by_cases c8 : x4_1 = 1
          · subst c8
            rw [if_pos rfl] at H
            have H' := Aside0.mk H
            clear H
            have hnb9 := NB226_225.out
            have hnc9 := NB225_226.out
            have hcz10_0 : wr.cell? ⟨gb226, 0, none⟩ = some (.int .i64 x227000_1) := (blk_cell BK226.out 0).trans rfl
            have hcz10_1 : wr.cell? ⟨gb226, 1, none⟩ = some (.int .i64 x227001_1) := (blk_cell BK226.out 1).trans rfl
            have hcz10_2 : wr.cell? ⟨gb226, 2, none⟩ = some (.int .i64 x227002_1) := (blk_cell BK226.out 2).trans rfl
            have hcz10_3 : wr.cell? ⟨gb226, 3, none⟩ = some (.int .i64 x227003_1) := (blk_cell BK226.out 3).trans rfl
            have hcz10_4 : wr.cell? ⟨gb226, 4, none⟩ = some (.int .i64 x227004_1) := (blk_cell BK226.out 4).trans rfl
            have hcz10_5 : wr.cell? ⟨gb226, 5, none⟩ = some (.int .i64 x227005_1) := (blk_cell BK226.out 5).trans rfl
            have hcz10_6 : wr.cell? ⟨gb226, 6, none⟩ = some (.int .i64 x227006_1) := (blk_cell BK226.out 6).trans rfl
            have hcz10_7 : wr.cell? ⟨gb226, 7, none⟩ = some (.int .i64 x227007_1) := (blk_cell BK226.out 7).trans rfl
            have hcz10_8 : wr.cell? ⟨gb226, 8, none⟩ = some (.int .i64 x227008_1) := (blk_cell BK226.out 8).trans rfl
            have hcz10_9 : wr.cell? ⟨gb226, 9, none⟩ = some (.int .i64 x227009_1) := (blk_cell BK226.out 9).trans rfl
            have hcz10_10 : wr.cell? ⟨gb226, 10, none⟩ = some (.int .i64 x227010_1) := (blk_cell BK226.out 10).trans rfl
            have hfz10_0 := blk_frozen BK226.out 0
            have hfz10_1 := blk_frozen BK226.out 1
            have hfz10_2 := blk_frozen BK226.out 2
            have hfz10_3 := blk_frozen BK226.out 3
            have hfz10_4 := blk_frozen BK226.out 4
            have hfz10_5 := blk_frozen BK226.out 5
            have hfz10_6 := blk_frozen BK226.out 6
            have hfz10_7 := blk_frozen BK226.out 7
            have hfz10_8 := blk_frozen BK226.out 8
            have hfz10_9 := blk_frozen BK226.out 9
            have hfz10_10 := blk_frozen BK226.out 10
            go_wp2
            go_roundg k1
            case measure => have := HK1.out; omega
            case rel => exact ⟨(IntKind.u64.wrap (Int.tdiv x0_1 64)), (wrap64 ((1 : Int) + 1)), (x227000_1), (wrap64 (Int.tmod x0_1 64)), (x227002_1), (x227003_1), (x227004_1), (x227005_1), (x227006_1), (x227007_1), (x227008_1), (x227009_1), (x227010_1), (by first | rfl | (simp; done) | (simp [*]; done) | (simp; decide +kernel)), (by first | rfl | (simp; done) | (simp [*]; done) | (simp; decide +kernel)), H', ⟨by have := HK1.out; omega⟩, ⟨by (with_reducible repeat (first | refine blk_drewN ?_ _ | refine blk_drew ?_ | refine blk_alloc ?_ _)); refine blk_far ?_ NB225_226.out _; (with_reducible repeat (first | refine blk_drewN ?_ _ | refine blk_drew ?_ | refine blk_alloc ?_ _)); exact BK225.out⟩, ⟨by (with_reducible repeat (first | refine blk_drewN ?_ _ | refine blk_drew ?_ | refine blk_alloc ?_ _)); refine blk_put (cs := #[.int .i64 x227000_1, .int .i64 x227001_1, .int .i64 x227002_1, .int .i64 x227003_1, .int .i64 x227004_1, .int .i64 x227005_1, .int .i64 x227006_1, .int .i64 x227007_1, .int .i64 x227008_1, .int .i64 x227009_1, .int .i64 x227010_1]) ?_ 1 _ rfl; (with_reducible repeat (first | refine blk_drewN ?_ _ | refine blk_drew ?_ | refine blk_alloc ?_ _)); exact BK226.out⟩, ⟨by repeat (first | (with_reducible first | exact HB.out | apply below_alloc | apply pw_below_drewN | apply below_drew1 | refine below_set ?_ GE225.out | refine below_set ?_ GE226.out) | exact HB.out)⟩⟩
          · rw [if_neg c8] at H
            clear c8
            by_cases c11 : x4_1 = 2
            · subst c11
              rw [if_pos rfl] at H
              have H' := Aside0.mk H
              clear H
              have hnb12 := NB226_225.out
              have hnc12 := NB225_226.out
              have hcz13_0 : wr.cell? ⟨gb226, 0, none⟩ = some (.int .i64 x227000_1) := (blk_cell BK226.out 0).trans rfl
              have hcz13_1 : wr.cell? ⟨gb226, 1, none⟩ = some (.int .i64 x227001_1) := (blk_cell BK226.out 1).trans rfl
              have hcz13_2 : wr.cell? ⟨gb226, 2, none⟩ = some (.int .i64 x227002_1) := (blk_cell BK226.out 2).trans rfl
              have hcz13_3 : wr.cell? ⟨gb226, 3, none⟩ = some (.int .i64 x227003_1) := (blk_cell BK226.out 3).trans rfl
              have hcz13_4 : wr.cell? ⟨gb226, 4, none⟩ = some (.int .i64 x227004_1) := (blk_cell BK226.out 4).trans rfl
              have hcz13_5 : wr.cell? ⟨gb226, 5, none⟩ = some (.int .i64 x227005_1) := (blk_cell BK226.out 5).trans rfl
              have hcz13_6 : wr.cell? ⟨gb226, 6, none⟩ = some (.int .i64 x227006_1) := (blk_cell BK226.out 6).trans rfl
              have hcz13_7 : wr.cell? ⟨gb226, 7, none⟩ = some (.int .i64 x227007_1) := (blk_cell BK226.out 7).trans rfl
              have hcz13_8 : wr.cell? ⟨gb226, 8, none⟩ = some (.int .i64 x227008_1) := (blk_cell BK226.out 8).trans rfl
              have hcz13_9 : wr.cell? ⟨gb226, 9, none⟩ = some (.int .i64 x227009_1) := (blk_cell BK226.out 9).trans rfl
              have hcz13_10 : wr.cell? ⟨gb226, 10, none⟩ = some (.int .i64 x227010_1) := (blk_cell BK226.out 10).trans rfl
              have hfz13_0 := blk_frozen BK226.out 0
              have hfz13_1 := blk_frozen BK226.out 1
              have hfz13_2 := blk_frozen BK226.out 2
              have hfz13_3 := blk_frozen BK226.out 3
              have hfz13_4 := blk_frozen BK226.out 4
              have hfz13_5 := blk_frozen BK226.out 5
              have hfz13_6 := blk_frozen BK226.out 6
              have hfz13_7 := blk_frozen BK226.out 7
              have hfz13_8 := blk_frozen BK226.out 8
              have hfz13_9 := blk_frozen BK226.out 9
              have hfz13_10 := blk_frozen BK226.out 10
              go_wp2
              go_roundg k1
              case measure => have := HK1.out; omega
              case rel => exact ⟨(IntKind.u64.wrap (Int.tdiv x0_1 64)), (wrap64 ((2 : Int) + 1)), (x227000_1), (x227001_1), (wrap64 (Int.tmod x0_1 64)), (x227003_1), (x227004_1), (x227005_1), (x227006_1), (x227007_1), (x227008_1), (x227009_1), (x227010_1), (by first | rfl | (simp; done) | (simp [*]; done) | (simp; decide +kernel)), (by first | rfl | (simp; done) | (simp [*]; done) | (simp; decide +kernel)), H', ⟨by have := HK1.out; omega⟩, ⟨by (with_reducible repeat (first | refine blk_drewN ?_ _ | refine blk_drew ?_ | refine blk_alloc ?_ _)); refine blk_far ?_ NB225_226.out _; (with_reducible repeat (first | refine blk_drewN ?_ _ | refine blk_drew ?_ | refine blk_alloc ?_ _)); exact BK225.out⟩, ⟨by (with_reducible repeat (first | refine blk_drewN ?_ _ | refine blk_drew ?_ | refine blk_alloc ?_ _)); refine blk_put (cs := #[.int .i64 x227000_1, .int .i64 x227001_1, .int .i64 x227002_1, .int .i64 x227003_1, .int .i64 x227004_1, .int .i64 x227005_1, .int .i64 x227006_1, .int .i64 x227007_1, .int .i64 x227008_1, .int .i64 x227009_1, .int .i64 x227010_1]) ?_ 2 _ rfl; (with_reducible repeat (first | refine blk_drewN ?_ _ | refine blk_drew ?_ | refine blk_alloc ?_ _)); exact BK226.out⟩, ⟨by repeat (first | (with_reducible first | exact HB.out | apply below_alloc | apply pw_below_drewN | apply below_drew1 | refine below_set ?_ GE225.out | refine below_set ?_ GE226.out) | exact HB.out)⟩⟩
            · rw [if_neg c11] at H
              clear c11
              by_cases c14 : x4_1 = 3
              · subst c14
                rw [if_pos rfl] at H
                have H' := Aside0.mk H
                clear H
                have hnb15 := NB226_225.out
                have hnc15 := NB225_226.out
                have hcz16_0 : wr.cell? ⟨gb226, 0, none⟩ = some (.int .i64 x227000_1) := (blk_cell BK226.out 0).trans rfl
                have hcz16_1 : wr.cell? ⟨gb226, 1, none⟩ = some (.int .i64 x227001_1) := (blk_cell BK226.out 1).trans rfl
                have hcz16_2 : wr.cell? ⟨gb226, 2, none⟩ = some (.int .i64 x227002_1) := (blk_cell BK226.out 2).trans rfl
                have hcz16_3 : wr.cell? ⟨gb226, 3, none⟩ = some (.int .i64 x227003_1) := (blk_cell BK226.out 3).trans rfl
                have hcz16_4 : wr.cell? ⟨gb226, 4, none⟩ = some (.int .i64 x227004_1) := (blk_cell BK226.out 4).trans rfl
                have hcz16_5 : wr.cell? ⟨gb226, 5, none⟩ = some (.int .i64 x227005_1) := (blk_cell BK226.out 5).trans rfl
                have hcz16_6 : wr.cell? ⟨gb226, 6, none⟩ = some (.int .i64 x227006_1) := (blk_cell BK226.out 6).trans rfl
                have hcz16_7 : wr.cell? ⟨gb226, 7, none⟩ = some (.int .i64 x227007_1) := (blk_cell BK226.out 7).trans rfl
                have hcz16_8 : wr.cell? ⟨gb226, 8, none⟩ = some (.int .i64 x227008_1) := (blk_cell BK226.out 8).trans rfl
                have hcz16_9 : wr.cell? ⟨gb226, 9, none⟩ = some (.int .i64 x227009_1) := (blk_cell BK226.out 9).trans rfl
                have hcz16_10 : wr.cell? ⟨gb226, 10, none⟩ = some (.int .i64 x227010_1) := (blk_cell BK226.out 10).trans rfl
                have hfz16_0 := blk_frozen BK226.out 0
                have hfz16_1 := blk_frozen BK226.out 1
                have hfz16_2 := blk_frozen BK226.out 2
                have hfz16_3 := blk_frozen BK226.out 3
                have hfz16_4 := blk_frozen BK226.out 4
                have hfz16_5 := blk_frozen BK226.out 5
                have hfz16_6 := blk_frozen BK226.out 6
                have hfz16_7 := blk_frozen BK226.out 7
                have hfz16_8 := blk_frozen BK226.out 8
                have hfz16_9 := blk_frozen BK226.out 9
                have hfz16_10 := blk_frozen BK226.out 10
                go_wp2
                go_roundg k1
                case measure => have := HK1.out; omega
                case rel => exact ⟨(IntKind.u64.wrap (Int.tdiv x0_1 64)), (wrap64 ((3 : Int) + 1)), (x227000_1), (x227001_1), (x227002_1), (wrap64 (Int.tmod x0_1 64)), (x227004_1), (x227005_1), (x227006_1), (x227007_1), (x227008_1), (x227009_1), (x227010_1), (by first | rfl | (simp; done) | (simp [*]; done) | (simp; decide +kernel)), (by first | rfl | (simp; done) | (simp [*]; done) | (simp; decide +kernel)), H', ⟨by have := HK1.out; omega⟩, ⟨by (with_reducible repeat (first | refine blk_drewN ?_ _ | refine blk_drew ?_ | refine blk_alloc ?_ _)); refine blk_far ?_ NB225_226.out _; (with_reducible repeat (first | refine blk_drewN ?_ _ | refine blk_drew ?_ | refine blk_alloc ?_ _)); exact BK225.out⟩, ⟨by (with_reducible repeat (first | refine blk_drewN ?_ _ | refine blk_drew ?_ | refine blk_alloc ?_ _)); refine blk_put (cs := #[.int .i64 x227000_1, .int .i64 x227001_1, .int .i64 x227002_1, .int .i64 x227003_1, .int .i64 x227004_1, .int .i64 x227005_1, .int .i64 x227006_1, .int .i64 x227007_1, .int .i64 x227008_1, .int .i64 x227009_1, .int .i64 x227010_1]) ?_ 3 _ rfl; (with_reducible repeat (first | refine blk_drewN ?_ _ | refine blk_drew ?_ | refine blk_alloc ?_ _)); exact BK226.out⟩, ⟨by repeat (first | (with_reducible first | exact HB.out | apply below_alloc | apply pw_below_drewN | apply below_drew1 | refine below_set ?_ GE225.out | refine below_set ?_ GE226.out) | exact HB.out)⟩⟩
              · rw [if_neg c14] at H
                clear c14
                by_cases c17 : x4_1 = 4
                · subst c17
                  rw [if_pos rfl] at H
                  have H' := Aside0.mk H
                  clear H
                  have hnb18 := NB226_225.out
                  have hnc18 := NB225_226.out
                  have hcz19_0 : wr.cell? ⟨gb226, 0, none⟩ = some (.int .i64 x227000_1) := (blk_cell BK226.out 0).trans rfl
                  have hcz19_1 : wr.cell? ⟨gb226, 1, none⟩ = some (.int .i64 x227001_1) := (blk_cell BK226.out 1).trans rfl
                  have hcz19_2 : wr.cell? ⟨gb226, 2, none⟩ = some (.int .i64 x227002_1) := (blk_cell BK226.out 2).trans rfl
                  have hcz19_3 : wr.cell? ⟨gb226, 3, none⟩ = some (.int .i64 x227003_1) := (blk_cell BK226.out 3).trans rfl
                  have hcz19_4 : wr.cell? ⟨gb226, 4, none⟩ = some (.int .i64 x227004_1) := (blk_cell BK226.out 4).trans rfl
                  have hcz19_5 : wr.cell? ⟨gb226, 5, none⟩ = some (.int .i64 x227005_1) := (blk_cell BK226.out 5).trans rfl
                  have hcz19_6 : wr.cell? ⟨gb226, 6, none⟩ = some (.int .i64 x227006_1) := (blk_cell BK226.out 6).trans rfl
                  have hcz19_7 : wr.cell? ⟨gb226, 7, none⟩ = some (.int .i64 x227007_1) := (blk_cell BK226.out 7).trans rfl
                  have hcz19_8 : wr.cell? ⟨gb226, 8, none⟩ = some (.int .i64 x227008_1) := (blk_cell BK226.out 8).trans rfl
                  have hcz19_9 : wr.cell? ⟨gb226, 9, none⟩ = some (.int .i64 x227009_1) := (blk_cell BK226.out 9).trans rfl
                  have hcz19_10 : wr.cell? ⟨gb226, 10, none⟩ = some (.int .i64 x227010_1) := (blk_cell BK226.out 10).trans rfl
                  have hfz19_0 := blk_frozen BK226.out 0
                  have hfz19_1 := blk_frozen BK226.out 1
                  have hfz19_2 := blk_frozen BK226.out 2
                  have hfz19_3 := blk_frozen BK226.out 3
                  have hfz19_4 := blk_frozen BK226.out 4
                  have hfz19_5 := blk_frozen BK226.out 5
                  have hfz19_6 := blk_frozen BK226.out 6
                  have hfz19_7 := blk_frozen BK226.out 7
                  have hfz19_8 := blk_frozen BK226.out 8
                  have hfz19_9 := blk_frozen BK226.out 9
                  have hfz19_10 := blk_frozen BK226.out 10
                  go_wp2
                  go_roundg k1
                  case measure => have := HK1.out; omega
                  case rel => exact ⟨(IntKind.u64.wrap (Int.tdiv x0_1 64)), (wrap64 ((4 : Int) + 1)), (x227000_1), (x227001_1), (x227002_1), (x227003_1), (wrap64 (Int.tmod x0_1 64)), (x227005_1), (x227006_1), (x227007_1), (x227008_1), (x227009_1), (x227010_1), (by first | rfl | (simp; done) | (simp [*]; done) | (simp; decide +kernel)), (by first | rfl | (simp; done) | (simp [*]; done) | (simp; decide +kernel)), H', ⟨by have := HK1.out; omega⟩, ⟨by (with_reducible repeat (first | refine blk_drewN ?_ _ | refine blk_drew ?_ | refine blk_alloc ?_ _)); refine blk_far ?_ NB225_226.out _; (with_reducible repeat (first | refine blk_drewN ?_ _ | refine blk_drew ?_ | refine blk_alloc ?_ _)); exact BK225.out⟩, ⟨by (with_reducible repeat (first | refine blk_drewN ?_ _ | refine blk_drew ?_ | refine blk_alloc ?_ _)); refine blk_put (cs := #[.int .i64 x227000_1, .int .i64 x227001_1, .int .i64 x227002_1, .int .i64 x227003_1, .int .i64 x227004_1, .int .i64 x227005_1, .int .i64 x227006_1, .int .i64 x227007_1, .int .i64 x227008_1, .int .i64 x227009_1, .int .i64 x227010_1]) ?_ 4 _ rfl; (with_reducible repeat (first | refine blk_drewN ?_ _ | refine blk_drew ?_ | refine blk_alloc ?_ _)); exact BK226.out⟩, ⟨by repeat (first | (with_reducible first | exact HB.out | apply below_alloc | apply pw_below_drewN | apply below_drew1 | refine below_set ?_ GE225.out | refine below_set ?_ GE226.out) | exact HB.out)⟩⟩
                · rw [if_neg c17] at H
                  clear c17
                  by_cases c20 : x4_1 = 5
                  · subst c20
                    rw [if_pos rfl] at H
                    have H' := Aside0.mk H
                    clear H
                    have hnb21 := NB226_225.out
                    have hnc21 := NB225_226.out
                    have hcz22_0 : wr.cell? ⟨gb226, 0, none⟩ = some (.int .i64 x227000_1) := (blk_cell BK226.out 0).trans rfl
                    have hcz22_1 : wr.cell? ⟨gb226, 1, none⟩ = some (.int .i64 x227001_1) := (blk_cell BK226.out 1).trans rfl
                    have hcz22_2 : wr.cell? ⟨gb226, 2, none⟩ = some (.int .i64 x227002_1) := (blk_cell BK226.out 2).trans rfl
                    have hcz22_3 : wr.cell? ⟨gb226, 3, none⟩ = some (.int .i64 x227003_1) := (blk_cell BK226.out 3).trans rfl
                    have hcz22_4 : wr.cell? ⟨gb226, 4, none⟩ = some (.int .i64 x227004_1) := (blk_cell BK226.out 4).trans rfl
                    have hcz22_5 : wr.cell? ⟨gb226, 5, none⟩ = some (.int .i64 x227005_1) := (blk_cell BK226.out 5).trans rfl
                    have hcz22_6 : wr.cell? ⟨gb226, 6, none⟩ = some (.int .i64 x227006_1) := (blk_cell BK226.out 6).trans rfl
                    have hcz22_7 : wr.cell? ⟨gb226, 7, none⟩ = some (.int .i64 x227007_1) := (blk_cell BK226.out 7).trans rfl
                    have hcz22_8 : wr.cell? ⟨gb226, 8, none⟩ = some (.int .i64 x227008_1) := (blk_cell BK226.out 8).trans rfl
                    have hcz22_9 : wr.cell? ⟨gb226, 9, none⟩ = some (.int .i64 x227009_1) := (blk_cell BK226.out 9).trans rfl
                    have hcz22_10 : wr.cell? ⟨gb226, 10, none⟩ = some (.int .i64 x227010_1) := (blk_cell BK226.out 10).trans rfl
                    have hfz22_0 := blk_frozen BK226.out 0
                    have hfz22_1 := blk_frozen BK226.out 1
                    have hfz22_2 := blk_frozen BK226.out 2
                    have hfz22_3 := blk_frozen BK226.out 3
                    have hfz22_4 := blk_frozen BK226.out 4
                    have hfz22_5 := blk_frozen BK226.out 5
                    have hfz22_6 := blk_frozen BK226.out 6
                    have hfz22_7 := blk_frozen BK226.out 7
                    have hfz22_8 := blk_frozen BK226.out 8
                    have hfz22_9 := blk_frozen BK226.out 9
                    have hfz22_10 := blk_frozen BK226.out 10
                    go_wp2
                    go_roundg k1
                    case measure => have := HK1.out; omega
                    case rel => exact ⟨(IntKind.u64.wrap (Int.tdiv x0_1 64)), (wrap64 ((5 : Int) + 1)), (x227000_1), (x227001_1), (x227002_1), (x227003_1), (x227004_1), (wrap64 (Int.tmod x0_1 64)), (x227006_1), (x227007_1), (x227008_1), (x227009_1), (x227010_1), (by first | rfl | (simp; done) | (simp [*]; done) | (simp; decide +kernel)), (by first | rfl | (simp; done) | (simp [*]; done) | (simp; decide +kernel)), H', ⟨by have := HK1.out; omega⟩, ⟨by (with_reducible repeat (first | refine blk_drewN ?_ _ | refine blk_drew ?_ | refine blk_alloc ?_ _)); refine blk_far ?_ NB225_226.out _; (with_reducible repeat (first | refine blk_drewN ?_ _ | refine blk_drew ?_ | refine blk_alloc ?_ _)); exact BK225.out⟩, ⟨by (with_reducible repeat (first | refine blk_drewN ?_ _ | refine blk_drew ?_ | refine blk_alloc ?_ _)); refine blk_put (cs := #[.int .i64 x227000_1, .int .i64 x227001_1, .int .i64 x227002_1, .int .i64 x227003_1, .int .i64 x227004_1, .int .i64 x227005_1, .int .i64 x227006_1, .int .i64 x227007_1, .int .i64 x227008_1, .int .i64 x227009_1, .int .i64 x227010_1]) ?_ 5 _ rfl; (with_reducible repeat (first | refine blk_drewN ?_ _ | refine blk_drew ?_ | refine blk_alloc ?_ _)); exact BK226.out⟩, ⟨by repeat (first | (with_reducible first | exact HB.out | apply below_alloc | apply pw_below_drewN | apply below_drew1 | refine below_set ?_ GE225.out | refine below_set ?_ GE226.out) | exact HB.out)⟩⟩
                  · rw [if_neg c20] at H
                    clear c20
                    by_cases c23 : x4_1 = 6
                    · subst c23
                      rw [if_pos rfl] at H
                      have H' := Aside0.mk H
                      clear H
                      have hnb24 := NB226_225.out
                      have hnc24 := NB225_226.out
                      have hcz25_0 : wr.cell? ⟨gb226, 0, none⟩ = some (.int .i64 x227000_1) := (blk_cell BK226.out 0).trans rfl
                      have hcz25_1 : wr.cell? ⟨gb226, 1, none⟩ = some (.int .i64 x227001_1) := (blk_cell BK226.out 1).trans rfl
                      have hcz25_2 : wr.cell? ⟨gb226, 2, none⟩ = some (.int .i64 x227002_1) := (blk_cell BK226.out 2).trans rfl
                      have hcz25_3 : wr.cell? ⟨gb226, 3, none⟩ = some (.int .i64 x227003_1) := (blk_cell BK226.out 3).trans rfl
                      have hcz25_4 : wr.cell? ⟨gb226, 4, none⟩ = some (.int .i64 x227004_1) := (blk_cell BK226.out 4).trans rfl
                      have hcz25_5 : wr.cell? ⟨gb226, 5, none⟩ = some (.int .i64 x227005_1) := (blk_cell BK226.out 5).trans rfl
                      have hcz25_6 : wr.cell? ⟨gb226, 6, none⟩ = some (.int .i64 x227006_1) := (blk_cell BK226.out 6).trans rfl
                      have hcz25_7 : wr.cell? ⟨gb226, 7, none⟩ = some (.int .i64 x227007_1) := (blk_cell BK226.out 7).trans rfl
                      have hcz25_8 : wr.cell? ⟨gb226, 8, none⟩ = some (.int .i64 x227008_1) := (blk_cell BK226.out 8).trans rfl
                      have hcz25_9 : wr.cell? ⟨gb226, 9, none⟩ = some (.int .i64 x227009_1) := (blk_cell BK226.out 9).trans rfl
                      have hcz25_10 : wr.cell? ⟨gb226, 10, none⟩ = some (.int .i64 x227010_1) := (blk_cell BK226.out 10).trans rfl
                      have hfz25_0 := blk_frozen BK226.out 0
                      have hfz25_1 := blk_frozen BK226.out 1
                      have hfz25_2 := blk_frozen BK226.out 2
                      have hfz25_3 := blk_frozen BK226.out 3
                      have hfz25_4 := blk_frozen BK226.out 4
                      have hfz25_5 := blk_frozen BK226.out 5
                      have hfz25_6 := blk_frozen BK226.out 6
                      have hfz25_7 := blk_frozen BK226.out 7
                      have hfz25_8 := blk_frozen BK226.out 8
                      have hfz25_9 := blk_frozen BK226.out 9
                      have hfz25_10 := blk_frozen BK226.out 10
                      go_wp2
                      go_roundg k1
                      case measure => have := HK1.out; omega
                      case rel => exact ⟨(IntKind.u64.wrap (Int.tdiv x0_1 64)), (wrap64 ((6 : Int) + 1)), (x227000_1), (x227001_1), (x227002_1), (x227003_1), (x227004_1), (x227005_1), (wrap64 (Int.tmod x0_1 64)), (x227007_1), (x227008_1), (x227009_1), (x227010_1), (by first | rfl | (simp; done) | (simp [*]; done) | (simp; decide +kernel)), (by first | rfl | (simp; done) | (simp [*]; done) | (simp; decide +kernel)), H', ⟨by have := HK1.out; omega⟩, ⟨by (with_reducible repeat (first | refine blk_drewN ?_ _ | refine blk_drew ?_ | refine blk_alloc ?_ _)); refine blk_far ?_ NB225_226.out _; (with_reducible repeat (first | refine blk_drewN ?_ _ | refine blk_drew ?_ | refine blk_alloc ?_ _)); exact BK225.out⟩, ⟨by (with_reducible repeat (first | refine blk_drewN ?_ _ | refine blk_drew ?_ | refine blk_alloc ?_ _)); refine blk_put (cs := #[.int .i64 x227000_1, .int .i64 x227001_1, .int .i64 x227002_1, .int .i64 x227003_1, .int .i64 x227004_1, .int .i64 x227005_1, .int .i64 x227006_1, .int .i64 x227007_1, .int .i64 x227008_1, .int .i64 x227009_1, .int .i64 x227010_1]) ?_ 6 _ rfl; (with_reducible repeat (first | refine blk_drewN ?_ _ | refine blk_drew ?_ | refine blk_alloc ?_ _)); exact BK226.out⟩, ⟨by repeat (first | (with_reducible first | exact HB.out | apply below_alloc | apply pw_below_drewN | apply below_drew1 | refine below_set ?_ GE225.out | refine below_set ?_ GE226.out) | exact HB.out)⟩⟩
                    · rw [if_neg c23] at H
                      clear c23
                      by_cases c26 : x4_1 = 7
                      · subst c26
                        rw [if_pos rfl] at H
                        have H' := Aside0.mk H
                        clear H
                        have hnb27 := NB226_225.out
                        have hnc27 := NB225_226.out
                        have hcz28_0 : wr.cell? ⟨gb226, 0, none⟩ = some (.int .i64 x227000_1) := (blk_cell BK226.out 0).trans rfl
                        have hcz28_1 : wr.cell? ⟨gb226, 1, none⟩ = some (.int .i64 x227001_1) := (blk_cell BK226.out 1).trans rfl
                        have hcz28_2 : wr.cell? ⟨gb226, 2, none⟩ = some (.int .i64 x227002_1) := (blk_cell BK226.out 2).trans rfl
                        have hcz28_3 : wr.cell? ⟨gb226, 3, none⟩ = some (.int .i64 x227003_1) := (blk_cell BK226.out 3).trans rfl
                        have hcz28_4 : wr.cell? ⟨gb226, 4, none⟩ = some (.int .i64 x227004_1) := (blk_cell BK226.out 4).trans rfl
                        have hcz28_5 : wr.cell? ⟨gb226, 5, none⟩ = some (.int .i64 x227005_1) := (blk_cell BK226.out 5).trans rfl
                        have hcz28_6 : wr.cell? ⟨gb226, 6, none⟩ = some (.int .i64 x227006_1) := (blk_cell BK226.out 6).trans rfl
                        have hcz28_7 : wr.cell? ⟨gb226, 7, none⟩ = some (.int .i64 x227007_1) := (blk_cell BK226.out 7).trans rfl
                        have hcz28_8 : wr.cell? ⟨gb226, 8, none⟩ = some (.int .i64 x227008_1) := (blk_cell BK226.out 8).trans rfl
                        have hcz28_9 : wr.cell? ⟨gb226, 9, none⟩ = some (.int .i64 x227009_1) := (blk_cell BK226.out 9).trans rfl
                        have hcz28_10 : wr.cell? ⟨gb226, 10, none⟩ = some (.int .i64 x227010_1) := (blk_cell BK226.out 10).trans rfl
                        have hfz28_0 := blk_frozen BK226.out 0
                        have hfz28_1 := blk_frozen BK226.out 1
                        have hfz28_2 := blk_frozen BK226.out 2
                        have hfz28_3 := blk_frozen BK226.out 3
                        have hfz28_4 := blk_frozen BK226.out 4
                        have hfz28_5 := blk_frozen BK226.out 5
                        have hfz28_6 := blk_frozen BK226.out 6
                        have hfz28_7 := blk_frozen BK226.out 7
                        have hfz28_8 := blk_frozen BK226.out 8
                        have hfz28_9 := blk_frozen BK226.out 9
                        have hfz28_10 := blk_frozen BK226.out 10
                        go_wp2
                        go_roundg k1
                        case measure => have := HK1.out; omega
                        case rel => exact ⟨(IntKind.u64.wrap (Int.tdiv x0_1 64)), (wrap64 ((7 : Int) + 1)), (x227000_1), (x227001_1), (x227002_1), (x227003_1), (x227004_1), (x227005_1), (x227006_1), (wrap64 (Int.tmod x0_1 64)), (x227008_1), (x227009_1), (x227010_1), (by first | rfl | (simp; done) | (simp [*]; done) | (simp; decide +kernel)), (by first | rfl | (simp; done) | (simp [*]; done) | (simp; decide +kernel)), H', ⟨by have := HK1.out; omega⟩, ⟨by (with_reducible repeat (first | refine blk_drewN ?_ _ | refine blk_drew ?_ | refine blk_alloc ?_ _)); refine blk_far ?_ NB225_226.out _; (with_reducible repeat (first | refine blk_drewN ?_ _ | refine blk_drew ?_ | refine blk_alloc ?_ _)); exact BK225.out⟩, ⟨by (with_reducible repeat (first | refine blk_drewN ?_ _ | refine blk_drew ?_ | refine blk_alloc ?_ _)); refine blk_put (cs := #[.int .i64 x227000_1, .int .i64 x227001_1, .int .i64 x227002_1, .int .i64 x227003_1, .int .i64 x227004_1, .int .i64 x227005_1, .int .i64 x227006_1, .int .i64 x227007_1, .int .i64 x227008_1, .int .i64 x227009_1, .int .i64 x227010_1]) ?_ 7 _ rfl; (with_reducible repeat (first | refine blk_drewN ?_ _ | refine blk_drew ?_ | refine blk_alloc ?_ _)); exact BK226.out⟩, ⟨by repeat (first | (with_reducible first | exact HB.out | apply below_alloc | apply pw_below_drewN | apply below_drew1 | refine below_set ?_ GE225.out | refine below_set ?_ GE226.out) | exact HB.out)⟩⟩
                      · rw [if_neg c26] at H
                        clear c26
                        by_cases c29 : x4_1 = 8
                        · subst c29
                          rw [if_pos rfl] at H
                          have H' := Aside0.mk H
                          clear H
                          have hnb30 := NB226_225.out
                          have hnc30 := NB225_226.out
                          have hcz31_0 : wr.cell? ⟨gb226, 0, none⟩ = some (.int .i64 x227000_1) := (blk_cell BK226.out 0).trans rfl
                          have hcz31_1 : wr.cell? ⟨gb226, 1, none⟩ = some (.int .i64 x227001_1) := (blk_cell BK226.out 1).trans rfl
                          have hcz31_2 : wr.cell? ⟨gb226, 2, none⟩ = some (.int .i64 x227002_1) := (blk_cell BK226.out 2).trans rfl
                          have hcz31_3 : wr.cell? ⟨gb226, 3, none⟩ = some (.int .i64 x227003_1) := (blk_cell BK226.out 3).trans rfl
                          have hcz31_4 : wr.cell? ⟨gb226, 4, none⟩ = some (.int .i64 x227004_1) := (blk_cell BK226.out 4).trans rfl
                          have hcz31_5 : wr.cell? ⟨gb226, 5, none⟩ = some (.int .i64 x227005_1) := (blk_cell BK226.out 5).trans rfl
                          have hcz31_6 : wr.cell? ⟨gb226, 6, none⟩ = some (.int .i64 x227006_1) := (blk_cell BK226.out 6).trans rfl
                          have hcz31_7 : wr.cell? ⟨gb226, 7, none⟩ = some (.int .i64 x227007_1) := (blk_cell BK226.out 7).trans rfl
                          have hcz31_8 : wr.cell? ⟨gb226, 8, none⟩ = some (.int .i64 x227008_1) := (blk_cell BK226.out 8).trans rfl
                          have hcz31_9 : wr.cell? ⟨gb226, 9, none⟩ = some (.int .i64 x227009_1) := (blk_cell BK226.out 9).trans rfl
                          have hcz31_10 : wr.cell? ⟨gb226, 10, none⟩ = some (.int .i64 x227010_1) := (blk_cell BK226.out 10).trans rfl
                          have hfz31_0 := blk_frozen BK226.out 0
                          have hfz31_1 := blk_frozen BK226.out 1
                          have hfz31_2 := blk_frozen BK226.out 2
                          have hfz31_3 := blk_frozen BK226.out 3
                          have hfz31_4 := blk_frozen BK226.out 4
                          have hfz31_5 := blk_frozen BK226.out 5
                          have hfz31_6 := blk_frozen BK226.out 6
                          have hfz31_7 := blk_frozen BK226.out 7
                          have hfz31_8 := blk_frozen BK226.out 8
                          have hfz31_9 := blk_frozen BK226.out 9
                          have hfz31_10 := blk_frozen BK226.out 10
                          go_wp2
                          go_roundg k1
                          case measure => have := HK1.out; omega
                          case rel => exact ⟨(IntKind.u64.wrap (Int.tdiv x0_1 64)), (wrap64 ((8 : Int) + 1)), (x227000_1), (x227001_1), (x227002_1), (x227003_1), (x227004_1), (x227005_1), (x227006_1), (x227007_1), (wrap64 (Int.tmod x0_1 64)), (x227009_1), (x227010_1), (by first | rfl | (simp; done) | (simp [*]; done) | (simp; decide +kernel)), (by first | rfl | (simp; done) | (simp [*]; done) | (simp; decide +kernel)), H', ⟨by have := HK1.out; omega⟩, ⟨by (with_reducible repeat (first | refine blk_drewN ?_ _ | refine blk_drew ?_ | refine blk_alloc ?_ _)); refine blk_far ?_ NB225_226.out _; (with_reducible repeat (first | refine blk_drewN ?_ _ | refine blk_drew ?_ | refine blk_alloc ?_ _)); exact BK225.out⟩, ⟨by (with_reducible repeat (first | refine blk_drewN ?_ _ | refine blk_drew ?_ | refine blk_alloc ?_ _)); refine blk_put (cs := #[.int .i64 x227000_1, .int .i64 x227001_1, .int .i64 x227002_1, .int .i64 x227003_1, .int .i64 x227004_1, .int .i64 x227005_1, .int .i64 x227006_1, .int .i64 x227007_1, .int .i64 x227008_1, .int .i64 x227009_1, .int .i64 x227010_1]) ?_ 8 _ rfl; (with_reducible repeat (first | refine blk_drewN ?_ _ | refine blk_drew ?_ | refine blk_alloc ?_ _)); exact BK226.out⟩, ⟨by repeat (first | (with_reducible first | exact HB.out | apply below_alloc | apply pw_below_drewN | apply below_drew1 | refine below_set ?_ GE225.out | refine below_set ?_ GE226.out) | exact HB.out)⟩⟩
                        · rw [if_neg c29] at H
                          clear c29
                          by_cases c32 : x4_1 = 9
                          · subst c32
                            rw [if_pos rfl] at H
                            have H' := Aside0.mk H
                            clear H
                            have hnb33 := NB226_225.out
                            have hnc33 := NB225_226.out
                            have hcz34_0 : wr.cell? ⟨gb226, 0, none⟩ = some (.int .i64 x227000_1) := (blk_cell BK226.out 0).trans rfl
                            have hcz34_1 : wr.cell? ⟨gb226, 1, none⟩ = some (.int .i64 x227001_1) := (blk_cell BK226.out 1).trans rfl
                            have hcz34_2 : wr.cell? ⟨gb226, 2, none⟩ = some (.int .i64 x227002_1) := (blk_cell BK226.out 2).trans rfl
                            have hcz34_3 : wr.cell? ⟨gb226, 3, none⟩ = some (.int .i64 x227003_1) := (blk_cell BK226.out 3).trans rfl
                            have hcz34_4 : wr.cell? ⟨gb226, 4, none⟩ = some (.int .i64 x227004_1) := (blk_cell BK226.out 4).trans rfl
                            have hcz34_5 : wr.cell? ⟨gb226, 5, none⟩ = some (.int .i64 x227005_1) := (blk_cell BK226.out 5).trans rfl
                            have hcz34_6 : wr.cell? ⟨gb226, 6, none⟩ = some (.int .i64 x227006_1) := (blk_cell BK226.out 6).trans rfl
                            have hcz34_7 : wr.cell? ⟨gb226, 7, none⟩ = some (.int .i64 x227007_1) := (blk_cell BK226.out 7).trans rfl
                            have hcz34_8 : wr.cell? ⟨gb226, 8, none⟩ = some (.int .i64 x227008_1) := (blk_cell BK226.out 8).trans rfl
                            have hcz34_9 : wr.cell? ⟨gb226, 9, none⟩ = some (.int .i64 x227009_1) := (blk_cell BK226.out 9).trans rfl
                            have hcz34_10 : wr.cell? ⟨gb226, 10, none⟩ = some (.int .i64 x227010_1) := (blk_cell BK226.out 10).trans rfl
                            have hfz34_0 := blk_frozen BK226.out 0
                            have hfz34_1 := blk_frozen BK226.out 1
                            have hfz34_2 := blk_frozen BK226.out 2
                            have hfz34_3 := blk_frozen BK226.out 3
                            have hfz34_4 := blk_frozen BK226.out 4
                            have hfz34_5 := blk_frozen BK226.out 5
                            have hfz34_6 := blk_frozen BK226.out 6
                            have hfz34_7 := blk_frozen BK226.out 7
                            have hfz34_8 := blk_frozen BK226.out 8
                            have hfz34_9 := blk_frozen BK226.out 9
                            have hfz34_10 := blk_frozen BK226.out 10
                            go_wp2
                            go_roundg k1
                            case measure => have := HK1.out; omega
                            case rel => exact ⟨(IntKind.u64.wrap (Int.tdiv x0_1 64)), (wrap64 ((9 : Int) + 1)), (x227000_1), (x227001_1), (x227002_1), (x227003_1), (x227004_1), (x227005_1), (x227006_1), (x227007_1), (x227008_1), (wrap64 (Int.tmod x0_1 64)), (x227010_1), (by first | rfl | (simp; done) | (simp [*]; done) | (simp; decide +kernel)), (by first | rfl | (simp; done) | (simp [*]; done) | (simp; decide +kernel)), H', ⟨by have := HK1.out; omega⟩, ⟨by (with_reducible repeat (first | refine blk_drewN ?_ _ | refine blk_drew ?_ | refine blk_alloc ?_ _)); refine blk_far ?_ NB225_226.out _; (with_reducible repeat (first | refine blk_drewN ?_ _ | refine blk_drew ?_ | refine blk_alloc ?_ _)); exact BK225.out⟩, ⟨by (with_reducible repeat (first | refine blk_drewN ?_ _ | refine blk_drew ?_ | refine blk_alloc ?_ _)); refine blk_put (cs := #[.int .i64 x227000_1, .int .i64 x227001_1, .int .i64 x227002_1, .int .i64 x227003_1, .int .i64 x227004_1, .int .i64 x227005_1, .int .i64 x227006_1, .int .i64 x227007_1, .int .i64 x227008_1, .int .i64 x227009_1, .int .i64 x227010_1]) ?_ 9 _ rfl; (with_reducible repeat (first | refine blk_drewN ?_ _ | refine blk_drew ?_ | refine blk_alloc ?_ _)); exact BK226.out⟩, ⟨by repeat (first | (with_reducible first | exact HB.out | apply below_alloc | apply pw_below_drewN | apply below_drew1 | refine below_set ?_ GE225.out | refine below_set ?_ GE226.out) | exact HB.out)⟩⟩
                          · rw [if_neg c32] at H
                            clear c32
                            by_cases c35 : x4_1 = 10
                            · subst c35
                              rw [if_pos rfl] at H
                              have H' := Aside0.mk H
                              clear H
                              have hnb36 := NB226_225.out
                              have hnc36 := NB225_226.out
                              have hcz37_0 : wr.cell? ⟨gb226, 0, none⟩ = some (.int .i64 x227000_1) := (blk_cell BK226.out 0).trans rfl
                              have hcz37_1 : wr.cell? ⟨gb226, 1, none⟩ = some (.int .i64 x227001_1) := (blk_cell BK226.out 1).trans rfl
                              have hcz37_2 : wr.cell? ⟨gb226, 2, none⟩ = some (.int .i64 x227002_1) := (blk_cell BK226.out 2).trans rfl
                              have hcz37_3 : wr.cell? ⟨gb226, 3, none⟩ = some (.int .i64 x227003_1) := (blk_cell BK226.out 3).trans rfl
                              have hcz37_4 : wr.cell? ⟨gb226, 4, none⟩ = some (.int .i64 x227004_1) := (blk_cell BK226.out 4).trans rfl
                              have hcz37_5 : wr.cell? ⟨gb226, 5, none⟩ = some (.int .i64 x227005_1) := (blk_cell BK226.out 5).trans rfl
                              have hcz37_6 : wr.cell? ⟨gb226, 6, none⟩ = some (.int .i64 x227006_1) := (blk_cell BK226.out 6).trans rfl
                              have hcz37_7 : wr.cell? ⟨gb226, 7, none⟩ = some (.int .i64 x227007_1) := (blk_cell BK226.out 7).trans rfl
                              have hcz37_8 : wr.cell? ⟨gb226, 8, none⟩ = some (.int .i64 x227008_1) := (blk_cell BK226.out 8).trans rfl
                              have hcz37_9 : wr.cell? ⟨gb226, 9, none⟩ = some (.int .i64 x227009_1) := (blk_cell BK226.out 9).trans rfl
                              have hcz37_10 : wr.cell? ⟨gb226, 10, none⟩ = some (.int .i64 x227010_1) := (blk_cell BK226.out 10).trans rfl
                              have hfz37_0 := blk_frozen BK226.out 0
                              have hfz37_1 := blk_frozen BK226.out 1
                              have hfz37_2 := blk_frozen BK226.out 2
                              have hfz37_3 := blk_frozen BK226.out 3
                              have hfz37_4 := blk_frozen BK226.out 4
                              have hfz37_5 := blk_frozen BK226.out 5
                              have hfz37_6 := blk_frozen BK226.out 6
                              have hfz37_7 := blk_frozen BK226.out 7
                              have hfz37_8 := blk_frozen BK226.out 8
                              have hfz37_9 := blk_frozen BK226.out 9
                              have hfz37_10 := blk_frozen BK226.out 10
                              go_wp2
                              go_roundg k1
                              case measure => have := HK1.out; omega
                              case rel => exact ⟨(IntKind.u64.wrap (Int.tdiv x0_1 64)), (wrap64 ((10 : Int) + 1)), (x227000_1), (x227001_1), (x227002_1), (x227003_1), (x227004_1), (x227005_1), (x227006_1), (x227007_1), (x227008_1), (x227009_1), (wrap64 (Int.tmod x0_1 64)), (by first | rfl | (simp; done) | (simp [*]; done) | (simp; decide +kernel)), (by first | rfl | (simp; done) | (simp [*]; done) | (simp; decide +kernel)), H', ⟨by have := HK1.out; omega⟩, ⟨by (with_reducible repeat (first | refine blk_drewN ?_ _ | refine blk_drew ?_ | refine blk_alloc ?_ _)); refine blk_far ?_ NB225_226.out _; (with_reducible repeat (first | refine blk_drewN ?_ _ | refine blk_drew ?_ | refine blk_alloc ?_ _)); exact BK225.out⟩, ⟨by (with_reducible repeat (first | refine blk_drewN ?_ _ | refine blk_drew ?_ | refine blk_alloc ?_ _)); refine blk_put (cs := #[.int .i64 x227000_1, .int .i64 x227001_1, .int .i64 x227002_1, .int .i64 x227003_1, .int .i64 x227004_1, .int .i64 x227005_1, .int .i64 x227006_1, .int .i64 x227007_1, .int .i64 x227008_1, .int .i64 x227009_1, .int .i64 x227010_1]) ?_ 10 _ rfl; (with_reducible repeat (first | refine blk_drewN ?_ _ | refine blk_drew ?_ | refine blk_alloc ?_ _)); exact BK226.out⟩, ⟨by repeat (first | (with_reducible first | exact HB.out | apply below_alloc | apply pw_below_drewN | apply below_drew1 | refine below_set ?_ GE225.out | refine below_set ?_ GE226.out) | exact HB.out)⟩⟩
                            · rw [if_neg c35] at H
                              clear c35
                              exact absurd H (by simp)
      · rw [if_neg c4] at H
        have c4b0 : decide (x4_1 < 11) = false := decide_eq_false c4
        clear c4
        simp only [Option.some.injEq, Prod.mk.injEq] at H
        obtain ⟨rfl, rfl, rfl, rfl, rfl, rfl, rfl, rfl, rfl, rfl, rfl⟩ := H
        have hnb38 := NB226_225.out
        have hnc38 := NB225_226.out
        have hcz39_0 : wr.cell? ⟨gb226, 0, none⟩ = some (.int .i64 x227000_1) := (blk_cell BK226.out 0).trans rfl
        have hcz39_1 : wr.cell? ⟨gb226, 1, none⟩ = some (.int .i64 x227001_1) := (blk_cell BK226.out 1).trans rfl
        have hcz39_2 : wr.cell? ⟨gb226, 2, none⟩ = some (.int .i64 x227002_1) := (blk_cell BK226.out 2).trans rfl
        have hcz39_3 : wr.cell? ⟨gb226, 3, none⟩ = some (.int .i64 x227003_1) := (blk_cell BK226.out 3).trans rfl
        have hcz39_4 : wr.cell? ⟨gb226, 4, none⟩ = some (.int .i64 x227004_1) := (blk_cell BK226.out 4).trans rfl
        have hcz39_5 : wr.cell? ⟨gb226, 5, none⟩ = some (.int .i64 x227005_1) := (blk_cell BK226.out 5).trans rfl
        have hcz39_6 : wr.cell? ⟨gb226, 6, none⟩ = some (.int .i64 x227006_1) := (blk_cell BK226.out 6).trans rfl
        have hcz39_7 : wr.cell? ⟨gb226, 7, none⟩ = some (.int .i64 x227007_1) := (blk_cell BK226.out 7).trans rfl
        have hcz39_8 : wr.cell? ⟨gb226, 8, none⟩ = some (.int .i64 x227008_1) := (blk_cell BK226.out 8).trans rfl
        have hcz39_9 : wr.cell? ⟨gb226, 9, none⟩ = some (.int .i64 x227009_1) := (blk_cell BK226.out 9).trans rfl
        have hcz39_10 : wr.cell? ⟨gb226, 10, none⟩ = some (.int .i64 x227010_1) := (blk_cell BK226.out 10).trans rfl
        have hfz39_0 := blk_frozen BK226.out 0
        have hfz39_1 := blk_frozen BK226.out 1
        have hfz39_2 := blk_frozen BK226.out 2
        have hfz39_3 := blk_frozen BK226.out 3
        have hfz39_4 := blk_frozen BK226.out 4
        have hfz39_5 := blk_frozen BK226.out 5
        have hfz39_6 := blk_frozen BK226.out 6
        have hfz39_7 := blk_frozen BK226.out 7
        have hfz39_8 := blk_frozen BK226.out 8
        have hfz39_9 := blk_frozen BK226.out 9
        have hfz39_10 := blk_frozen BK226.out 10
        have hcz40_0 : wr.cell? ⟨gb225, 0, none⟩ = some (.int .i64 0) := (blk_cell BK225.out 0).trans rfl
        have hcz40_1 : wr.cell? ⟨gb225, 1, none⟩ = some (.int .i64 0) := (blk_cell BK225.out 1).trans rfl
        have hcz40_2 : wr.cell? ⟨gb225, 2, none⟩ = some (.int .i64 0) := (blk_cell BK225.out 2).trans rfl
        have hcz40_3 : wr.cell? ⟨gb225, 3, none⟩ = some (.int .i64 0) := (blk_cell BK225.out 3).trans rfl
        have hcz40_4 : wr.cell? ⟨gb225, 4, none⟩ = some (.int .i64 0) := (blk_cell BK225.out 4).trans rfl
        have hcz40_5 : wr.cell? ⟨gb225, 5, none⟩ = some (.int .i64 0) := (blk_cell BK225.out 5).trans rfl
        have hcz40_6 : wr.cell? ⟨gb225, 6, none⟩ = some (.int .i64 0) := (blk_cell BK225.out 6).trans rfl
        have hcz40_7 : wr.cell? ⟨gb225, 7, none⟩ = some (.int .i64 0) := (blk_cell BK225.out 7).trans rfl
        have hcz40_8 : wr.cell? ⟨gb225, 8, none⟩ = some (.int .i64 0) := (blk_cell BK225.out 8).trans rfl
        have hcz40_9 : wr.cell? ⟨gb225, 9, none⟩ = some (.int .i64 0) := (blk_cell BK225.out 9).trans rfl
        have hcz40_10 : wr.cell? ⟨gb225, 10, none⟩ = some (.int .i64 0) := (blk_cell BK225.out 10).trans rfl
        have hfz40_0 := blk_frozen BK225.out 0
        have hfz40_1 := blk_frozen BK225.out 1
        have hfz40_2 := blk_frozen BK225.out 2
        have hfz40_3 := blk_frozen BK225.out 3
        have hfz40_4 := blk_frozen BK225.out 4
        have hfz40_5 := blk_frozen BK225.out 5
        have hfz40_6 := blk_frozen BK225.out 6
        have hfz40_7 := blk_frozen BK225.out 7
        have hfz40_8 := blk_frozen BK225.out 8
        have hfz40_9 := blk_frozen BK225.out 9
        have hfz40_10 := blk_frozen BK225.out 10
        go_wp2
        refine bodyPost_ret (results_cell_row rfl _ _ gb225 93 #[.int .i64 x227000_1, .int .i64 x227001_1, .int .i64 x227002_1, .int .i64 x227003_1, .int .i64 x227004_1, .int .i64 x227005_1, .int .i64 x227006_1, .int .i64 x227007_1, .int .i64 x227008_1, .int .i64 x227009_1, .int .i64 x227010_1] (0, 0) _ rfl (by (with_reducible repeat (first | refine blk_drewN ?_ _ | refine blk_drew ?_ | refine blk_alloc ?_ _)); refine blk_put (cs := #[.int .i64 x227000_1, .int .i64 x227001_1, .int .i64 x227002_1, .int .i64 x227003_1, .int .i64 x227004_1, .int .i64 x227005_1, .int .i64 x227006_1, .int .i64 x227007_1, .int .i64 x227008_1, .int .i64 x227009_1, .int .i64 0]) ?_ 10 _ rfl; (with_reducible repeat (first | refine blk_drewN ?_ _ | refine blk_drew ?_ | refine blk_alloc ?_ _)); refine blk_put (cs := #[.int .i64 x227000_1, .int .i64 x227001_1, .int .i64 x227002_1, .int .i64 x227003_1, .int .i64 x227004_1, .int .i64 x227005_1, .int .i64 x227006_1, .int .i64 x227007_1, .int .i64 x227008_1, .int .i64 0, .int .i64 0]) ?_ 9 _ rfl; (with_reducible repeat (first | refine blk_drewN ?_ _ | refine blk_drew ?_ | refine blk_alloc ?_ _)); refine blk_put (cs := #[.int .i64 x227000_1, .int .i64 x227001_1, .int .i64 x227002_1, .int .i64 x227003_1, .int .i64 x227004_1, .int .i64 x227005_1, .int .i64 x227006_1, .int .i64 x227007_1, .int .i64 0, .int .i64 0, .int .i64 0]) ?_ 8 _ rfl; (with_reducible repeat (first | refine blk_drewN ?_ _ | refine blk_drew ?_ | refine blk_alloc ?_ _)); refine blk_put (cs := #[.int .i64 x227000_1, .int .i64 x227001_1, .int .i64 x227002_1, .int .i64 x227003_1, .int .i64 x227004_1, .int .i64 x227005_1, .int .i64 x227006_1, .int .i64 0, .int .i64 0, .int .i64 0, .int .i64 0]) ?_ 7 _ rfl; (with_reducible repeat (first | refine blk_drewN ?_ _ | refine blk_drew ?_ | refine blk_alloc ?_ _)); refine blk_put (cs := #[.int .i64 x227000_1, .int .i64 x227001_1, .int .i64 x227002_1, .int .i64 x227003_1, .int .i64 x227004_1, .int .i64 x227005_1, .int .i64 0, .int .i64 0, .int .i64 0, .int .i64 0, .int .i64 0]) ?_ 6 _ rfl; (with_reducible repeat (first | refine blk_drewN ?_ _ | refine blk_drew ?_ | refine blk_alloc ?_ _)); refine blk_put (cs := #[.int .i64 x227000_1, .int .i64 x227001_1, .int .i64 x227002_1, .int .i64 x227003_1, .int .i64 x227004_1, .int .i64 0, .int .i64 0, .int .i64 0, .int .i64 0, .int .i64 0, .int .i64 0]) ?_ 5 _ rfl; (with_reducible repeat (first | refine blk_drewN ?_ _ | refine blk_drew ?_ | refine blk_alloc ?_ _)); refine blk_put (cs := #[.int .i64 x227000_1, .int .i64 x227001_1, .int .i64 x227002_1, .int .i64 x227003_1, .int .i64 0, .int .i64 0, .int .i64 0, .int .i64 0, .int .i64 0, .int .i64 0, .int .i64 0]) ?_ 4 _ rfl; (with_reducible repeat (first | refine blk_drewN ?_ _ | refine blk_drew ?_ | refine blk_alloc ?_ _)); refine blk_put (cs := #[.int .i64 x227000_1, .int .i64 x227001_1, .int .i64 x227002_1, .int .i64 0, .int .i64 0, .int .i64 0, .int .i64 0, .int .i64 0, .int .i64 0, .int .i64 0, .int .i64 0]) ?_ 3 _ rfl; (with_reducible repeat (first | refine blk_drewN ?_ _ | refine blk_drew ?_ | refine blk_alloc ?_ _)); refine blk_put (cs := #[.int .i64 x227000_1, .int .i64 x227001_1, .int .i64 0, .int .i64 0, .int .i64 0, .int .i64 0, .int .i64 0, .int .i64 0, .int .i64 0, .int .i64 0, .int .i64 0]) ?_ 2 _ rfl; (with_reducible repeat (first | refine blk_drewN ?_ _ | refine blk_drew ?_ | refine blk_alloc ?_ _)); refine blk_put (cs := #[.int .i64 x227000_1, .int .i64 0, .int .i64 0, .int .i64 0, .int .i64 0, .int .i64 0, .int .i64 0, .int .i64 0, .int .i64 0, .int .i64 0, .int .i64 0]) ?_ 1 _ rfl; (with_reducible repeat (first | refine blk_drewN ?_ _ | refine blk_drew ?_ | refine blk_alloc ?_ _)); refine blk_put (cs := #[.int .i64 0, .int .i64 0, .int .i64 0, .int .i64 0, .int .i64 0, .int .i64 0, .int .i64 0, .int .i64 0, .int .i64 0, .int .i64 0, .int .i64 0]) ?_ 0 _ rfl; (with_reducible repeat (first | refine blk_drewN ?_ _ | refine blk_drew ?_ | refine blk_alloc ?_ _)); exact BK225.out) Tryd.underlying93 rfl (by kernel_rfl)) rfl ?_
        exact ⟨by first | rfl | (simp [errW_none, errW_some] <;> rfl) | (simp [*, errW_none, errW_some] <;> rfl), by repeat (first | (with_reducible first | exact HB.out | apply below_alloc | apply pw_below_drewN | apply below_drew1 | refine below_set ?_ GE225.out | refine below_set ?_ GE226.out) | exact HB.out)⟩

end Go.Proofs.YtedolmjealgeoaaDoor.PBase
